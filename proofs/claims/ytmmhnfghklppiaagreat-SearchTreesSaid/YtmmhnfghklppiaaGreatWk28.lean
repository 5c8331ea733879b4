/- search.Solve: the solution that is put together from the parts' first ones. -/
import Derived.Test.YtmmhnfghklppiaaGreatWk25
namespace Go.Proofs.YtmmhnfghklppiaaGreat.Vm
open Go
set_option linter.unusedSimpArgs false
set_option linter.unusedVariables false
set_option maxHeartbeats 4000000
set_option maxRecDepth 4000
structure IL (D:aZ) (n0:Nat) (cs:List (List Pt)):Prop where
 n:n0<=12
 sl:D.ag.length<=12
 len:cs.length=D.ag.length
 first:∀ i (h:i < D.ag.length) (h':i < cs.length),D.ag[i].first=some cs[i]
 part:∀ s∈D.ag,s.part.length<=12/\∀ k∈s.part,k < n0
 cl:∀ i (h:i < D.ag.length) (h':i < cs.length),cs[i].length=D.ag[i].part.length
structure Dq (D:aZ) (n0:Nat) (cs:List (List Pt)) (at_:Int) (E:Sl Pt):Prop where
 n:n0<=12
 sl:D.ag.length<=12
 len:cs.length=D.ag.length
 first:∀ i (h:i < D.ag.length) (h':i < cs.length),(i:Int)≠at_->D.ag[i].first=some cs[i]
 own:∀ i (h:i < D.ag.length) (h':i < cs.length),(i:Int)=at_->E=.mk false cs[i]
 part:∀ s∈D.ag,s.part.length<=12/\∀ k∈s.part,k < n0
 cl:∀ i (h:i < D.ag.length) (h':i < cs.length),cs[i].length=D.ag[i].part.length
theorem IL.at {D:aZ} {n0:Nat} {cs:List (List Pt)} (h:IL D n0 cs):Dq D n0 cs (-1) .nil :=
 ⟨h.n,h.sl,h.len,fun i h1 h2 _=>h.first i h1 h2,fun i h1 h2 h3=>by omega,h.part,h.cl⟩
def oQ (z:List (Nat×Pt)) (l:List Pt):List Pt:=z.foldl (fun p e=>p.set e.1 e.2) l
theorem zjU {z:List (Nat×Pt)} {l:List Pt} {k:Nat} (h:k < z.length):oQ (z.take (k+1)) l=(oQ (z.take k) l).set z[k].1 z[k].2:=by
 unfold oQ;rw [<- E5 h,List.foldl_append];rfl
theorem zhk:∀ (gs:List (List Nat)) (cs:List (List Pt)) (g:List Nat) (c:List Pt) (l:List Pt),gs.length=cs.length->wC (gs++[g]) (cs++[c]) l=oQ (g.zip c) (wC gs cs l)
 | [],[],g,c,l,_=>rfl
 | [],_::_,_,_,_,h=>by simp at h
 | _::_,[],_,_,_,h=>by simp at h
 | a::gs,b::cs,g,c,l,h=>by
  simp only [List.cons_append,wC];exact zhk gs cs g c _ (by simpa using h)
def xm (D:aZ) (n0:Nat) (cs:List (List Pt)) (i:Nat):List Pt:=wC ((D.ag.map (·.part)).take i) (cs.take i) (List.replicate n0 ⟨0,0⟩)
theorem zne {D:aZ} {n0:Nat} {cs:List (List Pt)} {i:Nat} (h:i < D.ag.length) (h':i < cs.length):xm D n0 cs (i+1)=oQ (D.ag[i].part.zip cs[i]) (xm D n0 cs i):=by
 unfold xm;rw [<- E5 (xs:=D.ag.map (·.part)) (by simpa using h),<- E5 h',zhk _ _ _ _ _ (by simp;omega),List.getElem_map]
theorem sh54:G.shared 54=false:=by decide
theorem e54 (n:Nat) (D:aZ) (n0:Nat) (cs:List (List Pt)) (at_:Int) (E:Sl Pt) (h:Dq D n0 cs at_ E):zK G (n+1) 54 [.agg D.cells,.int .i64 (n0:Nat),.int .i64 at_,E.pv Pt.cells 2]=some ((Sl.mk false (xm D n0 cs D.ag.length)).pv Pt.cells 2):=by
 refine zz (zy _) rfl g54 rfl ?_
 obtain ⟨s,hs⟩:∃ s,s=Sl.of D.ag:=⟨_,rfl⟩
 have yn:s.xs=D.ag:=by rw [hs,Sl.iV]
 have EH:D.cells=[.bool D.empty,s.pv ym 1]:=by rw [hs];rfl
 obtain ⟨b0,uG⟩:∃ b,D.empty=b:=⟨_,rfl⟩
 have pV:s.xs.length=D.ag.length:=by rw [yn]
 have vS:=h.n;have CJ:=h.sl;have hH:=Hide.mk h;have FD:=Hide.mk yn;have hm:n0*2<=zo/\n0*16<=zo/\n0<=zo:=by simp only [zo];omega
 have hlen:Hide (∀ i,(xm D n0 cs i).length=n0):=⟨fun i=>by unfold xm;rw [zd9,List.length_replicate]⟩
 rw [EH,uG];rw [<- pV];clear h hs yn EH uG;have hslH:=Hide.mk pV;have CJ:s.xs.length<=12:=by omega
 clear pV;(repeat' first|simp [*,zb,c54]|(apply za<;>intro _ h<;>try simp [-Nat.le_zero_eq] at h))
 refine zL [(10,14),(20,51)] (fun (i:Nat) env H=>env 20=.pure (.int .i64 i)/\i<=s.xs.length/\H.get 0=.cells true (zq Pt.cells (xm D n0 cs i))) (fun i=>s.xs.length - i) 0 ?_ ?_ ?_ ?_
 .decide
 .refine ⟨by simp,by omega,?_⟩
  simp [xm,wC,zq,Pt.cells]
 .simp only [zF];omega
 rintro i env H ⟨g20,hi,hg⟩
 by_cases aO:i < s.xs.length
 .have w1:IntKind.i64.wrap ((i:Int)+1)=(i+1:Nat):=by rw [wrap64 (by omega) (by omega)];omega
  have qh:(i:Int) < s.xs.length:=by omega
  have Q9:i < D.ag.length:=by rw [<- hslH.h];exact aO
  have M6:i < cs.length:=by rw [hH.h.len];exact Q9
  obtain ⟨D',FH⟩:∃ D',s.xs[i]=D':=⟨_,rfl⟩
  have Py:D.ag[i]=D':=by rw [<- FH];simp only [FD.h]
  obtain ⟨c,tV⟩:∃ c,cs[i]=c:=⟨_,rfl⟩
  have fF:=hH.h.first i Q9 M6;have XB:=hH.h.own i Q9 M6;have fJ:=hH.h.cl i Q9 M6;have Di:=hH.h.part _ (List.getElem_mem Q9);have fA:=zne (n0:=n0) Q9 M6;rw [Py,tV] at fF fJ fA;rw [tV] at XB;rw [Py] at Di;have Ea:ym s.xs[i]=[.ptr false [(Sl.mk false (zZ D'.part)).pv aI 1,.int .i64 D'.n,.slice false 4 (chunks 4 D'.part.length (D'.ends.map iN)),iN D'.first] 0]:=by
   rw [FH];have e1:lK D'.part=(Sl.mk false (zZ D'.part)).pv aI 1:=by simp [lK,zZ,Sl.pv,aI]
   rw [<- e1];rfl
  obtain ⟨cc,Pz⟩:∃ x,PV.slice false 4 (chunks 4 D'.part.length (D'.ends.map iN))=x:=⟨_,rfl⟩
  rw [Pz] at Ea;obtain ⟨dn,Jf⟩:∃ x:Int,(D'.n:Int)=x:=⟨_,rfl⟩
  rw [Jf] at Ea;obtain ⟨pt,yj⟩:∃ x,D'.part=x:=⟨_,rfl⟩
  rw [yj] at Ea fJ fA Di;have npt:=Di.1;have KR:=Hide.mk Di.2;have wF:=Hide.mk fA;have e1:(zZ pt).length=pt.length:=Ez pt
  by_cases sJ:(i:Int)=at_
  .have hE:=XB sJ;subst hE;subst sJ;obtain ⟨oo,Hy⟩:∃ x,iN D'.first=x:=⟨_,rfl⟩
   rw [Hy] at Ea;clear Pz Jf yj FH Py tV fF fA Di XB Hy;(repeat' first|simp [*,zb]|(apply za<;>intro _ h<;>try simp [-Nat.le_zero_eq] at h))
   refine zL [(13,14),(38,50)] (fun (k:Nat) env H=>env 38=.pure (.int .i64 k)/\k<=pt.length/\H.get 0=.cells true (zq Pt.cells (oQ ((pt.zip c).take k) (xm D n0 cs i)))) (fun k=>pt.length - k) 0 ?_ ?_ ?_ ?_
   .decide
   .exact ⟨by simp,by omega,by simpa [oQ] using hg⟩
   .simp only [zF];omega
   clear hg;rintro k ji H2 ⟨g38,hk,hg⟩;have au:=zx hg
   by_cases IM:k < pt.length
   .have w2:IntKind.i64.wrap ((k:Int)+1)=(k+1:Nat):=by rw [wrap64 (by omega) (by omega)];omega
    have M0:(k:Int) < pt.length:=by omega
    have BH:k < c.length:=by omega
    have hkcI:(k:Int) < c.length:=by omega
    have hkx:k < (zZ pt).length:=by omega
    obtain ⟨q,hq⟩:∃ q,pt[k]=q:=⟨_,rfl⟩
    have gj:(zZ pt)[k]=(q:Int):=by simp [zZ,hq]
    have hqn:q < n0:=KR.h q (hq ▸ List.getElem_mem IM);have hqnI:(q:Int) < n0:=by omega
    have PD:(oQ ((pt.zip c).take k) (xm D n0 cs i)).length=n0:=by unfold oQ;rw [TP];exact hlen.h i
    have hkz:k < (pt.zip c).length:=by rw [List.length_zip];omega
    have bZ:=zjU (l:=xm D n0 cs i) hkz;rw [List.getElem_zip] at bZ;simp only [hq] at bZ;have hp:=H7 (f:=Pt.cells) (sz:=2) (l:=oQ ((pt.zip c).take k) (xm D n0 cs i)) (a:=c[k]) (i:=q) (fun _=>rfl) (fun _=>rfl) (by decide) (by rw [PD];exact hqn);rw [<- bZ] at hp;simp only [Pt.cells,List.map] at hp;clear bZ hq;generalize oQ ((pt.zip c).take k) (xm D n0 cs i)=Z at *;(repeat' first|simp [*,zb,Pt.cells]|(apply za<;>intro _ h<;>try simp [-Nat.le_zero_eq] at h));exact ⟨k+1,by omega,by omega,by omega,rfl⟩
   .have IM:k=pt.length:=by omega
    subst IM;rw [List.take_of_length_le (by rw [List.length_zip];omega),<- wF.h] at hg;(repeat' first|simp [*,zb]|(apply za<;>intro _ h<;>try simp [-Nat.le_zero_eq] at h));exact ⟨i+1,by omega,by omega,by omega,rfl⟩
  .have Hy:iN D'.first=(Sl.mk false c).pv Pt.cells 2:=by rw [fF sJ];rfl
   rw [Hy] at Ea;clear Pz Jf yj FH Py tV fF fA Di XB Hy;(repeat' first|simp [*,zb]|(apply za<;>intro _ h<;>try simp [-Nat.le_zero_eq] at h))
   refine zL [(13,14),(38,50)] (fun (k:Nat) env H=>env 38=.pure (.int .i64 k)/\k<=pt.length/\H.get 0=.cells true (zq Pt.cells (oQ ((pt.zip c).take k) (xm D n0 cs i)))) (fun k=>pt.length - k) 0 ?_ ?_ ?_ ?_
   .decide
   .exact ⟨by simp,by omega,by simpa [oQ] using hg⟩
   .simp only [zF];omega
   clear hg;rintro k ji H2 ⟨g38,hk,hg⟩;have au:=zx hg
   by_cases IM:k < pt.length
   .have w2:IntKind.i64.wrap ((k:Int)+1)=(k+1:Nat):=by rw [wrap64 (by omega) (by omega)];omega
    have M0:(k:Int) < pt.length:=by omega
    have BH:k < c.length:=by omega
    have hkcI:(k:Int) < c.length:=by omega
    have hkx:k < (zZ pt).length:=by omega
    obtain ⟨q,hq⟩:∃ q,pt[k]=q:=⟨_,rfl⟩
    have gj:(zZ pt)[k]=(q:Int):=by simp [zZ,hq]
    have hqn:q < n0:=KR.h q (hq ▸ List.getElem_mem IM);have hqnI:(q:Int) < n0:=by omega
    have PD:(oQ ((pt.zip c).take k) (xm D n0 cs i)).length=n0:=by unfold oQ;rw [TP];exact hlen.h i
    have hkz:k < (pt.zip c).length:=by rw [List.length_zip];omega
    have bZ:=zjU (l:=xm D n0 cs i) hkz;rw [List.getElem_zip] at bZ;simp only [hq] at bZ;have hp:=H7 (f:=Pt.cells) (sz:=2) (l:=oQ ((pt.zip c).take k) (xm D n0 cs i)) (a:=c[k]) (i:=q) (fun _=>rfl) (fun _=>rfl) (by decide) (by rw [PD];exact hqn);rw [<- bZ] at hp;simp only [Pt.cells,List.map] at hp;clear bZ hq;generalize oQ ((pt.zip c).take k) (xm D n0 cs i)=Z at *;(repeat' first|simp [*,zb,Pt.cells]|(apply za<;>intro _ h<;>try simp [-Nat.le_zero_eq] at h));exact ⟨k+1,by omega,by omega,by omega,rfl⟩
   .have IM:k=pt.length:=by omega
    subst IM;rw [List.take_of_length_le (by rw [List.length_zip];omega),<- wF.h] at hg;(repeat' first|simp [*,zb]|(apply za<;>intro _ h<;>try simp [-Nat.le_zero_eq] at h));exact ⟨i+1,by omega,by omega,by omega,rfl⟩
 .have aX:i=s.xs.length:=by omega
  subst aX;have h1:=sO (n:=10) (f:=Pt.cells) (sz:=2) (fun _=>rfl) hg (hlen.h _);(repeat' first|simp [*,zb]|(apply za<;>intro _ h<;>try simp [-Nat.le_zero_eq] at h));exact h1
end Go.Proofs.YtmmhnfghklppiaaGreat.Vm
