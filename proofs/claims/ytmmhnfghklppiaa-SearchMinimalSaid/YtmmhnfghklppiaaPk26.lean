/- search.Solve: the solution that is put together from the parts' first ones. -/
import Derived.Test.YtmmhnfghklppiaaPk25
namespace Go.Proofs.Ytmmhnfghklppiaa.Vm
open Go
set_option linter.unusedSimpArgs false
set_option linter.unusedVariables false
set_option maxHeartbeats 4000000
set_option maxRecDepth 4000
structure SolnIn (D:FoundD) (n0:Nat) (cs:List (List Pt)):Prop where
 n:n0≤12
 sl:D.seens.length≤12
 len:cs.length=D.seens.length
 first:∀ i (h:i < D.seens.length) (h':i < cs.length),D.seens[i].first=some cs[i]
 part:∀ s∈D.seens,s.part.length≤12∧∀ k∈s.part,k < n0
 cl:∀ i (h:i < D.seens.length) (h':i < cs.length),cs[i].length=D.seens[i].part.length
def setZ (z:List (Nat×Pt)) (l:List Pt):List Pt:=z.foldl (fun p e=>p.set e.1 e.2) l
theorem setZ_succ {z:List (Nat×Pt)} {l:List Pt} {k:Nat} (h:k < z.length):setZ (z.take (k+1)) l=(setZ (z.take k) l).set z[k].1 z[k].2:=by
 unfold setZ;rw [← take_succ' h,List.foldl_append];rfl
theorem putAll_snoc:∀ (gs:List (List Nat)) (cs:List (List Pt)) (g:List Nat) (c:List Pt) (l:List Pt),gs.length=cs.length→putAll (gs++[g]) (cs++[c]) l=setZ (g.zip c) (putAll gs cs l)
 | [],[],g,c,l,_=>rfl
 | [],_::_,_,_,_,h=>by simp at h
 | _::_,[],_,_,_,h=>by simp at h
 | a::gs,b::cs,g,c,l,h=>by
  simp only [List.cons_append,putAll];exact putAll_snoc gs cs g c _ (by simpa using h)
def solTo (D:FoundD) (n0:Nat) (cs:List (List Pt)) (i:Nat):List Pt:=putAll ((D.seens.map (·.part)).take i) (cs.take i) (List.replicate n0 ⟨0,0⟩)
theorem solTo_succ {D:FoundD} {n0:Nat} {cs:List (List Pt)} {i:Nat} (h:i < D.seens.length) (h':i < cs.length):solTo D n0 cs (i+1)=setZ (D.seens[i].part.zip cs[i]) (solTo D n0 cs i):=by
 unfold solTo;rw [← take_succ' (xs:=D.seens.map (·.part)) (by simpa using h),← take_succ' h',putAll_snoc _ _ _ _ _ (by simp;omega),List.getElem_map]
theorem sh30:G.shared 30=false:=by decide
theorem e30 (n:Nat) (D:FoundD) (n0:Nat) (cs:List (List Pt)) (h:SolnIn D n0 cs):callP G (n+1) 30 [.agg D.cells,.int .i64 (n0:Nat),.int .i64 (-1),.nils]=some ((Sl.mk false (solTo D n0 cs D.seens.length)).pv Pt.cells 2):=by
 refine callP_of (ext_none _) rfl g30 rfl ?_
 obtain ⟨s,hs⟩:∃ s,s=Sl.of D.seens:=⟨_,rfl⟩
 have hsx:s.xs=D.seens:=by rw [hs,Sl.xs_of]
 have hDc:D.cells=[.bool D.empty,s.pv seenF 1]:=by rw [hs];rfl
 obtain ⟨b0,hb0⟩:∃ b,D.empty=b:=⟨_,rfl⟩
 have hsl:s.xs.length=D.seens.length:=by rw [hsx]
 have hn0:=h.n;have hsn:=h.sl;have hH:=Hide.mk h;have hsxH:=Hide.mk hsx;have hm:n0*2≤maxCells∧n0*16≤maxCells∧n0≤maxCells:=by simp only [maxCells];omega
 have hlen:Hide (∀ i,(solTo D n0 cs i).length=n0):=⟨fun i=>by unfold solTo;rw [putAll_length,List.length_replicate]⟩
 rw [hDc,hb0];rw [← hsl];clear h hs hsx hDc hb0;have hslH:=Hide.mk hsl;have hsn:s.xs.length≤12:=by omega
 clear hsl;(repeat' first|simp [*,initEnv,c30]|(apply wpIf_two<;>intro _ h<;>try simp [-Nat.le_zero_eq] at h))
 refine wp_loopF [(10,14),(20,51)] (fun (i:Nat) env H=>env 20=.pure (.int .i64 i)∧i≤s.xs.length∧H.get 0=.cells true (rowOf Pt.cells (solTo D n0 cs i))) (fun i=>s.xs.length - i) 0 ?_ ?_ ?_ ?_
 ·decide
 ·refine ⟨by simp,by omega,?_⟩
  simp [solTo,putAll,rowOf,Pt.cells]
 ·simp only [loopFuel];omega
 rintro i env H ⟨g20,hi,hg⟩
 by_cases hlt:i < s.xs.length
 ·have w1:IntKind.i64.wrap ((i:Int)+1)=(i+1:Nat):=by rw [wrap64 (by omega) (by omega)];omega
  have hltI:(i:Int) < s.xs.length:=by omega
  have hiD:i < D.seens.length:=by rw [← hslH.h];exact hlt
  have hic:i < cs.length:=by rw [hH.h.len];exact hiD
  obtain ⟨D',hD'⟩:∃ D',s.xs[i]=D':=⟨_,rfl⟩
  have hDD:D.seens[i]=D':=by rw [← hD'];simp only [hsxH.h]
  obtain ⟨c,hcc⟩:∃ c,cs[i]=c:=⟨_,rfl⟩
  have hfi:=hH.h.first i hiD hic;have hcl:=hH.h.cl i hiD hic;have hpt:=hH.h.part _ (List.getElem_mem hiD);have hst:=solTo_succ (n0:=n0) hiD hic;rw [hDD,hcc] at hfi hcl hst;rw [hDD] at hpt;have hse:seenF s.xs[i]=[.ptr false [(Sl.mk false (intsN D'.part)).pv intF 1,.int .i64 D'.n,.slice false 4 (chunks 4 D'.part.length (D'.ends.map optPV)),(Sl.mk false c).pv Pt.cells 2] 0]:=by
   rw [hD'];have e1:partPV D'.part=(Sl.mk false (intsN D'.part)).pv intF 1:=by simp [partPV,intsN,Sl.pv,intF]
   have e2:optPV D'.first=(Sl.mk false c).pv Pt.cells 2:=by rw [hfi];rfl
   rw [← e1,← e2];rfl
  obtain ⟨cc,hccc⟩:∃ x,PV.slice false 4 (chunks 4 D'.part.length (D'.ends.map optPV))=x:=⟨_,rfl⟩
  rw [hccc] at hse;obtain ⟨dn,hdn⟩:∃ x:Int,(D'.n:Int)=x:=⟨_,rfl⟩
  rw [hdn] at hse;obtain ⟨pt,hpp⟩:∃ x,D'.part=x:=⟨_,rfl⟩
  rw [hpp] at hse hcl hst hpt;have hne:¬ (i:Int)=-1:=by omega
  have npt:=hpt.1;have hptH:=Hide.mk hpt.2;have hstH:=Hide.mk hst;have e1:(intsN pt).length=pt.length:=intsN_length pt;clear hccc hdn hpp hD' hDD hcc hfi hst hpt;(repeat' first|simp [*,initEnv]|(apply wpIf_two<;>intro _ h<;>try simp [-Nat.le_zero_eq] at h))
  refine wp_loopF [(13,14),(38,50)] (fun (k:Nat) env H=>env 38=.pure (.int .i64 k)∧k≤pt.length∧H.get 0=.cells true (rowOf Pt.cells (setZ ((pt.zip c).take k) (solTo D n0 cs i)))) (fun k=>pt.length - k) 0 ?_ ?_ ?_ ?_
  ·decide
  ·exact ⟨by simp,by omega,by simpa [setZ] using hg⟩
  ·simp only [loopFuel];omega
  clear hg;rintro k env2 H2 ⟨g38,hk,hg⟩;have hid:=nx_of_get hg
  by_cases hkl:k < pt.length
  ·have w2:IntKind.i64.wrap ((k:Int)+1)=(k+1:Nat):=by rw [wrap64 (by omega) (by omega)];omega
   have hkI:(k:Int) < pt.length:=by omega
   have hkc:k < c.length:=by omega
   have hkcI:(k:Int) < c.length:=by omega
   have hkx:k < (intsN pt).length:=by omega
   obtain ⟨q,hq⟩:∃ q,pt[k]=q:=⟨_,rfl⟩
   have gj:(intsN pt)[k]=(q:Int):=by simp [intsN,hq]
   have hqn:q < n0:=hptH.h q (hq ▸ List.getElem_mem hkl);have hqnI:(q:Int) < n0:=by omega
   have hcl2:(setZ ((pt.zip c).take k) (solTo D n0 cs i)).length=n0:=by unfold setZ;rw [fold_length];exact hlen.h i
   have hkz:k < (pt.zip c).length:=by rw [List.length_zip];omega
   have hsz:=setZ_succ (l:=solTo D n0 cs i) hkz;rw [List.getElem_zip] at hsz;simp only [hq] at hsz;have hp:=putIn_rowG (f:=Pt.cells) (sz:=2) (l:=setZ ((pt.zip c).take k) (solTo D n0 cs i)) (a:=c[k]) (i:=q) (fun _=>rfl) (fun _=>rfl) (by decide) (by rw [hcl2];exact hqn);rw [← hsz] at hp;simp only [Pt.cells,List.map_cons,List.map_nil] at hp;clear hsz hq;generalize setZ ((pt.zip c).take k) (solTo D n0 cs i)=Z at *;(repeat' first|simp [*,initEnv,Pt.cells]|(apply wpIf_two<;>intro _ h<;>try simp [-Nat.le_zero_eq] at h));exact ⟨k+1,by omega,by omega,by omega,rfl⟩
  ·have hkl:k=pt.length:=by omega
   subst hkl;rw [List.take_of_length_le (by rw [List.length_zip];omega),← hstH.h] at hg;(repeat' first|simp [*,initEnv]|(apply wpIf_two<;>intro _ h<;>try simp [-Nat.le_zero_eq] at h));exact ⟨i+1,by omega,by omega,by omega,rfl⟩
 ·have hil:i=s.xs.length:=by omega
  subst hil;have h1:=row_res (n:=10) (f:=Pt.cells) (sz:=2) (fun _=>rfl) hg (hlen.h _);(repeat' first|simp [*,initEnv]|(apply wpIf_two<;>intro _ h<;>try simp [-Nat.le_zero_eq] at h));exact h1
def solveF (p:Problem) (D:FoundD) (e:Int) (cs:List (List Pt)):Sl Pt×Int:=if e≠0 then (.nil,e) else if D.empty=true then (.nil,9) else (.mk false (solTo D p.boxes.xs.length cs D.seens.length),0)
theorem sh8:G.shared 8=false:=by decide
theorem e8 (n:Nat) (p:Problem) (D:FoundD) (e:Int) (h:SolvedOut p D e) (cs:List (List Pt)) (hs:e=0→D.empty=false→SolnIn D p.boxes.xs.length cs):callP G (n+53) 8 [.agg p.cells]=some (.tup [(solveF p D e cs).1.pv Pt.cells 2,.int .i64 (solveF p D e cs).2]):=by
 refine callP_of (ext_none _) rfl g8 rfl ?_
 have hn:=fun H=>call_pureC (G:=G) (n:=n+52) (H:=H) (caps:=[]) (ps:=[.agg p.cells]) sh18 (e18 n p D e h);have hsol:=fun (he:e=0) (hb:D.empty=false) H=>call_pureC (G:=G) (n:=n+52) (H:=H) (caps:=[]) (ps:=[.agg D.cells,.int .i64 (p.boxes.xs.length:Nat),.int .i64 (-1),.nils]) sh30 (e30 (n+51) D p.boxes.xs.length cs (hs he hb));simp only [Problem.cells,FoundD.cells,List.map_cons,List.map_nil] at hn hsol;clear h hs
 by_cases h1:e=0
 case neg =>
  have hr:solveF p D e cs=(.nil,e):=by unfold solveF;rw [if_pos h1]
  have z:(Sl.nil:Sl Pt).pv Pt.cells 2=.nils:=rfl;rw [hr];simp only [z];clear hr hsol z;(repeat' first|simp [*,initEnv,c8,Problem.cells]|(apply wpIf_two<;>intro _ h<;>try simp [-Nat.le_zero_eq] at h))
 case pos =>
  subst h1
  cases hD:D.empty with
  | true =>
   have hr:solveF p D 0 cs=(.nil,9):=by unfold solveF;rw [if_neg (by simp),if_pos hD]
   have z:(Sl.nil:Sl Pt).pv Pt.cells 2=.nils:=rfl;rw [hr];simp only [z];rw [hD] at hn;clear hr hsol z;(repeat' first|simp [*,initEnv,c8,Problem.cells]|(apply wpIf_two<;>intro _ h<;>try simp [-Nat.le_zero_eq] at h))
  | false =>
   have hr:solveF p D 0 cs=(.mk false (solTo D p.boxes.xs.length cs D.seens.length),0):=by unfold solveF;rw [if_neg (by simp),if_neg (by simp [hD])]
   rw [hr];have hsol2:=hsol rfl hD;clear hsol;have hsol:=hsol2;clear hsol2;rw [hD] at hn hsol;simp only;generalize (Sl.mk false (solTo D p.boxes.xs.length cs D.seens.length))=S at *;obtain ⟨sD,hsD⟩:∃ s,Sl.of D.seens=s:=⟨_,rfl⟩
   rw [hsD] at hn hsol;clear hr hD hsD;(repeat' first|simp [*,initEnv,c8,Problem.cells]|(apply wpIf_two<;>intro _ h<;>try simp [-Nat.le_zero_eq] at h))
end Go.Proofs.Ytmmhnfghklppiaa.Vm
