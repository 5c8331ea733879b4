/- Allows of the specification: the same answer as the program's. -/
import Derived.Test.YtmmhnfghklppiaaGreatUk27
import Derived.Test.YtmmhnfghklppiaaGreatUk17
namespace Go.Proofs.YtmmhnfghklppiaaGreat.Vm
open Go
set_option linter.unusedSimpArgs false
set_option linter.unusedVariables false
set_option maxHeartbeats 4000000
theorem zvY:G.shared 100=false:=by decide
theorem e100 (n:Nat) (p:Pt) (b:Box):zF G (n+1) 100 [.agg p.cells,.agg b.cells]=some (.bool (rE p b)):=by
 refine zy (zx _) rfl g100 rfl ?_
 (repeat' first|simp [*,zb,c100,Pt.cells,Box.cells,Span.cells,rE,nP]|(apply za<;>intro _ h<;>try simp [-Nat.le_zero_eq] at h))
theorem sh56:G.shared 56=false:=by decide
theorem e56 (n:Nat) (p:Problem) (l:Sl Pt) (hl:l.xs.length < 1000):zF G (n+9) 56 [.agg p.cells,l.pv Pt.cells 2]=some (.aQ [.int .i64 (aO p l.xs).1,.bool (aO p l.xs).2]):=by
 refine zy (zx _) rfl g56 rfl ?_
 obtain ⟨bs,fs⟩:=p;have hC:=fun H=>zf (G:=G) (n:=n+8) (H:=H) (caps:=[]) (ps:=[.agg (Problem.mk bs fs).cells]) sh27 (e27 (n+5) ⟨bs,fs⟩);have hA:=fun H=>zf (G:=G) (n:=n+8) (H:=H) (caps:=[]) (ps:=[l.pv Pt.cells 2]) zvN (e101 (n+7) l hl);simp only [Problem.cells,List.map] at hC hA
 by_cases hc:jL ⟨bs,fs⟩=0
 case neg =>
  have hr:aO ⟨bs,fs⟩ l.xs=(-1,false):=by unfold aO;rw [if_neg (fun h=>hc h.1)]
  generalize jL ⟨bs,fs⟩=c at *;rw [hr];clear hr;simp [*,zb,c56,Problem.cells]
 have ok:=bT.1 hc;rw [hc] at hC;have nb:bs.xs.length<=12:=ok.nb;have nf:fs.xs.length<=60:=ok.nf
 by_cases hlen:l.xs.length=bs.xs.length
 case neg =>
  have hr:aO ⟨bs,fs⟩ l.xs=(-1,false):=by unfold aO;rw [if_neg (fun h=>hlen h.2.1)]
  rw [hr];have Vj:¬ (l.xs.length:Int)=bs.xs.length:=by omega
  clear hr hc ok;simp [*,zb,c56,Problem.cells]
 have hr:Hide (Aa l.xs bs.xs->aO ⟨bs,fs⟩ l.xs=Gm (l.xs.map bf) fs.xs 0):=⟨fun hi=>by unfold aO;rw [if_pos ⟨hc,hlen,hi⟩]⟩
 have Fg:Hide (¬ Aa l.xs bs.xs->aO ⟨bs,fs⟩ l.xs=(-1,false)):=⟨fun hi=>by unfold aO;rw [if_neg (fun h=>hi h.2.2)]⟩
 have bQ:=Hide.mk ok;generalize aO ⟨bs,fs⟩ l.xs=r at *;have Jd:(l.xs.length:Int)=bs.xs.length:=by omega
 have LM:=Hide.mk hlen;clear hc ok hlen;(repeat' first|simp [*,zb,c56,Problem.cells]|(apply za<;>intro _ h<;>try simp [-Nat.le_zero_eq] at h))
 refine zA [(4,7),(22,39)] (fun (i:Nat) env H=>env 6=.pure (.int .i64 i)/\i<=bs.xs.length/\Hide (∀ j (h:j < bs.xs.length) (h':j < l.xs.length),j < i->rE l.xs[j] bs.xs[j]=true)) (fun i=>bs.xs.length - i) 0 ?_ ?_ ?_ ?_
 .decide
 .exact ⟨by simp,by omega,⟨fun _ _ _ h=>by omega⟩⟩
 .simp only [zz];omega
 rintro i env H ⟨g0,hi,hn⟩
 by_cases aK:i < bs.xs.length
 .have jT:i < l.xs.length:=by have:=LM.h;omega
  have w1:IntKind.i64.wrap ((i:Int)+1)=(i+1:Nat):=by rw [wrap64 (by omega) (by omega)];omega
  have hp:=Hide.mk (hn.h);have hW:=fun H=>zf (G:=G) (n:=n+8) (H:=H) (caps:=[]) (ps:=[.agg (l.xs[i]).cells,.agg (bs.xs[i]).cells]) zvY (e100 (n+7) l.xs[i] bs.xs[i]);simp only [Pt.cells,Box.cells,Span.cells,List.map] at hW
  cases iZ:rE l.xs[i] bs.xs[i] with
  | true =>
   have jc:Hide (∀ j (h:j < bs.xs.length) (h':j < l.xs.length),j < i+1->rE l.xs[j] bs.xs[j]=true):=⟨fun j h h' hj=>by
    by_cases e:j=i
    .subst e;exact iZ
    .exact hn.h j h h' (by omega)⟩
   rw [iZ] at hW;clear hn hp iZ;(repeat' first|simp [*,zb,Pt.cells,Box.cells,Span.cells]|(apply za<;>intro _ h<;>try simp [-Nat.le_zero_eq] at h));exact ⟨i+1,by omega,rfl,by omega,jc⟩
  | false =>
   have Ab:r=(-1,false):=Fg.h fun h=>by rw [h i aK jT] at iZ;simp at iZ
   subst Ab;rw [iZ] at hW;clear hn hp hr Fg iZ;simp [*,zb,Pt.cells,Box.cells,Span.cells]
 .have aT:i=bs.xs.length:=by omega
  subst aT;have Br:Aa l.xs bs.xs:=fun j h h'=>hn.h j h h' h;have Ab:=Hide.mk (hr.h Br);have tF:=Hide.mk fun (f:Fact) (hf:f∈fs.xs) H=>zf (G:=G) (n:=n+8) (H:=H) (caps:=[]) (ps:=[.agg f.cells,(Sl.of (l.xs.map bf)).pv Box.cells 4]) zr4 (e102 (n+1) f (Sl.of (l.xs.map bf)) (by
   rw [Sl.fP];exact YF (bQ.h.fine (by simpa using LM.h) (zi1 bQ.h LM.h Br) hf)) (zra (bQ.h.fine (l:=l.xs.map bf) (by simpa using LM.h) (zi1 bQ.h LM.h Br) hf)))
  clear hr Fg hn Br bQ;simp only [Sl.fP] at tF;generalize Sl.of (l.xs.map bf)=s at *;(repeat' first|simp [*,zb]|(apply za<;>intro _ h<;>try simp [-Nat.le_zero_eq] at h))
  refine zA [(4,5),(9,10),(42,57)] (fun (i:Nat) env H=>env 9=.pure (.int .i64 i)/\i<=fs.xs.length/\Hide (∀ j (h:j < fs.xs.length),j < i->zD fs.xs[j] (l.xs.map bf)=false)) (fun i=>fs.xs.length - i) 0 ?_ ?_ ?_ ?_
  .decide
  .exact ⟨by simp,by omega,⟨fun _ _ h=>by omega⟩⟩
  .simp only [zz];omega
  rintro i env H ⟨g0,hi,hn⟩
  by_cases aK:i < fs.xs.length
  .have w1:IntKind.i64.wrap ((i:Int)+1)=(i+1:Nat):=by rw [wrap64 (by omega) (by omega)];omega
   have hv:=tF.h fs.xs[i] (List.getElem_mem aK);simp only [Fact.cells,List.map] at hv
   cases hf:zD fs.xs[i] (l.xs.map bf) with
   | true =>
    have Ab:=Ab.h.trans (zgS fs.xs 0 i aK hn.h hf);subst Ab;rw [hf] at hv;clear hf hn tF;simp [*,zb,Fact.cells]
   | false =>
    have jc:Hide (∀ j (h:j < fs.xs.length),j < i+1->zD fs.xs[j] (l.xs.map bf)=false):=⟨fun j h hj=>by
     by_cases e:j=i
     .subst e;exact hf
     .exact hn.h j h (by omega)⟩
    rw [hf] at hv;clear hf hn tF Ab;(repeat' first|simp [*,zb,Fact.cells]|(apply za<;>intro _ h<;>try simp [-Nat.le_zero_eq] at h));exact ⟨i+1,by omega,rfl,by omega,jc⟩
  .have aT:i=fs.xs.length:=by omega
   subst aT;have Ab:=Ab.h.trans (ze7 fs.xs 0 fun j h=>hn.h j h h);subst Ab;clear hn tF;simp [*,zb]
end Go.Proofs.YtmmhnfghklppiaaGreat.Vm
