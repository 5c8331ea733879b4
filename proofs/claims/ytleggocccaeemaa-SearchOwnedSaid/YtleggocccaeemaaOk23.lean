/- The places of a box, gone through by a range over a function. -/
import Derived.Test.YtleggocccaeemaaOk17
import Derived.Test.YtleggocccaeemaaOk15
namespace Go.Proofs.Ytleggocccaeemaa.Vm
open Go
set_option linter.unusedSimpArgs false
set_option linter.unusedVariables false
set_option maxHeartbeats 4000000
set_option maxRecDepth 4000
theorem zi9 (n:Nat) (b:Box) (hb:zaz b=true) (H:Heap) (id0:Nat) (r:LoopR) (hr1:r.state=.ready) (hr2:r.pending=.normal) (hr3:r.params.length=1) (hg:H.get id0=.loop r)
  (J:Nat->Nat->Heap->Prop) (h0:J 0 0 H)
  (hrow:∀ i H1,J i (b.y.hi - b.y.lo+1).toNat H1->J (i+1) 0 H1)
  (hbody:∀ i k H1,i < (b.x.hi - b.x.lo+1).toNat->k < (b.y.hi - b.y.lo+1).toNat->J i k H1->H1.get id0=.loop r ->
   wp (zq G n) r.assign ((r.params.zip [.pure (.agg [.int .i64 (b.x.lo+i),.int .i64 (b.y.lo+k)])]).foldl (fun e x=>upd e x.1 x.2) r.env) H1 (fun x env2 H2=>x=.normal/\H2.get id0=.loop r /\
    wp (zq G n) r.body env2 (H2.set id0 (.loop { r with state:=.busy })) (fun x _ H3=>x=.normal/\H3.get id0=.loop { r with state:=.busy }/\J i (k+1) (H3.set id0 (.loop r))) .mk) .mk) :
  ∃ v H',Vm.call G (n+2) (.fn 89) [.yield id0,.pure (.ptr false b.cells 0)] H=some (v,H')/\H'.get id0=.loop r/\J (b.x.hi - b.x.lo+1).toNat 0 H':=by
 have hv:=valid_iff.1 hb;obtain ⟨w,hw⟩:∃ w,(b.x.hi - b.x.lo+1).toNat=w:=⟨_,rfl⟩
 obtain ⟨h,hh⟩:∃ h,(b.y.hi - b.y.lo+1).toNat=h:=⟨_,rfl⟩
 rw [hw,hh] at hbody;rw [hh] at hrow;rw [hw];have hlr:Hide (r={ r with state:=.ready,pending:=.normal }):=⟨by rw [<- hr1,<- hr2]⟩
 have hrowH:=Hide.mk hrow;have hbodyH:=Hide.mk hbody;clear hrow hbody
 refine zbg rfl g89 rfl ?_
 (repeat' first|simp [*,zb,c89,Box.cells,Span.cells]|(apply za<;>intro _ h<;>try simp [-Nat.le_zero_eq] at h))
 refine zz [(3,4),(8,30)] (fun (i:Nat) env H1=>env 3=.pure (.int .i64 (b.x.lo+i))/\i<=w/\H1.get id0=.loop r/\J i 0 H1) (fun i=>w - i) 0 ?_ ?_ ?_ ?_
 ·decide
 ·exact ⟨by simp,by omega,hg,h0⟩
 ·simp only [zx];omega
 clear h0 hg;rintro i env H1 ⟨g3,hi,hg,hJ⟩
 by_cases hlt:i < w
 ·have w1:IntKind.i64.wrap (b.x.lo+(i:Int)+1)=b.x.lo+(i+1:Nat):=by rw [wrap64 (by omega) (by omega)];omega
  have hle:b.x.lo+(i:Int)<=b.x.hi:=by omega
  (repeat' first|simp [*,zb,Box.cells,Span.cells]|(apply za<;>intro _ h<;>try simp [-Nat.le_zero_eq] at h))
  refine zz [(4,4),(18,30)] (fun (k:Nat) env H2=>env 4=.pure (.int .i64 (b.y.lo+k))/\k<=h/\H2.get id0=.loop r/\J i k H2) (fun k=>h - k) 0 ?_ ?_ ?_ ?_
  ·decide
  ·exact ⟨by simp,by omega,hg,hJ⟩
  ·simp only [zx];omega
  have g3':=g3;clear hJ hg g3;rintro k env H2 ⟨g4,hk,hg,hJ⟩
  by_cases hkt:k < h
  ·have w2:IntKind.i64.wrap (b.y.lo+(k:Int)+1)=b.y.lo+(k+1:Nat):=by rw [wrap64 (by omega) (by omega)];omega
   have hke:b.y.lo+(k:Int)<=b.y.hi:=by omega
   have hB:=Hide.mk (hbodyH.h i k H2 hlt hkt hJ hg);clear hbodyH hJ;(repeat' first|simp [*,zb,Box.cells,Span.cells]|(apply za<;>intro _ h<;>try simp [-Nat.le_zero_eq] at h))
   refine zlx (args:=[.pure (.agg [.int .i64 (b.x.lo+i),.int .i64 (b.y.lo+k)])]) hg hr1 (by rw [hr3];rfl) ?_
   refine hB.h.mono ?_
   rintro x env5 H5 ⟨rfl,gl5,hw5⟩
   refine ⟨rfl,gl5,hw5.mono ?_⟩
   rintro x env6 H6 ⟨rfl,g1,g2⟩
   refine ⟨rfl,g1,?_⟩
   rw [<- hlr.h];clear hB hw5;have hid6:=zb1 (H:=H6) (i:=id0) (by rw [g1];simp);obtain ⟨H9,h9e⟩:∃ H9,H9=H6.set id0 (.loop r):=⟨_,rfl⟩
   rw [<- h9e] at g2 ⊢;have gl9:H9.get id0=.loop r:=by rw [h9e,zP hid6]
   clear h9e;(repeat' first|simp [*,zb,Box.cells,Span.cells]|(apply za<;>intro _ h<;>try simp [-Nat.le_zero_eq] at h));exact ⟨k+1,by omega,by omega,by omega,g2⟩
  ·have hkh:k=h:=by omega
   have hke:¬ b.y.lo+(k:Int)<=b.y.hi:=by omega
   subst hkh;have hJ2:=hrowH.h i H2 hJ;clear hrowH hbodyH hJ;(repeat' first|simp [*,zb,Box.cells,Span.cells]|(apply za<;>intro _ h<;>try simp [-Nat.le_zero_eq] at h));exact ⟨i+1,by omega,by omega,by omega,hJ2⟩
 ·have hiw:i=w:=by omega
  have hle:¬ b.x.lo+(i:Int)<=b.x.hi:=by omega
  subst hiw;clear hbodyH hrowH;(repeat' first|simp [*,zb,Box.cells,Span.cells]|(apply za<;>intro _ h<;>try simp [-Nat.le_zero_eq] at h))
end Go.Proofs.Ytleggocccaeemaa.Vm
