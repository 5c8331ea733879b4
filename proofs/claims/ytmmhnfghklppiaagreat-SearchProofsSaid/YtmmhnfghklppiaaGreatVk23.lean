/- The places of a box, gone through by a range over a function. -/
import Derived.Test.YtmmhnfghklppiaaGreatVk17
import Derived.Test.YtmmhnfghklppiaaGreatVk15
namespace Go.Proofs.YtmmhnfghklppiaaGreat.Vm
open Go
set_option linter.unusedSimpArgs false
set_option linter.unusedVariables false
set_option maxHeartbeats 4000000
set_option maxRecDepth 4000
theorem zmd (n:Nat) (b:Box) (hb:ny b=true) (H:Heap) (Da:Nat) (r:Bi) (yj:r.state=.ready) (Oe:r.pending=.normal) (Uh:r.params.length=1) (hg:H.get Da=.loop r)
  (J:Nat->Nat->Heap->Prop) (h0:J 0 0 H)
  (qo:∀ i H1,J i (b.y.hi - b.y.lo+1).toNat H1->J (i+1) 0 H1)
  (wO:∀ i k H1,i < (b.x.hi - b.x.lo+1).toNat->k < (b.y.hi - b.y.lo+1).toNat->J i k H1->H1.get Da=.loop r ->
   wp (zn G n) r.assign ((r.params.zip [.pure (.agg [.int .i64 (b.x.lo+i),.int .i64 (b.y.lo+k)])]).foldl (fun e x=>upd e x.1 x.2) r.env) H1 (fun x iM H2=>x=.normal/\H2.get Da=.loop r /\
    wp (zn G n) r.body iM (H2.set Da (.loop { r with state:=.busy })) (fun x _ H3=>x=.normal/\H3.get Da=.loop { r with state:=.busy }/\J i (k+1) (H3.set Da (.loop r))) .mk) .mk) :
  ∃ v H',Vm.call G (n+2) (.fn 138) [.yield Da,.pure (.ptr false b.cells 0)] H=some (v,H')/\H'.get Da=.loop r/\J (b.x.hi - b.x.lo+1).toNat 0 H':=by
 have hv:=aJ.1 hb;obtain ⟨w,hw⟩:∃ w,(b.x.hi - b.x.lo+1).toNat=w:=⟨_,rfl⟩
 obtain ⟨h,hh⟩:∃ h,(b.y.hi - b.y.lo+1).toNat=h:=⟨_,rfl⟩
 rw [hw,hh] at wO;rw [hh] at qo;rw [hw];have Oc:Hide (r={ r with state:=.ready,pending:=.normal }):=⟨by rw [<- yj,<- Oe]⟩
 have Fv:=Hide.mk qo;have vz:=Hide.mk wO;clear qo wO
 refine Gq rfl g138 rfl ?_
 (repeat' first|simp [*,za,c138,Box.cells,Span.cells]|(apply zb<;>intro _ h<;>try simp [-Nat.le_zero_eq] at h))
 refine zN [(3,4),(8,30)] (fun (i:Nat) env H1=>env 3=.pure (.int .i64 (b.x.lo+i))/\i<=w/\H1.get Da=.loop r/\J i 0 H1) (fun i=>w - i) 0 ?_ ?_ ?_ ?_
 .decide
 .exact ⟨by simp,by omega,hg,h0⟩
 .simp only [zI];omega
 clear h0 hg;rintro i env H1 ⟨g3,hi,hg,hJ⟩
 by_cases aK:i < w
 .have w1:IntKind.i64.wrap (b.x.lo+(i:Int)+1)=b.x.lo+(i+1:Nat):=by rw [wrap64 (by omega) (by omega)];omega
  have hle:b.x.lo+(i:Int)<=b.x.hi:=by omega
  (repeat' first|simp [*,za,Box.cells,Span.cells]|(apply zb<;>intro _ h<;>try simp [-Nat.le_zero_eq] at h))
  refine zN [(4,4),(18,30)] (fun (k:Nat) env H2=>env 4=.pure (.int .i64 (b.y.lo+k))/\k<=h/\H2.get Da=.loop r/\J i k H2) (fun k=>h - k) 0 ?_ ?_ ?_ ?_
  .decide
  .exact ⟨by simp,by omega,hg,hJ⟩
  .simp only [zI];omega
  have g3':=g3;clear hJ hg g3;rintro k env H2 ⟨g4,hk,hg,hJ⟩
  by_cases G9:k < h
  .have w2:IntKind.i64.wrap (b.y.lo+(k:Int)+1)=b.y.lo+(k+1:Nat):=by rw [wrap64 (by omega) (by omega)];omega
   have hke:b.y.lo+(k:Int)<=b.y.hi:=by omega
   have hB:=Hide.mk (vz.h i k H2 aK G9 hJ hg);clear vz hJ;(repeat' first|simp [*,za,Box.cells,Span.cells]|(apply zb<;>intro _ h<;>try simp [-Nat.le_zero_eq] at h))
   refine znk (args:=[.pure (.agg [.int .i64 (b.x.lo+i),.int .i64 (b.y.lo+k)])]) hg yj (by rw [Uh];rfl) ?_
   refine hB.h.mono ?_
   rintro x env5 H5 ⟨rfl,gl5,hw5⟩
   refine ⟨rfl,gl5,hw5.mono ?_⟩
   rintro x env6 H6 ⟨rfl,g1,g2⟩
   refine ⟨rfl,g1,?_⟩
   rw [<- Oc.h];clear hB hw5;have YV:=O5 (H:=H6) (i:=Da) (by rw [g1];simp);obtain ⟨H9,YW⟩:∃ H9,H9=H6.set Da (.loop r):=⟨_,rfl⟩
   rw [<- YW] at g2 ⊢;have gl9:H9.get Da=.loop r:=by rw [YW,zo YV]
   clear YW;(repeat' first|simp [*,za,Box.cells,Span.cells]|(apply zb<;>intro _ h<;>try simp [-Nat.le_zero_eq] at h));exact ⟨k+1,by omega,by omega,by omega,g2⟩
  .have hkh:k=h:=by omega
   have hke:¬ b.y.lo+(k:Int)<=b.y.hi:=by omega
   subst hkh;have hJ2:=Fv.h i H2 hJ;clear Fv vz hJ;(repeat' first|simp [*,za,Box.cells,Span.cells]|(apply zb<;>intro _ h<;>try simp [-Nat.le_zero_eq] at h));exact ⟨i+1,by omega,by omega,by omega,hJ2⟩
 .have hiw:i=w:=by omega
  have hle:¬ b.x.lo+(i:Int)<=b.x.hi:=by omega
  subst hiw;clear vz Fv;simp [*,za,Box.cells,Span.cells]
end Go.Proofs.YtmmhnfghklppiaaGreat.Vm
