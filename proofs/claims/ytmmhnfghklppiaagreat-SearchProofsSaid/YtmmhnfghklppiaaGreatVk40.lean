/- search.fits: the walk through a tree, walked; CheckTree. search.fits and CheckTree: walked. search.refute: the tree of the guilty part, walked. Prove, CheckProof and CheckTree: the program's, walked. ref3.Fits, CheckTree, Against, Decide, CheckProof: walked. -/
import Derived.Test.YtmmhnfghklppiaaGreatVk25
import Derived.Test.YtmmhnfghklppiaaGreatVk28
import Derived.Test.YtmmhnfghklppiaaGreatVk26
import Derived.Test.YtmmhnfghklppiaaGreatVk31
import Derived.Test.YtmmhnfghklppiaaGreatVk17
import Derived.Test.YtmmhnfghklppiaaGreatVk38
import Derived.Test.YtmmhnfghklppiaaGreatVk39
import Derived.Test.YtmmhnfghklppiaaGreatVk30
import Derived.Test.YtmmhnfghklppiaaGreatVk37
namespace Go.Proofs.YtmmhnfghklppiaaGreat.Vm
open Go
set_option linter.unusedSimpArgs false
set_option linter.unusedVariables false
set_option maxHeartbeats 8000000
set_option maxRecDepth 4000
def FX (H:Heap) (nb:Nat) (v:AV) (l:List Box):Prop:=(∃ s:Sl Box,s.xs=l/\v=.pure (s.pv Box.cells 4))\/∃ id,v=.row id 4 0 l.length/\id≠nb/\H.get id=.cells true (zm Box.cells l)
def lN (nb wb:Nat) (p:Problem) (tree:Sl Node):List AV:=[.box nb 0,.pure (.ptr false [tree.pv Node.cells 4] 0),.pure (.ptr false p.cells 0),.box wb 0]
structure iW (nb:Nat) (H H':Heap) (a:Nat):Prop where
 nx:H.nx<=H'.nx
 get:∀ j,j < H.nx->j≠nb->H'.get j=H.get j
 at_:H'.get nb=.cells true [.pure (.int .i64 a)]
theorem iW.trans {nb:Nat} {H H1 H2:Heap} {a b:Nat} (h:iW nb H H1 a) (h':iW nb H1 H2 b):iW nb H H2 b :=
 ⟨Nat.le_trans h.nx h'.nx,fun j h1 h2=>(h'.get j (by have:=h.nx;omega) h2).trans (h.get j h1 h2),h'.at_⟩
theorem Jf:G.shared 94=true:=by decide
theorem zpA {p:Problem} (ok:af p) {tree:Sl Node} (vw:tree.xs.length < 4000000000000000000) {nb wb m F:Nat} (OT:nb < wb)
  (ih:∀ (H:Heap) (l:List Box) (a:Nat),fU l < m->aL l p.boxes.xs->Wf l->a<=tree.xs.length->H.get nb=.cells true [.pure (.int .i64 a)]->H.get wb=.cells true [.func 94 (lN nb wb p tree)] ->
   ∃ H',Vm.call G (F+6+2) (.fn 94) ([.pure ((Sl.mk false l).pv Box.cells 4)]++lN nb wb p tree) H=some (.pure (.bool (pg p.facts.xs tree.xs m l a).1),H')/\iW nb H H' (pg p.facts.xs tree.xs m l a).2)
  (H:Heap) (v:AV) (l:List Box) (a:Nat) (hm:fU l < m+1) (hs:aL l p.boxes.xs) (hw:Wf l) (hv:FX H nb v l) (ha:a<=tree.xs.length) (DK:H.get nb=.cells true [.pure (.int .i64 a)]) (ry:H.get wb=.cells true [.func 94 (lN nb wb p tree)]) :
  ∃ H',Vm.call G (F+6+2+1) (.fn 94) ([v]++lN nb wb p tree) H=some (.pure (.bool (pg p.facts.xs tree.xs (m+1) l a).1),H')/\iW nb H H' (pg p.facts.xs tree.xs (m+1) l a).2:=by
 have I7:=zu ry;have OO:nb < H.nx:=by omega
 have wh:nb≠H.nx:=by omega
 have FU:wb≠H.nx:=by omega
 have hnw2:nb≠wb:=by omega
 have Ed:l.length=p.boxes.xs.length:=hs.1;have R7:=ok.nb;have nf:=ok.nf;have main:∃ v' H',Vm.call G (F+6+2+1) (.fn 94) ([v]++lN nb wb p tree) H=some (v',H')/\(v'=.pure (.bool (pg p.facts.xs tree.xs (m+1) l a).1)/\iW nb H H' (pg p.facts.xs tree.xs (m+1) l a).2):=by
  refine Gq rfl g94 rfl ?_
  generalize hR:pg p.facts.xs tree.xs (m+1) l a=R;unfold pg at hR
  by_cases wu:a < tree.xs.length
  case neg =>
   have e:tree.xs[a]?=none:=List.getElem?_eq_none (by omega);rw [e] at hR;subst hR;have FN:¬ (a:Int) < tree.xs.length:=by omega
   have KI:(tree.xs.length:Int)<=a:=by omega
   have bZ:iW nb H H a:=⟨Nat.le_refl _,fun _ _ _=>rfl,DK⟩
   clear ih;simp [*,za,c94,lN]
  have e:tree.xs[a]?=some tree.xs[a]:=List.getElem?_eq_getElem wu;rw [e] at hR;simp only at hR;have FN:(a:Int) < tree.xs.length:=by omega
  have I8:¬ tree.xs.length<=a:=by omega
  have Jg:H.nx≠nb:=by omega
  have xM:wb≠nb:=by omega
  have hwl2:H.nx≠wb:=by omega
  have w1:IntKind.i64.wrap ((a:Int)+1)=(a:Int)+1:=wrap64 (by omega) (by omega);obtain ⟨⟨df,dp,dx,dt⟩,hd⟩:∃ d,d=tree.xs[a]:=⟨_,rfl⟩
  have Kr:=vM (k:=.i64) (f:=Node.cells) (sz:=4) (s:=tree) wu;rw [<- hd] at hR Kr;simp only at hR;have w2:IntKind.i64.wrap ((p.facts.xs.length:Int) - 1)=(p.facts.xs.length:Int) - 1:=wrap64 (by omega) (by omega);have w3:IntKind.i64.wrap ((l.length:Int) - 1)=(l.length:Int) - 1:=wrap64 (by omega) (by omega);have ZJ:l.length<=12:=by omega
  clear Ed R7;have BH:∀ x y z H,zD (zn G (F+6+2)) H (.pure (.func 52 [])) [.pure (.int .i64 x),.pure (.int .i64 y),.pure (.int .i64 z)]=some (.val (.pure (.bool (qz x y z)))):=fun x y z H=>zg (G:=G) (n:=F+6+2) (H:=H) (caps:=[]) (ps:=[.int .i64 x,.int .i64 y,.int .i64 z]) sh52 (e52 (F+6+1) x y z);have bZ:Hide (∀ o o',iW nb H (((H.alloc o).set H.nx o').set nb (.cells true [.pure (.int .i64 ((a:Int)+1))])) (a+1)):=⟨fun o o'=>⟨by simp,fun j h1 h2=>by rw [zh h2,zh (by omega),ze h1],zo (by simp;omega)⟩⟩
  by_cases L6:df=-1
  case neg =>
   rw [if_pos L6] at hR
   by_cases c1:0<=df/\df < p.facts.xs.length
   case neg =>
    have IP:qz df 0 ((p.facts.xs.length:Int) - 1)=false:=by
     unfold qz;rw [Bool.and_eq_false_iff,decide_eq_false_iff_not,decide_eq_false_iff_not];omega
    have iL:R=(false,a+1):=by
     rw [<- hR]
     by_cases c0:0<=df
     .have:¬ df < p.facts.xs.length:=fun h=>c1 ⟨c0,h⟩;simp [c0,this]
     .simp [c0]
    subst iL;have T9:=IP;rw [show (p.facts.xs.length:Int) - 1=(p.facts.xs.length:Int) - 1 from rfl] at T9;clear ih hR ry hv hd;(repeat' first|simp [*,za,c94,lN,Problem.cells,Node.cells]|(apply zb<;>intro _ h<;>try simp [-Nat.le_zero_eq] at h));exact bZ.h _ _
   obtain ⟨k,rfl⟩:∃ k:Nat,df=k:=⟨df.toNat,by omega⟩
   have hk:k < p.facts.xs.length:=by omega
   have IP:qz (k:Int) 0 ((p.facts.xs.length:Int) - 1)=true:=by
    unfold qz;rw [Bool.and_eq_true,decide_eq_true_eq,decide_eq_true_eq];omega
   have Va:=vM (k:=.i64) (f:=Fact.cells) (sz:=9) (s:=p.facts) hk;rw [Int.toNat_natCast,getElem!_pos p.facts.xs k hk] at hR;have iL:R=(decide (dp=0)&&(decide (dx=0)&&(decide (dt=0)&&zJ p.facts.xs[k] l)),a+1):=by
    rw [<- hR];simp [c1.1,c1.2]
   clear hR;have bG:=OE ok hs hw (List.getElem_mem hk)
   by_cases c2:dp=0
   case neg =>
    have vL:R=(false,a+1):=by rw [iL];simp [c2]
    subst vL;clear ih ry hv hd iL;(repeat' first|simp [*,za,c94,lN,Problem.cells,Node.cells]|(apply zb<;>intro _ h<;>try simp [-Nat.le_zero_eq] at h));exact bZ.h _ _
   by_cases c3:dx=0
   case neg =>
    have vL:R=(false,a+1):=by rw [iL];simp [c3]
    subst vL;clear ih ry hv hd iL;(repeat' first|simp [*,za,c94,lN,Problem.cells,Node.cells]|(apply zb<;>intro _ h<;>try simp [-Nat.le_zero_eq] at h));exact bZ.h _ _
   by_cases c4:dt=0
   case neg =>
    have vL:R=(false,a+1):=by rw [iL];simp [c4]
    subst vL;clear ih ry hv hd iL;(repeat' first|simp [*,za,c94,lN,Problem.cells,Node.cells]|(apply zb<;>intro _ h<;>try simp [-Nat.le_zero_eq] at h));exact bZ.h _ _
   have vL:R=(zJ p.facts.xs[k] l,a+1):=by rw [iL];simp [c2,c3,c4]
   subst vL;rcases hv with ⟨s,rfl,rfl⟩|⟨id,rfl,bL,hg⟩
   .have nI:=fun H=>zg (G:=G) (n:=F+6+2) (H:=H) (caps:=[]) (ps:=[.agg p.facts.xs[k].cells,s.pv Box.cells 4]) sh60 (e60 (F+3) p.facts.xs[k] s bG);simp only [Fact.cells,Span.cells,List.map] at nI Va;clear ih ry hd iL bG;generalize zJ p.facts.xs[k] s.xs=B at *;(repeat' first|simp [*,za,c94,lN,Problem.cells,Node.cells,Fact.cells,Span.cells]|(apply zb<;>intro _ h<;>try simp [-Nat.le_zero_eq] at h));exact bZ.h _ _
   .have nI:∀ H2:Heap,H2.get id=.cells true (zm Box.cells l)->zD (zn G (F+6+2)) H2 (.pure (.func 60 [])) [.pure (.agg p.facts.xs[k].cells),.row id 4 0 l.length]=some (.val (.pure (.bool (zJ p.facts.xs[k] l)))):=fun H2 h=>by
     obtain ⟨s0,nE,wQ⟩:=Gs (n:=10) (f:=Box.cells) (sz:=4) (fun _=>rfl) h rfl;subst nE;exact GL sh60 (.cons (.pure _) (.cons wQ .nil)) (e60 (F+3) p.facts.xs[k] s0 bG) rfl
    simp only [Fact.cells,Span.cells] at nI Va;have qO:=zu hg;have KQ:id≠H.nx:=by omega
    clear ih ry hd iL bG;generalize zJ p.facts.xs[k] l=B at *;(repeat' first|simp [*,za,c94,lN,Problem.cells,Node.cells,Fact.cells,Span.cells]|(apply zb<;>intro _ h<;>try simp [-Nat.le_zero_eq] at h));exact bZ.h _ _
  subst L6;rw [if_neg (by simp)] at hR
  by_cases r0:0<=dp/\dp < l.length
  case neg =>
   have IP:qz dp 0 ((l.length:Int) - 1)=false:=by
    unfold qz;rw [Bool.and_eq_false_iff,decide_eq_false_iff_not,decide_eq_false_iff_not];omega
   rw [if_neg (fun h=>r0 ⟨h.1,h.2.1⟩)] at hR;subst hR;clear ih ry hd;rcases hv with ⟨s,rfl,rfl⟩|⟨id,rfl,bL,hg⟩
   ·(repeat' first|simp [*,za,c94,lN,Problem.cells,Node.cells]|(apply zb<;>intro _ h<;>try simp [-Nat.le_zero_eq] at h));exact bZ.h _ _
   ·(repeat' first|simp [*,za,c94,lN,Problem.cells,Node.cells]|(apply zb<;>intro _ h<;>try simp [-Nat.le_zero_eq] at h));exact bZ.h _ _
  have IP:qz dp 0 ((l.length:Int) - 1)=true:=by
   unfold qz;rw [Bool.and_eq_true,decide_eq_true_eq,decide_eq_true_eq];omega
  by_cases r1:0<=dx/\dx<=1
  case neg =>
   have DD:qz dx 0 1=false:=by
    unfold qz;rw [Bool.and_eq_false_iff,decide_eq_false_iff_not,decide_eq_false_iff_not];omega
   rw [if_neg (fun h=>r1 h.2.2)] at hR;subst hR;clear ih ry hd;rcases hv with ⟨s,rfl,rfl⟩|⟨id,rfl,bL,hg⟩
   ·(repeat' first|simp [*,za,c94,lN,Problem.cells,Node.cells]|(apply zb<;>intro _ h<;>try simp [-Nat.le_zero_eq] at h));exact bZ.h _ _
   ·(repeat' first|simp [*,za,c94,lN,Problem.cells,Node.cells]|(apply zb<;>intro _ h<;>try simp [-Nat.le_zero_eq] at h));exact bZ.h _ _
  have DD:qz dx 0 1=true:=by
   unfold qz;rw [Bool.and_eq_true,decide_eq_true_eq,decide_eq_true_eq];omega
  rw [if_pos ⟨r0.1,r0.2,r1.1,r1.2⟩] at hR;obtain ⟨i,rfl⟩:∃ i:Nat,dp=i:=⟨dp.toNat,by omega⟩
  obtain ⟨x,rfl⟩:∃ x:Nat,dx=x:=⟨dx.toNat,by omega⟩
  have hi:i < l.length:=by omega
  have sM:x < 2:=by omega
  rw [Int.toNat_natCast,Int.toNat_natCast,getElem!_pos l i hi] at hR;have Dr:=aJ.1 (Iu ok hs hw _ (List.getElem_mem hi));have wz:IntKind.i64.wrap 0=0:=by decide
  have wo:IntKind.i64.wrap 1=1:=by decide
  have hi20:qz 0 0 1=true:=by decide
  have hi21:qz 1 0 1=true:=by decide
  by_cases r2:(bK l[i] x).lo<=dt/\dt < (bK l[i] x).hi
  case neg =>
   rw [if_neg r2] at hR;subst hR;clear ih ry hd;have vE:x=0\/x=1:=by omega
   rcases hv with ⟨s,rfl,rfl⟩|⟨id,rfl,bL,hg⟩
   .have ho:=Ec (F+6+1);have vF:=vM (k:=.i64) (f:=Box.cells) (sz:=4) (s:=s) hi;rcases vE with rfl|rfl
    .have r3:¬ (s.xs[i].x.lo<=dt/\dt < s.xs[i].x.hi):=r2
     by_cases r4:dt < s.xs[i].x.lo
     .clear r2 r3;(repeat' first|simp [*,za,c94,lN,Problem.cells,Node.cells,Box.cells,Span.cells]|(apply zb<;>intro _ h<;>try simp [-Nat.le_zero_eq] at h));exact bZ.h _ _
     .have r5:s.xs[i].x.hi<=dt:=by omega
      clear r2 r3;(repeat' first|simp [*,za,c94,lN,Problem.cells,Node.cells,Box.cells,Span.cells]|(apply zb<;>intro _ h<;>try simp [-Nat.le_zero_eq] at h));exact bZ.h _ _
    .have r3:¬ (s.xs[i].y.lo<=dt/\dt < s.xs[i].y.hi):=r2
     by_cases r4:dt < s.xs[i].y.lo
     .clear r2 r3;(repeat' first|simp [*,za,c94,lN,Problem.cells,Node.cells,Box.cells,Span.cells]|(apply zb<;>intro _ h<;>try simp [-Nat.le_zero_eq] at h));exact bZ.h _ _
     .have r5:s.xs[i].y.hi<=dt:=by omega
      clear r2 r3;(repeat' first|simp [*,za,c94,lN,Problem.cells,Node.cells,Box.cells,Span.cells]|(apply zb<;>intro _ h<;>try simp [-Nat.le_zero_eq] at h));exact bZ.h _ _
   .have ho:=CY (F+6+1);have qO:=zu hg;have KQ:id≠H.nx:=by omega
    have l0:=zz (own:=true) (f:=Box.cells) (sz:=4) (l:=l) (i:=i) (size:=1) (off:=0) (fun _=>rfl) hi (by decide);have l1:=zz (own:=true) (f:=Box.cells) (sz:=4) (l:=l) (i:=i) (size:=1) (off:=1) (fun _=>rfl) hi (by decide);have l2:=zz (own:=true) (f:=Box.cells) (sz:=4) (l:=l) (i:=i) (size:=1) (off:=2) (fun _=>rfl) hi (by decide);have l3:=zz (own:=true) (f:=Box.cells) (sz:=4) (l:=l) (i:=i) (size:=1) (off:=3) (fun _=>rfl) hi (by decide);rw [Nat.add_zero] at l0;have e3:i*4+2+1=i*4+3:=rfl;rcases vE with rfl|rfl
    .have r3:¬ (l[i].x.lo<=dt/\dt < l[i].x.hi):=r2
     by_cases r4:dt < l[i].x.lo
     .clear r2 r3;(repeat' first|simp [*,za,c94,lN,Problem.cells,Node.cells,Box.cells,Span.cells]|(apply zb<;>intro _ h<;>try simp [-Nat.le_zero_eq] at h));exact bZ.h _ _
     .have r5:l[i].x.hi<=dt:=by omega
      clear r2 r3;(repeat' first|simp [*,za,c94,lN,Problem.cells,Node.cells,Box.cells,Span.cells]|(apply zb<;>intro _ h<;>try simp [-Nat.le_zero_eq] at h));exact bZ.h _ _
    .have r3:¬ (l[i].y.lo<=dt/\dt < l[i].y.hi):=r2
     by_cases r4:dt < l[i].y.lo
     .clear r2 r3;(repeat' first|simp [*,za,c94,lN,Problem.cells,Node.cells,Box.cells,Span.cells]|(apply zb<;>intro _ h<;>try simp [-Nat.le_zero_eq] at h));exact bZ.h _ _
     .have r5:l[i].y.hi<=dt:=by omega
      clear r2 r3;(repeat' first|simp [*,za,c94,lN,Problem.cells,Node.cells,Box.cells,Span.cells]|(apply zb<;>intro _ h<;>try simp [-Nat.le_zero_eq] at h));exact bZ.h _ _
  rw [if_pos r2] at hR;have hp:iU l i x dt:=⟨hi,sM,r2.1,r2.2⟩
  have m1:=QD hp;have m2:=QE hp;obtain ⟨z1,z2,z3,z4⟩:=Us (hw _ (List.getElem_mem hi)) r2.1 r2.2;have k1:=(aL.refl l).set (i:=i) z3;have k2:=(aL.refl l).set (i:=i) z4;rw [List.set_getElem_self,<- DX hi] at k1;rw [List.set_getElem_self,<- DY hi] at k2;have j1:=hw.set (i:=i) z1;have j2:=hw.set (i:=i) z2;rw [<- DX hi] at j1;rw [<- DY hi] at j2;have i1:=Hide.mk fun (H:Heap)=>ih H (bV l i x dt) (a+1) (by omega) (k1.trans hs) j1 (by omega);have i2:=Hide.mk fun (H:Heap) (a':Nat)=>ih H (nk l i x dt) a' (by omega) (k2.trans hs) j2;have hle:=RX p.facts.xs tree.xs m (bV l i x dt) (a+1) (by omega);have Hu:vD dt:=by
   have h1:=r2.1;have h2:=r2.2;clear hR i1 i2 hle;unfold vD;unfold bK at h1 h2
   by_cases e:x=0
   .simp only [e,if_true] at h1 h2;omega
   .simp only [e,if_false] at h1 h2;omega
  have TG:(i:Int)=i:=rfl;obtain ⟨⟨b1,a1⟩,yj⟩:∃ r,pg p.facts.xs tree.xs m (bV l i x dt) (a+1)=r:=⟨_,rfl⟩
  rw [yj] at hR i1 hle;simp only at hR i1 hle;have AZ:=hle.2;clear hle yj ih hp m1 m2 z1 z2 z3 z4 k1 k2 j1 j2;have xN:=ry;rcases hv with ⟨s,rfl,rfl⟩|⟨id,rfl,bL,hg⟩
  .have ho:=Ec (F+6+1);have vF:=vM (k:=.i64) (f:=Box.cells) (sz:=4) (s:=s) hi;have SV:∀ H,zD (zn G (F+6+2)) H (.pure (.func 78 [])) [.pure (s.pv Box.cells 4),.pure (.int .i64 (i:Nat)),.pure (.int .i64 (x:Nat)),.pure (.int .i64 dt),.pure (.bool false)]=some (.val (.pure ((Sl.mk false (bV s.xs i x dt)).pv Box.cells 4))):=fun H=>zg (G:=G) (n:=F+6+2) (H:=H) (caps:=[]) (ps:=[s.pv Box.cells 4,.int .i64 i,.int .i64 x,.int .i64 dt,.bool false]) sh78 (e78 (F+6) s i x dt false hi sM (by omega) Hu);have SX:∀ H,zD (zn G (F+6+2)) H (.pure (.func 78 [])) [.pure (s.pv Box.cells 4),.pure (.int .i64 (i:Nat)),.pure (.int .i64 (x:Nat)),.pure (.int .i64 dt),.pure (.bool true)]=some (.val (.pure ((Sl.mk false (nk s.xs i x dt)).pv Box.cells 4))):=fun H=>zg (G:=G) (n:=F+6+2) (H:=H) (caps:=[]) (ps:=[s.pv Box.cells 4,.int .i64 i,.int .i64 x,.int .i64 dt,.bool true]) sh78 (e78 (F+6) s i x dt true hi sM (by omega) Hu);generalize bV s.xs i x dt=L1 at *;generalize nk s.xs i x dt=L2 at *;have vE:x=0\/x=1:=by omega
   clear sM r1;rcases vE with rfl|rfl
   .have r3:s.xs[i].x.lo<=dt/\dt < s.xs[i].x.hi:=r2;have r4:¬ dt < s.xs[i].x.lo:=by omega
    have r5:¬ s.xs[i].x.hi<=dt:=by omega
    push_cast at SV SX
    clear r2 r3;(repeat' first|simp [*,za,c94,lN,Problem.cells,Node.cells,Box.cells,Span.cells]|(apply zb<;>intro _ h<;>try simp [-Nat.le_zero_eq] at h))
    refine yf (n:=F+6+1) Jf (vQ (i1.h _ ?_ ?_) ?_)
    .rw [zo (by simp;omega)];push_cast;rfl
    .simp [ry,xM,FU,I7]
    .intro H1 o1;have g1:=o1.at_;have gt:=o1.get H.nx (by simp) Jg;have gw:=o1.get wb (by simp;omega) xM;have n1:=o1.nx;simp at n1;have f1:=(bZ.h _ _).trans o1;have gt1:H1.get H.nx=.cells true [.pure (.int .i64 (-1)),.pure (.int .i64 i),.pure (.int .i64 0),.pure (.int .i64 dt)]:=by
      rw [gt,zh (by omega),zo (by simp)]
     have A7:H1.get wb=.cells true [.func 94 (lN nb wb p tree)]:=by
      rw [gw,zh (by omega),zh (by omega),ze I7];exact xN
     have Hy:H.nx < H1.nx:=by omega
     have Nn:nb < H1.nx:=by omega
     clear gt gw o1 ry xN DK bZ i1
     cases b1 with
     | false =>
      rw [if_neg (by simp)] at hR;subst hR;clear i2;simp [*,za]
     | true =>
      rw [if_pos rfl] at hR;obtain ⟨R1,R2⟩:=R;have i3:=Hide.mk (i2.h H1 a1 AZ g1 A7);rw [hR] at i3;clear i2 hR;(repeat' first|simp [*,za]|(apply zb<;>intro _ h<;>try simp [-Nat.le_zero_eq] at h))
      refine yf (n:=F+6+1) Jf (vQ i3.h ?_)
      intro H2 o2;have f2:=f1.trans o2;clear o2 f1 i3;simp [*,za]
   .have r3:s.xs[i].y.lo<=dt/\dt < s.xs[i].y.hi:=r2;have r4:¬ dt < s.xs[i].y.lo:=by omega
    have r5:¬ s.xs[i].y.hi<=dt:=by omega
    push_cast at SV SX
    clear r2 r3;(repeat' first|simp [*,za,c94,lN,Problem.cells,Node.cells,Box.cells,Span.cells]|(apply zb<;>intro _ h<;>try simp [-Nat.le_zero_eq] at h))
    refine yf (n:=F+6+1) Jf (vQ (i1.h _ ?_ ?_) ?_)
    .rw [zo (by simp;omega)];push_cast;rfl
    .simp [ry,xM,FU,I7]
    .intro H1 o1;have g1:=o1.at_;have gt:=o1.get H.nx (by simp) Jg;have gw:=o1.get wb (by simp;omega) xM;have n1:=o1.nx;simp at n1;have f1:=(bZ.h _ _).trans o1;have gt1:H1.get H.nx=.cells true [.pure (.int .i64 (-1)),.pure (.int .i64 i),.pure (.int .i64 1),.pure (.int .i64 dt)]:=by
      rw [gt,zh (by omega),zo (by simp)]
     have A7:H1.get wb=.cells true [.func 94 (lN nb wb p tree)]:=by
      rw [gw,zh (by omega),zh (by omega),ze I7];exact xN
     have Hy:H.nx < H1.nx:=by omega
     have Nn:nb < H1.nx:=by omega
     clear gt gw o1 ry xN DK bZ i1
     cases b1 with
     | false =>
      rw [if_neg (by simp)] at hR;subst hR;clear i2;simp [*,za]
     | true =>
      rw [if_pos rfl] at hR;obtain ⟨R1,R2⟩:=R;have i3:=Hide.mk (i2.h H1 a1 AZ g1 A7);rw [hR] at i3;clear i2 hR;(repeat' first|simp [*,za]|(apply zb<;>intro _ h<;>try simp [-Nat.le_zero_eq] at h))
      refine yf (n:=F+6+1) Jf (vQ i3.h ?_)
      intro H2 o2;have f2:=f1.trans o2;clear o2 f1 i3;simp [*,za]
  .have ho:=CY (F+6+1);have qO:=zu hg;have KQ:id≠H.nx:=by omega
   have SV:∀ H2:Heap,H2.get id=.cells true (zm Box.cells l)->zD (zn G (F+6+2)) H2 (.pure (.func 78 [])) [.row id 4 0 l.length,.pure (.int .i64 (i:Nat)),.pure (.int .i64 (x:Nat)),.pure (.int .i64 dt),.pure (.bool false)]=some (.val (.pure ((Sl.mk false (bV l i x dt)).pv Box.cells 4))):=fun H2 h=>by
    obtain ⟨s0,nE,wQ⟩:=Gs (n:=10) (f:=Box.cells) (sz:=4) (fun _=>rfl) h rfl;subst nE;exact GL sh78 (.cons wQ (.cons (.pure _) (.cons (.pure _) (.cons (.pure _) (.cons (.pure _) .nil))))) (e78 (F+6) s0 i x dt false hi sM (by omega) Hu) (UQ _)
   have SX:∀ H2:Heap,H2.get id=.cells true (zm Box.cells l)->zD (zn G (F+6+2)) H2 (.pure (.func 78 [])) [.row id 4 0 l.length,.pure (.int .i64 (i:Nat)),.pure (.int .i64 (x:Nat)),.pure (.int .i64 dt),.pure (.bool true)]=some (.val (.pure ((Sl.mk false (nk l i x dt)).pv Box.cells 4))):=fun H2 h=>by
    obtain ⟨s0,nE,wQ⟩:=Gs (n:=10) (f:=Box.cells) (sz:=4) (fun _=>rfl) h rfl;subst nE;exact GL sh78 (.cons wQ (.cons (.pure _) (.cons (.pure _) (.cons (.pure _) (.cons (.pure _) .nil))))) (e78 (F+6) s0 i x dt true hi sM (by omega) Hu) (UQ _)
   have l0:=zz (own:=true) (f:=Box.cells) (sz:=4) (l:=l) (i:=i) (size:=1) (off:=0) (fun _=>rfl) hi (by decide);have l1:=zz (own:=true) (f:=Box.cells) (sz:=4) (l:=l) (i:=i) (size:=1) (off:=1) (fun _=>rfl) hi (by decide);have l2:=zz (own:=true) (f:=Box.cells) (sz:=4) (l:=l) (i:=i) (size:=1) (off:=2) (fun _=>rfl) hi (by decide);have l3:=zz (own:=true) (f:=Box.cells) (sz:=4) (l:=l) (i:=i) (size:=1) (off:=3) (fun _=>rfl) hi (by decide);rw [Nat.add_zero] at l0;have e3:i*4+2+1=i*4+3:=rfl;generalize bV l i x dt=L1 at *;generalize nk l i x dt=L2 at *;have vE:x=0\/x=1:=by omega
   clear sM r1;rcases vE with rfl|rfl
   .have r3:l[i].x.lo<=dt/\dt < l[i].x.hi:=r2;have r4:¬ dt < l[i].x.lo:=by omega
    have r5:¬ l[i].x.hi<=dt:=by omega
    push_cast at SV SX
    clear r2 r3;(repeat' first|simp [*,za,c94,lN,Problem.cells,Node.cells,Box.cells,Span.cells]|(apply zb<;>intro _ h<;>try simp [-Nat.le_zero_eq] at h))
    refine yf (n:=F+6+1) Jf (vQ (i1.h _ ?_ ?_) ?_)
    .rw [zo (by simp;omega)];push_cast;rfl
    .simp [ry,xM,FU,I7]
    .intro H1 o1;have g1:=o1.at_;have gt:=o1.get H.nx (by simp) Jg;have gw:=o1.get wb (by simp;omega) xM;have n1:=o1.nx;simp at n1;have f1:=(bZ.h _ _).trans o1;have gt1:H1.get H.nx=.cells true [.pure (.int .i64 (-1)),.pure (.int .i64 i),.pure (.int .i64 0),.pure (.int .i64 dt)]:=by
      rw [gt,zh (by omega),zo (by simp)]
     have A7:H1.get wb=.cells true [.func 94 (lN nb wb p tree)]:=by
      rw [gw,zh (by omega),zh (by omega),ze I7];exact xN
     have gi1:H1.get id=.cells true (zm Box.cells l):=by
      rw [o1.get id (by simp;omega) bL,zh (by omega),zh (by omega),ze qO];exact hg
     have SY:id < H1.nx:=by omega
     have Hy:H.nx < H1.nx:=by omega
     have Nn:nb < H1.nx:=by omega
     clear gt gw o1 ry xN DK bZ i1 hg
     cases b1 with
     | false =>
      rw [if_neg (by simp)] at hR;subst hR;clear i2;simp [*,za]
     | true =>
      rw [if_pos rfl] at hR;obtain ⟨R1,R2⟩:=R;have i3:=Hide.mk (i2.h H1 a1 AZ g1 A7);rw [hR] at i3;clear i2 hR;(repeat' first|simp [*,za]|(apply zb<;>intro _ h<;>try simp [-Nat.le_zero_eq] at h))
      refine yf (n:=F+6+1) Jf (vQ i3.h ?_)
      intro H2 o2;have f2:=f1.trans o2;clear o2 f1 i3;simp [*,za]
   .have r3:l[i].y.lo<=dt/\dt < l[i].y.hi:=r2;have r4:¬ dt < l[i].y.lo:=by omega
    have r5:¬ l[i].y.hi<=dt:=by omega
    push_cast at SV SX
    clear r2 r3;(repeat' first|simp [*,za,c94,lN,Problem.cells,Node.cells,Box.cells,Span.cells]|(apply zb<;>intro _ h<;>try simp [-Nat.le_zero_eq] at h))
    refine yf (n:=F+6+1) Jf (vQ (i1.h _ ?_ ?_) ?_)
    .rw [zo (by simp;omega)];push_cast;rfl
    .simp [ry,xM,FU,I7]
    .intro H1 o1;have g1:=o1.at_;have gt:=o1.get H.nx (by simp) Jg;have gw:=o1.get wb (by simp;omega) xM;have n1:=o1.nx;simp at n1;have f1:=(bZ.h _ _).trans o1;have gt1:H1.get H.nx=.cells true [.pure (.int .i64 (-1)),.pure (.int .i64 i),.pure (.int .i64 1),.pure (.int .i64 dt)]:=by
      rw [gt,zh (by omega),zo (by simp)]
     have A7:H1.get wb=.cells true [.func 94 (lN nb wb p tree)]:=by
      rw [gw,zh (by omega),zh (by omega),ze I7];exact xN
     have gi1:H1.get id=.cells true (zm Box.cells l):=by
      rw [o1.get id (by simp;omega) bL,zh (by omega),zh (by omega),ze qO];exact hg
     have SY:id < H1.nx:=by omega
     have Hy:H.nx < H1.nx:=by omega
     have Nn:nb < H1.nx:=by omega
     clear gt gw o1 ry xN DK bZ i1 hg
     cases b1 with
     | false =>
      rw [if_neg (by simp)] at hR;subst hR;clear i2;simp [*,za]
     | true =>
      rw [if_pos rfl] at hR;obtain ⟨R1,R2⟩:=R;have i3:=Hide.mk (i2.h H1 a1 AZ g1 A7);rw [hR] at i3;clear i2 hR;(repeat' first|simp [*,za]|(apply zb<;>intro _ h<;>try simp [-Nat.le_zero_eq] at h))
      refine yf (n:=F+6+1) Jf (vQ i3.h ?_)
      intro H2 o2;have f2:=f1.trans o2;clear o2 f1 i3;simp [*,za]
 obtain ⟨v',H',h1,rfl,h2⟩:=main;exact ⟨H',h1,h2⟩
theorem zjv {p:Problem} (ok:af p) {tree:Sl Node} (vw:tree.xs.length < 4000000000000000000) {nb wb:Nat} (OT:nb < wb):∀ (m n:Nat) (H:Heap) (v:AV) (l:List Box) (a:Nat),fU l < m->aL l p.boxes.xs->Wf l->FX H nb v l->a<=tree.xs.length->H.get nb=.cells true [.pure (.int .i64 a)]->H.get wb=.cells true [.func 94 (lN nb wb p tree)] ->
  ∃ H',Vm.call G (n+m+8) (.fn 94) ([v]++lN nb wb p tree) H=some (.pure (.bool (pg p.facts.xs tree.xs m l a).1),H')/\iW nb H H' (pg p.facts.xs tree.xs m l a).2
 | 0,n,H,v,l,a,hm,_,_,_,_,_,_=>absurd hm (Nat.not_lt_zero _)
 | m+1,n,H,v,l,a,hm,hs,hw,hv,ha,hn,hg=>by
  have:=zpA ok vw (m:=m) (F:=n+m) OT (fun H l a hm hs hw ha hn hg=>zjv ok vw OT m n H _ l a hm hs hw (.inl ⟨_,rfl,rfl⟩) ha hn hg) H v l a hm hs hw hv ha hn hg;exact this
theorem zjO {α:Type} {f:α->α->Bool}:∀ {l:List α},(∀ a∈l,f a a=true)->all2 f l l=true
 | [],_=>rfl
 | a::l,h=>by
  simp only [all2,Bool.and_eq_true];exact ⟨h a List.mem_cons_self,zjO fun b hb=>h b (List.mem_cons_of_mem _ hb)⟩
theorem zkl {α:Type} {f:α->List PV} {sz n:Nat} (hf:∀ a,all2 (PV.iE n) (f a) (f a)=true) (s:Sl α):PV.iE (n+1) (s.pv f sz) (s.pv f sz)=true:=by
 cases s with
 | nil=>rfl
 | mk h l =>
  simp only [Sl.pv,PV.iE,beq_self_eq_true,Bool.true_and]
  refine zjO fun e he=>?_
  obtain ⟨a,_,rfl⟩:=List.mem_map.1 he;exact hf a
theorem zqX (n:Nat) (b:Box):all2 (PV.iE (n+1)) b.cells b.cells=true:=by simp [Box.cells,Span.cells,all2,PV.iE,PV.ik]
theorem zoO (n:Nat) (b:Fact):all2 (PV.iE (n+1)) b.cells b.cells=true:=by simp [Fact.cells,Span.cells,all2,PV.iE,PV.ik]
theorem zoA (n:Nat) (b:Node):all2 (PV.iE (n+1)) b.cells b.cells=true:=by simp [Node.cells,all2,PV.iE,PV.ik]
theorem zqV {n:Nat} {h:Bool} {cs:List PV} {o:Nat} (hc:all2 (PV.iE n) cs cs=true):PV.iE (n+1) (.ptr h cs o) (.ptr h cs o)=true:=by simp [PV.iE,hc]
theorem zn3 {h:Bool} {cs:List PV} {o:Nat} (hc:all2 (PV.iE 5) cs cs=true):AV.jO (.pure (.ptr h cs o)) (.pure (.ptr h cs o))=true:=zqV (n:=5) hc
theorem OZ (i o:Nat):AV.jO (.box i o) (.box i o)=true:=by simp [AV.jO]
theorem zjb {f:Nat} {cs:List AV} (h:all2 AV.jO cs cs=true):Bl [.func f cs] [.func f cs]=true:=by simp [Bl,h]
theorem zjN (p:Problem):AV.jO (.pure (.ptr false p.cells 0)) (.pure (.ptr false p.cells 0))=true:=by
 have h2:=zkl (n:=4) (sz:=4) (zqX 3) p.boxes;have h3:=zkl (n:=4) (sz:=9) (zoO 3) p.facts
 refine zn3 ?_
 simp only [Problem.cells,all2];rw [h2,h3];rfl
theorem zmD (f nb wb:Nat) (p:Problem) (tree:Sl Node):Bl [.func f (lN nb wb p tree)] [.func f (lN nb wb p tree)]=true:=by
 have h1:=zkl (n:=4) (sz:=4) (zoA 3) tree
 refine zjb ?_
 simp only [lN,all2];rw [OZ,OZ,zjN,zn3 (by simp only [all2];rw [h1];rfl)];rfl
@[simp] theorem ztW (f i o:Nat) (l:List AV):GV f (.box i o::l)=.func f (.box i o::l):=rfl
theorem zgS {n:Nat} {H:Heap} {s:Sl Box} {k:AV->Heap->Prop} (hl:s.xs.length < 1000)
  (hk:∀ v' H',aZ Box.cells 4 H' v' s.xs->isNil .slice v'=some s.isNil->H.nx<=H'.nx->(∀ id,id < H.nx->H'.get id=H.get id)->(∀ id,Names v' id->H.nx<=id)->k v' H') :
  ∃ v H',Vm.call G (n+1) (.fn 79) [.pure (s.pv Box.cells 4)] H=some (v,H')/\k v H':=by
 refine XY (f:=Box.cells) (sz:=4) (bytes:=32) (l:=s.xs) (b:=s.isNil) (fun _=>rfl) g79 ?_ ?_ (fun h=>?_) (fun _=>rfl) (by decide) (fun _=>rfl) ?_ hk
 .exact LQ (f:=Box.cells) (sz:=4) (fun _=>rfl) _
 .simp
 .cases s with
  | nil=>rfl
  | mk h l=>simp [Sl.isNil] at h
 .simp only [zl];omega
theorem zqC {H:Heap} {v:AV} {l:List Box} {nb:Nat} (h:aZ Box.cells 4 H v l) (hn:∀ id,Names v id->id≠nb):FX H nb v l:=by
 rcases h with ⟨rfl,rfl⟩|⟨id,rfl,hg⟩
 .exact .inl ⟨.nil,rfl,rfl⟩
 .exact .inr ⟨id,rfl,hn id ⟨_,_,_,rfl⟩,hg⟩
theorem sh46:G.shared 46=false:=by decide
theorem e46 (n:Nat) (p:Problem) (ok:af p) (tree:Sl Node) (vw:tree.xs.length < 4000000000000000000) (oZ:fU p.boxes.xs<=600):zF G (n+640) 46 [.agg p.cells,tree.pv Node.cells 4]=some (.bool (ym p.facts.xs p.boxes.xs tree.xs)):=by
 refine zx (zw _) rfl g46 rfl ?_
 have nb:=ok.nb;have FU:=Fz ok;generalize hR:ym p.facts.xs p.boxes.xs tree.xs=R;have hH:=Hide.mk hR;have hl:p.boxes.xs.length < 1000:=by omega
 clear hR;obtain ⟨n',jh⟩:∃ n',n+639=n'+(fU p.boxes.xs+1)+8:=⟨n+639 - (fU p.boxes.xs+1) - 8,by omega⟩
 have Np:=Hide.mk (fun (H:Heap) (v:AV) (nb wb:Nat) (h:nb < wb) (h1:FX H nb v p.boxes.xs)=>zjv ok vw h (fU p.boxes.xs+1) n' H v p.boxes.xs 0 (Nat.lt_succ_self _) (aL.refl _) FU h1 (Nat.zero_le _));rw [<- jh] at Np;clear jh;(repeat' first|simp [*,za,c46,Problem.cells]|(apply zb<;>intro _ h<;>try simp [-Nat.le_zero_eq] at h))
 refine zgL (zfM (n:=n+638) YB (zgS hl ?_))
 intro B H1 hB SC fD ag aW;have wS:=ag 1 (by simp);have k0:H1.get 0=.cells true [.pure (.int .i64 0)]:=by rw [ag 0 (by simp)];simp
 have k1:H1.get 1=.cells true [.func 94 (lN 0 1 p tree)]:=by rw [wS];simp [lN,Problem.cells]
 refine ⟨?_,?_⟩
 .unfold keeps;simp only;rw [wS,zo (by simp)];have:=zmD 94 0 1 p tree;simp only [lN,Problem.cells] at this;simp [this]
 have hbv:FX H1 0 B p.boxes.xs:=zqC hB fun id h=>by have:=aW id h;simp at this;omega
 have Jh:=Np.h H1 B 0 1 (by decide) hbv k0 k1;have lg:ym p.facts.xs p.boxes.xs tree.xs=R:=hH.h;unfold ym at lg;obtain ⟨⟨b1,a1⟩,yj⟩:∃ r,pg p.facts.xs tree.xs (fU p.boxes.xs+1) p.boxes.xs 0=r:=⟨_,rfl⟩
 rw [yj] at Jh lg;simp only at Jh lg;have Hy:1 < H1.nx:=by simp at fD;omega
 have bu:=hB.one;have Qp:=bu.1;have ho2:=bu.2;have S9:=Hide.mk Jh;clear Np Jh hB SC fD ag aW wS hbv yj hH;(repeat' first|simp [*,za]|(apply zb<;>intro _ h<;>try simp [-Nat.le_zero_eq] at h))
 refine yf (n:=n+638) Jf (vQ S9.h ?_)
 intro H2 o2;have g2:=o2.at_;have n2:=o2.nx;have Qm:0 < H2.nx:=by omega
 clear o2 S9 k0 k1
 cases b1 with
 | false =>
  have hR:R=false:=by rw [<- lg];rfl
  subst hR;simp [*,za]
 | true =>
  have hR:R=decide (a1=tree.xs.length):=by rw [<- lg];rfl
  have R5:decide ((a1:Int)=tree.xs.length)=decide (a1=tree.xs.length):=by rw [decide_eq_decide];omega
  subst hR;simp [*,za]
theorem zlu {α:Type} {f:α->List PV} {sz bytes:Nat} {H:Heap} {v b:AV} {l:List α} {k:AV->Heap->Prop} {u} (hv:aZ f sz H v l) (hf:∀ a,(f a).length=sz) (h0:0 < sz) (bu:∀ a,(f a).all PV.one=true)
  (hm:(l.length+1)*sz<=zl/\(l.length+1)*bytes<=zl)
  (hk:appG f (zH H sz b) (fun a=>∀ v' H',aC f sz H' v' (l++[a])->After v H v' H'->k v' H') .mk):wpE 0 (zk H sz bytes v b) H k u:=by
 obtain ⟨a,hb,hk⟩:=hk;have ho:=Qw _ (bu a);rcases hv with ⟨rfl,rfl⟩|⟨i,rfl,hg⟩
 .exact EY aC.nil hf h0 bu hm ⟨a,hb,hk⟩
 .have hlen:=xX hf l;have rM:¬ (0*sz+(l.length+1)*sz<=(zm f l).length):=by rw [hlen,Nat.add_mul];omega
  have h5:zk H sz bytes (.row i sz 0 l.length) b=some (.upd (.row H.nx sz 0 (l.length+1)) ((H.set i .dead).alloc (.cells true (zm f l++(f a).map .pure)))):=by
   simp only [zk,hb,ho,hg];simp only [Bool.not_true,Bool.false_eq_true,if_false,if_true];rw [if_neg rM];simp only [true_and];rw [if_pos ⟨hlen.symm,hm⟩]
  rw [h5,Hz]
  refine hk _ _ ⟨.inr ⟨H.nx,by simp,?_⟩,fun h=>by simp at h⟩ ⟨Nat.le_succ _,fun id hl hn=>?_,fun id ⟨_,_,_,h⟩=>?_⟩
  .have:(H.set i .dead).nx=H.nx:=rfl;rw [<- this,Ai,BM,Qv]
  .rw [ze (by exact hl),zh];intro e;subst e;exact hn ⟨_,_,_,rfl⟩
  .simp at h;omega
def FY (fs:List Fact) (g:List Nat) (a:Nat):List Int:=(jb a).filter fun k=>g.contains (fs[k.toNat]!).a.toNat
theorem zow (a:Nat):jb (a+1)=jb a++[(a:Int)]:=by
 unfold jb;rw [List.range_succ,List.map_append];rfl
theorem zmX {fs:List Fact} {g:List Nat} {a:Nat} (h:a < fs.length):FY fs g (a+1)=if g.contains fs[a].a.toNat then FY fs g a++[(a:Int)] else FY fs g a:=by
 unfold FY;rw [zow,List.filter_append];simp only [List.filter_cons,List.filter_nil,Int.toNat_natCast];have e:fs[a]! = fs[a]:=getElem!_pos fs a h;simp only [e]
 split<;>simp
theorem zoK (fs:List Fact) (g:List Nat) (a:Nat):(FY fs g a).length<=a:=by
 have:=List.length_filter_le (fun k=>g.contains (fs[k.toNat]!).a.toNat) (jb a);rwa [Gx] at this
theorem jT.grow {p:Problem} {gs:List (List Nat)} {k:Nat} (h:jT p gs k):FV p gs[k]! := by
 have hm:gs[k]! ∈ gs:=by rw [getElem!_pos gs k h.lt];exact List.getElem_mem h.lt
 have nM:=h.pos hm;obtain ⟨m,hc,vB⟩:=h.cls;have AQ:=RN m p.boxes.xs.length;rw [<- vB] at AQ;exact ⟨h.ok,fun e=>by rw [e] at nM;simp at nM,(AQ.2 _ hm).2,by have:=(AQ.2 _ hm).1;have:=h.ok.nb;omega⟩
theorem zqw {H:Heap} {v:AV} {l:List Box} {ob bs:Nat} (h:aZ Box.cells 4 H v l) (hn:∀ id,Names v id->id≠ob/\id < bs):sD H ob bs v l:=by
 rcases h with ⟨rfl,rfl⟩|⟨id,rfl,hg⟩
 .exact .inl ⟨.nil,rfl,rfl⟩
 .have:=hn id ⟨_,_,_,rfl⟩;exact .inr ⟨id,rfl,this.1,this.2,hg⟩
def Vp (p:Problem) (gs:List (List Nat)) (k:Nat):List Node:=sP p gs[k]! (fU p.boxes.xs+1) p.boxes.xs
theorem znI (f mb ob pb gb:Nat) (p:Problem):Bl [.func f (xL p mb ob pb gb)] [.func f (xL p mb ob pb gb)]=true:=by
 refine zjb ?_
 simp only [xL,all2];rw [OZ,OZ,OZ,OZ,zjN];rfl
theorem sh39:G.shared 39=false:=by decide
theorem e39 (n:Nat) (p:Problem) (gs:List (List Nat)) (k:Nat) (h:jT p gs k) (oZ:fU p.boxes.xs<=600) (fE:(Vp p gs k).length<=200000000000):zF G (n+640) 39 [.agg p.cells]=some ((Sl.of (Vp p gs k)).pv Node.cells 4):=by
 refine zx (zw _) rfl g39 rfl ?_
 unfold Vp at fE ⊢;have Vq:=h.grow;have ok:=h.ok;have nb:=ok.nb;have nf:=ok.nf;have Vk:=Fz ok;have N7:=fun H=>zg (G:=G) (n:=n+639) (H:=H) (caps:=[]) (ps:=[.agg p.cells]) sh72 (e72 (n+587) p gs k h);have OW:Hide (∀ f∈p.facts.xs,0<=f.a):=⟨fun f hf=>by have:=(Au f _).1 (ok.fact f hf);omega⟩
 obtain ⟨g,hg⟩:∃ g,gs[k]! = g:=⟨_,rfl⟩
 rw [hg] at Vq N7 fE ⊢;obtain ⟨T,hT⟩:∃ T,sP p g (fU p.boxes.xs+1) p.boxes.xs=T:=⟨_,rfl⟩
 rw [hT] at fE ⊢;obtain ⟨n',jh⟩:∃ n',n+639=n'+(fU p.boxes.xs+1)+10:=⟨n+639 - (fU p.boxes.xs+1) - 10,by omega⟩
 have hgc:=Hide.mk fun (mb ob pb gb bs:Nat) (hb:SF mb ob pb gb bs) (M:AV) (H:Heap) (v:AV) (hv:sD H ob bs v p.boxes.xs) (hi:qM p g mb ob pb gb bs M H (.pure .nils) [])=>zjt Vq hb (M:=M) (fU p.boxes.xs+1) n' H v p.boxes.xs (.pure .nils) [] (Nat.lt_succ_self _) (aL.refl _) Vk hv (by rw [hT];simpa using fE) hi;rw [<- jh,hT] at hgc;have FR:=Vq.few;clear h jh hT hg Vq;obtain ⟨bs,fs⟩:=p;have O6:bs.xs.length < 1000:=by have:bs.xs.length<=12:=nb;omega
 have nI:fs.xs.length<=60:=nf;simp only [Problem.cells,Io g,List.map] at N7;have JL:Hide (∀ (x:Int),0<=x->∀ H,zD (zn G (n+639)) H (.pure (.func 70 [])) [.pure ((Sl.mk false (zZ g)).pv aD 1),.pure (.int .i64 x)]=some (.val (.pure (.bool (g.contains x.toNat))))):=⟨fun x hx H=>by
  have:=zg (G:=G) (n:=n+639) (H:=H) (caps:=[]) (ps:=[(Sl.mk false (zZ g)).pv aD 1,.int .i64 x]) sh70 (e70 (n+637) (Sl.mk false (zZ g)) x (by rw [Sl.jg,D8];omega));rw [Sl.jg,zfr hx] at this;exact this⟩
 clear nb nf ok Vk;(repeat' first|simp [*,za,c39,Problem.cells]|(apply zb<;>intro _ h<;>try simp [-Nat.le_zero_eq] at h)|(show wpE 0 (zk ..) ..;refine zA ?_)|(refine zq fun v2 H2 fQ aT aF aG aH aI=>?_))
 refine zN [(5,6),(15,28)] (fun (a:Nat) env H=>env 15=.pure (.int .i64 a)/\a<=fs.xs.length/\2 < H.nx/\H.get 0=.cells true [.pure ((Sl.mk false (zZ g)).pv aD 1)]/\∃ M,H.get 2=.cells true [M]/\Hide (aZ aD 1 H M (FY fs.xs g a)/\∀ id,Names M id->id≠0/\id≠2)) (fun a=>fs.xs.length - a) 0 ?_ ?_ ?_ ?_
 .decide
 .refine ⟨by simp,by omega,by simp,by simp,.row 1 1 0 0,by simp,⟨.inr ⟨1,rfl,by simp [FY,jb,zm]⟩,fun id ⟨_,_,_,h⟩=>by simp at h;omega⟩⟩
 .simp only [zI];omega
 rintro a env H ⟨g15,ha,fD,h0,M,h2,hV⟩;have vR:=hV.h.1.one;have IX:=vR.1;have IY:=vR.2;have K7:0 < H.nx:=by omega
 have Hy:1 < H.nx:=by omega
 have h0x:(0:Nat)≠H.nx:=by omega
 have h2x:(2:Nat)≠H.nx:=by omega
 clear vR
 by_cases pM:a < fs.xs.length
 .have w2:IntKind.i64.wrap ((a:Int)+1)=(a+1:Nat):=by rw [wrap64 (by omega) (by omega)];omega
  have pO:(a:Int) < fs.xs.length:=by omega
  have fF:=zmX (g:=g) pM;have hlen:=zoK fs.xs g a;have Jc:=JL.h fs.xs[a].a (OW.h _ (List.getElem_mem pM));obtain ⟨F,hF⟩:∃ F,fs.xs[a]=F:=⟨_,rfl⟩
  rw [hF] at fF Jc;obtain ⟨d1,d2,d3,da,db,dc,⟨d4,d5⟩,d6⟩:=F;simp only at Jc fF
  cases hq:g.contains da.toNat with
  | true =>
   rw [hq,if_pos rfl] at fF;rw [hq] at Jc;have Bc:=Hide.mk fF;clear fF hq;(repeat' first|simp [*,za,Fact.cells,Span.cells]|(apply zb<;>intro _ h<;>try simp [-Nat.le_zero_eq] at h)|(show wpE 0 (zk ..) ..;refine zA ?_)|(refine zq fun v2 H2 fQ aT aF aG aH aI=>?_));have wh:∀ id,Names M id->id < H.nx:=fun id h=>hV.h.1.names_lt h
   refine zlu (f:=aD) (sz:=1) (l:=FY fs.xs g a) (aZ.alloc (hV.h.1.keep (H':=(H.alloc _).set H.nx _) fun id ⟨m,hm⟩=>by
    have:=wh id ⟨_,_,_,hm⟩;rw [zh (by omega),ze this]) _) (fun _=>rfl) (by decide) (fun _=>rfl) (by unfold zl;omega) ⟨(a:Int),by simp,?_⟩
   intro V4 H4 l6 tY;have qX:∀ c,c < H.nx->¬ Names M c->H4.get c=H.get c:=fun c hc hn=>by rw [tY.get c (by rw [pJ,mE,pJ];omega) hn,ze (by rw [mE,pJ];omega),zh (by omega),ze hc]
   have k0:H4.get 0=.cells true [.pure ((Sl.mk false (zZ g)).pv aD 1)]:=by rw [qX 0 K7 (fun hn=>(hV.h.2 0 hn).1 rfl)];exact h0
   have k2:H4.get 2=.cells true [M]:=by rw [qX 2 fD (fun hn=>(hV.h.2 2 hn).2 rfl)];exact h2
   have gn:2 < H4.nx:=by have:=tY.nx;rw [pJ,mE,pJ] at this;omega
   have uG:Hide (aZ aD 1 H4 V4 (FY fs.xs g (a+1))/\∀ id,Names V4 id->H.nx < id):=⟨by rw [Bc.h];exact l6.1,fun id hn=>by have:=tY.new id hn;rw [pJ,mE,pJ] at this;omega⟩
   have o4:=l6.1.one;have KD:=o4.1;have KE:=o4.2;clear l6 tY o4 hV qX h0 h2;(repeat' first|simp [*,za]|(apply zb<;>intro _ h<;>try simp [-Nat.le_zero_eq] at h)|(show wpE 0 (zk ..) ..;refine zA ?_)|(refine zq fun v2 H2 fQ aT aF aG aH aI=>?_))
   refine ⟨a+1,by omega,by omega,by omega,⟨uG.h.1.keep fun id ⟨m,hm⟩=>?_,fun id hn=>by have:=uG.h.2 id hn;omega⟩⟩
   have h8:=uG.h.2 id ⟨_,_,_,hm⟩;exact zh (by omega)
  | false =>
   rw [hq,if_neg (by simp)] at fF;rw [hq] at Jc;have Bc:=Hide.mk fF;have Kq:Hide (∀ o1 o2,aZ aD 1 ((H.alloc o1).set H.nx o2) M (FY fs.xs g (a+1))):=⟨fun o1 o2=>by
    rw [Bc.h];exact hV.h.1.keep fun id ⟨m,hm⟩=>by
     have:=hV.h.1.names_lt (⟨_,_,_,hm⟩:Names M id);rw [zh (by omega),ze this]⟩
   clear fF hq;(repeat' first|simp [*,za,Fact.cells,Span.cells]|(apply zb<;>intro _ h<;>try simp [-Nat.le_zero_eq] at h)|(show wpE 0 (zk ..) ..;refine zA ?_)|(refine zq fun v2 H2 fQ aT aF aG aH aI=>?_));exact ⟨a+1,by omega,by omega,by omega,by omega,⟨Kq.h _ _,hV.h.2⟩⟩
 .have J5:a=fs.xs.length:=by omega
  subst J5;have hmU:FY fs.xs g fs.xs.length=FM fs.xs g:=rfl;rw [hmU] at hV;clear pM ha JL OW hmU;(repeat' first|simp [*,za]|(apply zb<;>intro _ h<;>try simp [-Nat.le_zero_eq] at h)|(show wpE 0 (zk ..) ..;refine zA ?_)|(refine zq fun v2 H2 fQ aT aF aG aH aI=>?_))
  refine zgL (zfM (n:=n+638) YB (zgS O6 ?_))
  intro B H1 hB SC Sn ag aW;simp at Sn;have wS:=ag (H.nx+1) (by simp);have uo:∀ j,j < H.nx->H1.get j=H.get j:=fun j h=>by
   rw [ag j (by simp;omega),zh (by omega),ze (by rw [pJ];omega),ze h]
  have ko:H1.get H.nx=.cells true [.pure .nils]:=by rw [ag H.nx (by simp)];simp
  have kg:H1.get (H.nx+1)=.cells true [.func 73 (xL ⟨bs,fs⟩ 2 H.nx 0 (H.nx+1))]:=by rw [wS];simp [xL,Problem.cells]
  refine ⟨?_,?_⟩
  .unfold keeps;simp only;rw [wS,zo (by simp)];have:=znI 73 2 H.nx 0 (H.nx+1) ⟨bs,fs⟩;simp only [xL,Problem.cells] at this;simp [this]
  have gi:qM ⟨bs,fs⟩ g 2 H.nx 0 (H.nx+1) H1.nx M H1 (.pure .nils) [] :=
   ⟨by rw [uo 2 fD];exact h2,hV.h.1.keep fun id ⟨n,hn⟩=>uo id (hV.h.1.names_lt ⟨_,_,_,hn⟩),ko,aC.nil,by rw [uo 0 K7,Io];exact h0,kg,fun id hn=>⟨by have:=hV.h.1.names_lt hn;omega,by have:=hV.h.1.names_lt hn;omega⟩,fun id ⟨_,_,_,h⟩=>by simp at h,Nat.le_refl _⟩
  have gb:SF 2 H.nx 0 (H.nx+1) H1.nx:=⟨by omega,by omega,by omega,by omega,by omega,by omega,by omega⟩
  have bg:sD H1 H.nx H1.nx B bs.xs:=zqw hB fun id h=>⟨by have:=aW id h;simp at this;omega,hB.names_lt h⟩
  have MG:=Hide.mk (hgc.h 2 H.nx 0 (H.nx+1) H1.nx gb M H1 B bg gi);have bu:=hB.one;have Qp:=bu.1;have ho2:=bu.2;have Qm:H.nx < H1.nx:=by omega
  clear hgc hB SC ag aW wS uo kg gi gb bg hV h0 h2 bu;(repeat' first|simp [*,za]|(apply zb<;>intro _ h<;>try simp [-Nat.le_zero_eq] at h)|(show wpE 0 (zk ..) ..;refine zA ?_)|(refine zq fun v2 H2 fQ aT aF aG aH aI=>?_))
  refine yf (n:=n+638) zkD (vQ MG.h ?_)
  rintro H2 ⟨V2,o2⟩;have g2:=o2.at_;have Ni:=o2.gr;rw [List.nil_append] at Ni;have hn3:H.nx < H2.nx:=by have:=o2.same.nx;omega
  have bu:=Ni.1.one;have LG:=bu.1;have ho4:=bu.2;obtain ⟨ids,iY⟩:=(Ni.res (n:=10) (fun _=>rfl))
  clear o2 MG Ni bu ko;(repeat' first|simp [*,za]|(apply zb<;>intro _ h<;>try simp [-Nat.le_zero_eq] at h)|(show wpE 0 (zk ..) ..;refine zA ?_)|(refine zq fun v2 H2 fQ aT aF aG aH aI=>?_));exact ⟨ids,iY⟩
def Cj (r:Int×Int) (T:List Node):List Node×Int:=if r.2≠0 then ([],r.2) else if r.1≠2 then ([],5) else (T,0)
def Cm (p:Problem) (f:Fact) (gs:List (List Nat)) (k:Nat):List Node:=sP (jc p f true) gs[k]! (fU p.boxes.xs+1) p.boxes.xs
structure vG (p:Problem) (f:Fact) (gs:List (List Nat)) (k:Nat):Prop where
 ok:zK p f=0
 gi:jT (jc p f true) gs k
 mu:fU p.boxes.xs<=600
 tr:znE (jc p f true) (Cm p f gs k)
theorem sh17:G.shared 17=false:=by decide
theorem e17 (n:Nat) (p:Problem) (f:Fact) (D1 D2 D3:bB) (e1 e2 e3:Int) (h:zK p f=0->aX p D1 e1/\aX (jc p f false) D2 e2/\aX (jc p f true) D3 e3) (gs:List (List Nat)) (k:Nat) (hg:A8 (zK p f) D1 e1 D2 e2 D3 e3=(2,0)->vG p f gs k):zF G (n+700) 17 [.agg p.cells,.agg f.cells]=some (.aM [(Sl.of (Cj (A8 (zK p f) D1 e1 D2 e2 D3 e3) (Cm p f gs k)).1).pv Node.cells 4,.int .i64 (Cj (A8 (zK p f) D1 e1 D2 e2 D3 e3) (Cm p f gs k)).2]):=by
 refine zx (zw _) rfl g17 rfl ?_
 have hd:=fun H=>zg (G:=G) (n:=n+699) (H:=H) (caps:=[]) (ps:=[.agg p.cells,.agg f.cells]) sh15 (e15 (n+647) p f D1 D2 D3 e1 e2 e3 h);obtain ⟨⟨a,e⟩,hr⟩:∃ r,A8 (zK p f) D1 e1 D2 e2 D3 e3=r:=⟨_,rfl⟩
 rw [hr] at hd hg ⊢;simp only [Problem.cells,Fact.cells,Span.cells,List.map] at hd
 by_cases he:e=0
 case neg =>
  have hp:Cj (a,e) (Cm p f gs k)=([],e):=by unfold Cj;rw [if_pos he]
  rw [hp];clear hp hr hg h;(repeat' first|simp [*,za,c17,Problem.cells,Fact.cells,Span.cells]|(apply zb<;>intro _ h<;>try simp [-Nat.le_zero_eq] at h))
 subst he
 by_cases ha:a=2
 case neg =>
  have hp:Cj (a,0) (Cm p f gs k)=([],5):=by unfold Cj;simp [ha]
  rw [hp];clear hp hr hg h;(repeat' first|simp [*,za,c17,Problem.cells,Fact.cells,Span.cells]|(apply zb<;>intro _ h<;>try simp [-Nat.le_zero_eq] at h))
 subst ha;have hp:Cj (2,0) (Cm p f gs k)=(Cm p f gs k,0):=by unfold Cj;simp
 rw [hp];have hi:=hg rfl;obtain ⟨ok,_,_⟩:=GM (t:=true) hi.ok;have nf:=ok.nf;have hw:=fun H=>zg (G:=G) (n:=n+699) (H:=H) (caps:=[]) (ps:=[.agg p.cells,.agg f.cells,.bool true]) sh49 (e49 (n+697) p f true (by omega));have hrf:=fun H=>zg (G:=G) (n:=n+699) (H:=H) (caps:=[]) (ps:=[.agg (jc p f true).cells]) sh39 (e39 (n+59) (jc p f true) gs k hi.gi hi.mu (Nat.le_trans hi.tr.2 (by decide)));have hT:Vp (jc p f true) gs k=Cm p f gs k:=rfl;rw [hT] at hrf;generalize Cm p f gs k=T at *;obtain ⟨q,hq⟩:∃ q,jc p f true=q:=⟨_,rfl⟩
 rw [hq] at hw hrf;obtain ⟨qb,qf⟩:=q;simp only [Problem.cells,Fact.cells,Span.cells,List.map] at hw hrf;clear hp hr hg h hi hT hq ok nf;(repeat' first|simp [*,za,c17,Problem.cells,Fact.cells,Span.cells]|(apply zb<;>intro _ h<;>try simp [-Nat.le_zero_eq] at h))
def uN (p:Problem) (f:Fact) (tree:List Node):Int:=if zK p f≠0 then zK p f else if 262144 < tree.length then 2 else if ym (jc p f true).facts.xs p.boxes.xs tree=true then 0 else 8
theorem sh19:G.shared 19=false:=by decide
theorem e19 (n:Nat) (p:Problem) (f:Fact) (tree:Sl Node) (vw:tree.xs.length < 4000000000000000000) (oZ:zK p f=0->fU p.boxes.xs<=600):zF G (n+700) 19 [.agg p.cells,.agg f.cells,tree.pv Node.cells 4]=some (.int .i64 (uN p f tree.xs)):=by
 refine zx (zw _) rfl g19 rfl ?_
 have hd:=fun H=>zg (G:=G) (n:=n+699) (H:=H) (caps:=[]) (ps:=[.agg p.cells,.agg f.cells]) sh47 (e47 (n+695) p f);simp only [Problem.cells,Fact.cells,Span.cells,List.map] at hd
 by_cases he:zK p f=0
 case neg =>
  have hp:uN p f tree.xs=zK p f:=by unfold uN;rw [if_pos he]
  rw [hp];generalize zK p f=c at *;clear hp oZ;(repeat' first|simp [*,za,c19,Problem.cells,Fact.cells,Span.cells]|(apply zb<;>intro _ h<;>try simp [-Nat.le_zero_eq] at h))
 by_cases ht:262144 < tree.xs.length
 .have hp:uN p f tree.xs=2:=by unfold uN;rw [if_neg (by simp [he]),if_pos ht]
  have xS:(262144:Int) < tree.xs.length:=by omega
  rw [hp];rw [he] at hd;clear hp oZ he;(repeat' first|simp [*,za,c19,Problem.cells,Fact.cells,Span.cells]|(apply zb<;>intro _ h<;>try simp [-Nat.le_zero_eq] at h))
 obtain ⟨ok,uJ,_⟩:=GM (t:=true) he;have nf:=ok.nf;have xS:¬ (262144:Int) < tree.xs.length:=by omega
 have hw:=fun H=>zg (G:=G) (n:=n+699) (H:=H) (caps:=[]) (ps:=[.agg p.cells,.agg f.cells,.bool true]) sh49 (e49 (n+697) p f true (by omega));have hf:=fun H=>zg (G:=G) (n:=n+699) (H:=H) (caps:=[]) (ps:=[.agg (jc p f true).cells,tree.pv Node.cells 4]) sh46 (e46 (n+59) (jc p f true) uJ tree vw (oZ he));have hb:(jc p f true).boxes.xs=p.boxes.xs:=rfl;have hp:uN p f tree.xs=if ym (jc p f true).facts.xs p.boxes.xs tree.xs=true then 0 else 8:=by unfold uN;rw [if_neg (by simp [he]),if_neg ht]
 rw [hb] at hf;rw [hp];rw [he] at hd;generalize ym (jc p f true).facts.xs p.boxes.xs tree.xs=B at *;obtain ⟨q,hq⟩:∃ q,jc p f true=q:=⟨_,rfl⟩
 rw [hq] at hw hf;obtain ⟨qb,qf⟩:=q;simp only [Problem.cells,Fact.cells,Span.cells,List.map] at hw hf;clear hp oZ he ok uJ nf hb hq ht
 cases B
 ·(repeat' first|simp [*,za,c19,Problem.cells,Fact.cells,Span.cells]|(apply zb<;>intro _ h<;>try simp [-Nat.le_zero_eq] at h))
 ·(repeat' first|simp [*,za,c19,Problem.cells,Fact.cells,Span.cells]|(apply zb<;>intro _ h<;>try simp [-Nat.le_zero_eq] at h))
theorem ziH {α:Type} {f:α->List PV} {sz bytes id:Nat} {H:Heap} {b:AV} {l m:List α} {k:AV->Heap->Prop} {u} (aj:H.get id=.cells true (zm f l)) (hf:∀ a,(f a).length=sz) (h0:0 < sz) (bu:∀ a,(f a).all PV.one=true)
  (hb:zH H sz b=some (zm f m,m.length)) (hm:(l.length+m.length)*sz<=zl/\(l.length+m.length)*bytes<=zl)
  (hk:∀ id' H',H'.get id'=.cells true (zm f (l++m))->H.nx<=H'.nx->(∀ i,i < H.nx->i≠id->H'.get i=H.get i)->(id'=id\/H.nx<=id')->k (.row id' sz 0 (l.length+m.length)) H'):wpE 0 (zk H sz bytes (.row id sz 0 l.length) b) H k u:=by
 have ho:=QA bu m;have hlen:=xX hf l
 by_cases xQ:m.length=0
 .have hl:m=[]:=List.eq_nil_of_length_eq_zero xQ;subst hl;have:zk H sz bytes (.row id sz 0 l.length) b=some (.upd (.row id sz 0 l.length) (H.set id (.cells true (zm f l)))):=by
   simp only [zk,hb,ho,aj,Om];simp only [Bool.not_true,Bool.false_eq_true,if_false,if_true,List.all_nil,List.length_nil,Nat.add_zero,Nat.zero_mul,Nat.zero_add,List.append_nil];rw [if_pos (by rw [hlen];exact Nat.le_refl _),List.take_of_length_le (by rw [hlen];exact Nat.le_refl _),List.drop_eq_nil_of_le (by rw [hlen];exact Nat.le_refl _),List.append_nil]
  rw [this,Hz];exact hk id _ (by rw [Jn (zu aj),List.append_nil]) (Nat.le_refl _) (fun i hi hn=>zh hn) (.inl rfl)
 .have rM:¬ (0*sz+(l.length+m.length)*sz<=(zm f l).length):=by
   rw [hlen,Nat.add_mul];have:=Nat.mul_pos (Nat.pos_of_ne_zero xQ) h0;omega
  have:zk H sz bytes (.row id sz 0 l.length) b=some (.upd (.row H.nx sz 0 (l.length+m.length)) ((H.set id .dead).alloc (.cells true (zm f l++zm f m)))):=by
   simp only [zk,hb,ho,aj];simp only [Bool.not_true,Bool.false_eq_true,if_false,if_true];rw [if_neg rM];simp only [true_and];rw [if_pos ⟨hlen.symm,hm⟩]
  rw [this,Hz]
  refine hk H.nx _ ?_ (Nat.le_succ _) (fun i hi hn=>?_) (.inr (Nat.le_refl _))
  .have:(H.set id .dead).nx=H.nx:=rfl;rw [<- this,Ai,BM]
  .rw [ze (by exact hi),zh hn]
theorem sh44:G.shared 44=false:=by decide
theorem e44 (n:Nat) (p:Problem) (ok:af p) (tree:Sl Node) (vw:tree.xs.length < 4000000000000000000) (oZ:fU p.boxes.xs<=600):zF G (n+640) 44 [.agg p.cells,tree.pv Node.cells 4]=some (.bool (ym p.facts.xs p.boxes.xs tree.xs)):=by
 refine zx (zw _) rfl g44 rfl ?_
 have nb:=ok.nb;have FU:=Fz ok;generalize hR:ym p.facts.xs p.boxes.xs tree.xs=R;have hH:=Hide.mk hR;clear hR;obtain ⟨n',jh⟩:∃ n',n+639=n'+(fU p.boxes.xs+1)+8:=⟨n+639 - (fU p.boxes.xs+1) - 8,by omega⟩
 have Np:=Hide.mk (fun (H:Heap) (lb:Nat) (h:0≠lb) (h1:H.get 0=ou p tree 0 true) (h2:H.get lb=.cells true (zm Box.cells p.boxes.xs))=>ziv ok vw h rfl (fU p.boxes.xs+1) n' H p.boxes.xs 0 true (Nat.lt_succ_self _) (aL.refl _) FU (Nat.zero_le _) h1 h2);rw [<- jh] at Np;clear jh;(repeat' first|simp [*,za,c44,Problem.cells]|(apply zb<;>intro _ h<;>try simp [-Nat.le_zero_eq] at h))
 refine ziH (f:=Box.cells) (sz:=4) (id:=1) (l:=[]) (m:=p.boxes.xs) ?_ (fun _=>rfl) (by decide) (fun _=>rfl) ?_ ?_ ?_
 .simp [zm]
 .exact LQ (f:=Box.cells) (sz:=4) (fun _=>rfl) _
 .simp only [zl,List.length_nil];omega
 intro lb H1 hlb fD ag aj;simp only [List.nil_append] at hlb;simp at fD;have k0:H1.get 0=ou p tree 0 true:=by
  rw [ag 0 (by simp) (by decide)];simp [ou]
 have hlb0:0≠lb:=by
  rcases aj with h|h
  .omega
  .simp at h;omega
 have Hw:=Hide.mk (Np.h H1 lb hlb0 k0 hlb);have lg:ym p.facts.xs p.boxes.xs tree.xs=R:=hH.h;unfold ym at lg;obtain ⟨⟨b1,a1⟩,yj⟩:∃ r,pg p.facts.xs tree.xs (fU p.boxes.xs+1) p.boxes.xs 0=r:=⟨_,rfl⟩
 have hrw:Ee p tree (fU p.boxes.xs+1) p.boxes.xs 0 true=(b1,a1):=by unfold Ee;rw [if_pos rfl];exact yj
 rw [hrw] at Hw;rw [yj] at lg;simp only at lg;clear Np ag aj yj hrw hH k0 hlb;(repeat' first|simp [*,za]|(apply zb<;>intro _ h<;>try simp [-Nat.le_zero_eq] at h))
 refine Ol R6 (vQ Hw.h ?_)
 intro H2 o2;have g2:=o2.at_;have n2:=o2.same.nx;have Qm:0 < H2.nx:=by omega
 unfold ou at g2;simp only at g2;clear o2 Hw
 cases b1 with
 | false =>
  have hR:R=false:=by rw [<- lg];rfl
  subst hR;simp [*,za]
 | true =>
  have hR:R=decide (a1=tree.xs.length):=by rw [<- lg];rfl
  have R5:decide ((a1:Int)=tree.xs.length)=decide (a1=tree.xs.length):=by rw [decide_eq_decide];omega
  subst hR;simp [*,za]
theorem sh51:G.shared 51=false:=by decide
theorem e51 (n:Nat) (f:Fact):zF G (n+1) 51 [.agg f.cells]=some (.agg (yn f true).cells):=by
 refine zx (zw _) rfl g51 rfl ?_
 obtain ⟨d1,d2,d3,da,db,dc,⟨d4,d5⟩,d6⟩:=f
 cases d3
 ·(repeat' first|simp [*,za,c51,Fact.cells,Span.cells,yn]|(apply zb<;>intro _ h<;>try simp [-Nat.le_zero_eq] at h))
 ·(repeat' first|simp [*,za,c51,Fact.cells,Span.cells,yn]|(apply zb<;>intro _ h<;>try simp [-Nat.le_zero_eq] at h))
theorem zo6 (p:Problem) (f:Fact):jc p (yn f true) false=jc p f true:=by
 unfold jc;rw [zmr]
theorem sh18:G.shared 18=false:=by decide
theorem e18 (n:Nat) (p:Problem) (f:Fact) (tree:Sl Node) (vw:tree.xs.length < 4000000000000000000) (oZ:zK p f=0->fU p.boxes.xs<=600):zF G (n+700) 18 [.agg p.cells,.agg f.cells,tree.pv Node.cells 4]=some (.int .i64 (uN p f tree.xs)):=by
 refine zx (zw _) rfl g18 rfl ?_
 have hc:=fun H=>zg (G:=G) (n:=n+699) (H:=H) (caps:=[]) (ps:=[.agg p.cells]) sh27 (e27 (n+696) p);simp only [Problem.cells,List.map] at hc
 by_cases h0:nT p=0
 case neg =>
  have hp:uN p f tree.xs=nT p:=by
   have:zK p f=nT p:=by unfold zK;rw [if_pos h0]
   unfold uN;rw [this,if_pos h0]
  rw [hp];generalize nT p=c at *;clear hp oZ;(repeat' first|simp [*,za,c18,Problem.cells,Fact.cells,Span.cells]|(apply zb<;>intro _ h<;>try simp [-Nat.le_zero_eq] at h))
 have ok:=rX.1 h0;have nb:=ok.nb;have nf:=ok.nf;have hf:=fun H=>zg (G:=G) (n:=n+699) (H:=H) (caps:=[]) (ps:=[.agg f.cells,.int .i64 (p.boxes.xs.length:Nat)]) sh50 (e50 (n+697) f p.boxes.xs.length (by omega));simp only [Fact.cells,Span.cells,List.map] at hf;rw [h0] at hc
 cases hb:zX f p.boxes.xs.length with
 | false =>
  have Ef:zK p f=1:=by unfold zK;rw [if_neg (by simp [h0]),if_neg (by simp [hb])]
  have hp:uN p f tree.xs=1:=by unfold uN;rw [Ef];simp
  rw [hp];rw [hb] at hf;clear hp oZ Ef hb ok h0;(repeat' first|simp [*,za,c18,Problem.cells,Fact.cells,Span.cells]|(apply zb<;>intro _ h<;>try simp [-Nat.le_zero_eq] at h))
 | true =>
  rw [hb] at hf
  by_cases h60:60<=p.facts.xs.length
  .have Ef:zK p f=2:=by unfold zK;rw [if_neg (by simp [h0]),if_pos hb,if_pos h60]
   have hp:uN p f tree.xs=2:=by unfold uN;rw [Ef];simp
   have h6I:(60:Int)<=p.facts.xs.length:=by omega
   rw [hp];clear hp oZ Ef hb ok h0;(repeat' first|simp [*,za,c18,Problem.cells,Fact.cells,Span.cells]|(apply zb<;>intro _ h<;>try simp [-Nat.le_zero_eq] at h))
  have Ef:zK p f=0:=by unfold zK;rw [if_neg (by simp [h0]),if_pos hb,if_neg h60]
  have h6I:¬ (60:Int)<=p.facts.xs.length:=by omega
  by_cases ht:262144 < tree.xs.length
  .have hp:uN p f tree.xs=2:=by unfold uN;rw [if_neg (by simp [Ef]),if_pos ht]
   have xS:(262144:Int) < tree.xs.length:=by omega
   rw [hp];clear hp oZ Ef hb ok h0;(repeat' first|simp [*,za,c18,Problem.cells,Fact.cells,Span.cells]|(apply zb<;>intro _ h<;>try simp [-Nat.le_zero_eq] at h))
  have xS:¬ (262144:Int) < tree.xs.length:=by omega
  obtain ⟨_,uJ,_⟩:=GM (t:=true) Ef;have vJ:=fun H=>zg (G:=G) (n:=n+699) (H:=H) (caps:=[]) (ps:=[.agg f.cells]) sh51 (e51 (n+698) f);have hw:=fun H=>zg (G:=G) (n:=n+699) (H:=H) (caps:=[]) (ps:=[.agg p.cells,.agg (yn f true).cells]) sh35 (e35 (n+698) p (yn f true) (by omega));have F7:=fun H=>zg (G:=G) (n:=n+699) (H:=H) (caps:=[]) (ps:=[.agg (jc p f true).cells,tree.pv Node.cells 4]) sh44 (e44 (n+59) (jc p f true) uJ tree vw (oZ Ef));have Dr:(jc p f true).boxes.xs=p.boxes.xs:=rfl;have hp:uN p f tree.xs=if ym (jc p f true).facts.xs p.boxes.xs tree.xs=true then 0 else 8:=by unfold uN;rw [if_neg (by simp [Ef]),if_neg ht]
  rw [Dr] at F7;rw [hp];rw [zo6] at hw;generalize ym (jc p f true).facts.xs p.boxes.xs tree.xs=B at *;obtain ⟨q,hq⟩:∃ q,jc p f true=q:=⟨_,rfl⟩
  rw [hq] at hw F7;obtain ⟨qb,qf⟩:=q;obtain ⟨⟨t1,t2,t3,ta,tb,tc,⟨t4,t5⟩,t6⟩,ZX⟩:∃ t,yn f true=t:=⟨_,rfl⟩
  rw [ZX] at vJ hw;simp only [Problem.cells,Fact.cells,Span.cells,List.map] at hw F7 vJ;clear hp oZ Ef ok uJ nf Dr hq ht hb h0 ZX
  cases B
  ·(repeat' first|simp [*,za,c18,Problem.cells,Fact.cells,Span.cells]|(apply zb<;>intro _ h<;>try simp [-Nat.le_zero_eq] at h))
  ·(repeat' first|simp [*,za,c18,Problem.cells,Fact.cells,Span.cells]|(apply zb<;>intro _ h<;>try simp [-Nat.le_zero_eq] at h))
end Go.Proofs.YtmmhnfghklppiaaGreat.Vm
