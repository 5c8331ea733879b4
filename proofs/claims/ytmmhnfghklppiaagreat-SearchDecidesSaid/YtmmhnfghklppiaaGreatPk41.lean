/- search.fits: the walk through a tree, walked; CheckTree. search.fits and CheckTree: walked. search.refute: the tree of the guilty part, walked. Prove, CheckProof and CheckTree: the program's, walked. ref3.Fits, CheckTree, Against, Decide, CheckProof: walked. -/
import Derived.Test.YtmmhnfghklppiaaGreatPk26
import Derived.Test.YtmmhnfghklppiaaGreatPk29
import Derived.Test.YtmmhnfghklppiaaGreatPk27
import Derived.Test.YtmmhnfghklppiaaGreatPk32
import Derived.Test.YtmmhnfghklppiaaGreatPk18
import Derived.Test.YtmmhnfghklppiaaGreatPk39
import Derived.Test.YtmmhnfghklppiaaGreatPk40
import Derived.Test.YtmmhnfghklppiaaGreatPk31
import Derived.Test.YtmmhnfghklppiaaGreatPk38
namespace Go.Proofs.YtmmhnfghklppiaaGreat.Vm
open Go
set_option linter.unusedSimpArgs false
set_option linter.unusedVariables false
set_option maxHeartbeats 8000000
set_option maxRecDepth 4000
def BoxV (H:Heap) (nb:Nat) (v:AV) (l:List Box):Prop:=(∃ s:Sl Box,s.xs=l/\v=.pure (s.pv Box.cells 4))\/∃ id,v=.row id 4 0 l.length/\id≠nb/\H.get id=.cells true (zn Box.cells l)
def zaL (nb wb:Nat) (p:Problem) (tree:Sl Node):List AV:=[.box nb 0,.pure (.ptr false [tree.pv Node.cells 4] 0),.pure (.ptr false p.cells 0),.box wb 0]
structure WalkOut (nb:Nat) (H H':Heap) (a:Nat):Prop where
 nx:H.nx<=H'.nx
 get:∀ j,j < H.nx->j≠nb->H'.get j=H.get j
 at_:H'.get nb=.cells true [.pure (.int .i64 a)]
theorem WalkOut.trans {nb:Nat} {H H1 H2:Heap} {a b:Nat} (h:WalkOut nb H H1 a) (h':WalkOut nb H1 H2 b):WalkOut nb H H2 b :=
 ⟨Nat.le_trans h.nx h'.nx,fun j h1 h2=>(h'.get j (by have:=h.nx;omega) h2).trans (h.get j h1 h2),h'.at_⟩
theorem zc9:G.shared 94=true:=by decide
theorem zpo {p:Problem} (ok:CheckOk p) {tree:Sl Node} (htl:tree.xs.length < 4000000000000000000) {nb wb m F:Nat} (hnw:nb < wb)
  (ih:∀ (H:Heap) (l:List Box) (a:Nat),muL l < m->SubL l p.boxes.xs->Wf l->a<=tree.xs.length->H.get nb=.cells true [.pure (.int .i64 a)]->H.get wb=.cells true [.func 94 (zaL nb wb p tree)] ->
   ∃ H',Vm.call G (F+6+2) (.fn 94) ([.pure ((Sl.mk false l).pv Box.cells 4)]++zaL nb wb p tree) H=some (.pure (.bool (zbk p.facts.xs tree.xs m l a).1),H')/\WalkOut nb H H' (zbk p.facts.xs tree.xs m l a).2)
  (H:Heap) (v:AV) (l:List Box) (a:Nat) (hm:muL l < m+1) (hs:SubL l p.boxes.xs) (hw:Wf l) (hv:BoxV H nb v l) (ha:a<=tree.xs.length) (hgn:H.get nb=.cells true [.pure (.int .i64 a)]) (hgw:H.get wb=.cells true [.func 94 (zaL nb wb p tree)]) :
  ∃ H',Vm.call G (F+6+2+1) (.fn 94) ([v]++zaL nb wb p tree) H=some (.pure (.bool (zbk p.facts.xs tree.xs (m+1) l a).1),H')/\WalkOut nb H H' (zbk p.facts.xs tree.xs (m+1) l a).2:=by
 have hwn:=zo hgw;have hnn:nb < H.nx:=by omega
 have hnl:nb≠H.nx:=by omega
 have hwl:wb≠H.nx:=by omega
 have hnw2:nb≠wb:=by omega
 have hll:l.length=p.boxes.xs.length:=hs.1;have nb12:=ok.nb;have nf:=ok.nf;have main:∃ v' H',Vm.call G (F+6+2+1) (.fn 94) ([v]++zaL nb wb p tree) H=some (v',H')/\(v'=.pure (.bool (zbk p.facts.xs tree.xs (m+1) l a).1)/\WalkOut nb H H' (zbk p.facts.xs tree.xs (m+1) l a).2):=by
  refine zbY rfl g94 rfl ?_
  generalize hR:zbk p.facts.xs tree.xs (m+1) l a=R;unfold zbk at hR
  by_cases hat:a < tree.xs.length
  case neg =>
   have e:tree.xs[a]?=none:=List.getElem?_eq_none (by omega);rw [e] at hR;subst hR;have hatI:¬ (a:Int) < tree.xs.length:=by omega
   have hatI2:(tree.xs.length:Int)<=a:=by omega
   have hout:WalkOut nb H H a:=⟨Nat.le_refl _,fun _ _ _=>rfl,hgn⟩
   clear ih;(repeat' first|simp [*,za,c94,zaL]|(apply zb<;>intro _ h<;>try simp [-Nat.le_zero_eq] at h))
  have e:tree.xs[a]?=some tree.xs[a]:=List.getElem?_eq_getElem hat;rw [e] at hR;simp only at hR;have hatI:(a:Int) < tree.xs.length:=by omega
  have hatN:¬ tree.xs.length<=a:=by omega
  have hnl2:H.nx≠nb:=by omega
  have hnw3:wb≠nb:=by omega
  have hwl2:H.nx≠wb:=by omega
  have w1:IntKind.i64.wrap ((a:Int)+1)=(a:Int)+1:=wrap64 (by omega) (by omega);obtain ⟨⟨df,dp,dx,dt⟩,hd⟩:∃ d,d=tree.xs[a]:=⟨_,rfl⟩
  have had:=zax (k:=.i64) (f:=Node.cells) (sz:=4) (s:=tree) hat;rw [<- hd] at hR had;simp only at hR;have w2:IntKind.i64.wrap ((p.facts.xs.length:Int) - 1)=(p.facts.xs.length:Int) - 1:=wrap64 (by omega) (by omega);have w3:IntKind.i64.wrap ((l.length:Int) - 1)=(l.length:Int) - 1:=wrap64 (by omega) (by omega);have hl12:l.length<=12:=by omega
  clear hll nb12;have hin:∀ x y z H,zG (zt G (F+6+2)) H (.pure (.func 52 [])) [.pure (.int .i64 x),.pure (.int .i64 y),.pure (.int .i64 z)]=some (.val (.pure (.bool (inB x y z)))):=fun x y z H=>zf (G:=G) (n:=F+6+2) (H:=H) (caps:=[]) (ps:=[.int .i64 x,.int .i64 y,.int .i64 z]) sh52 (e52 (F+6+1) x y z);have hout:Hide (∀ o o',WalkOut nb H (((H.alloc o).set H.nx o').set nb (.cells true [.pure (.int .i64 ((a:Int)+1))])) (a+1)):=⟨fun o o'=>⟨by simp,fun j h1 h2=>by rw [ze h2,ze (by omega),zh h1],zq (by simp;omega)⟩⟩
  by_cases hdf:df=-1
  case neg =>
   rw [if_pos hdf] at hR
   by_cases c1:0<=df/\df < p.facts.xs.length
   case neg =>
    have hi1:inB df 0 ((p.facts.xs.length:Int) - 1)=false:=by
     unfold inB;rw [Bool.and_eq_false_iff,decide_eq_false_iff_not,decide_eq_false_iff_not];omega
    have hR2:R=(false,a+1):=by
     rw [<- hR]
     by_cases c0:0<=df
     ·have:¬ df < p.facts.xs.length:=fun h=>c1 ⟨c0,h⟩;simp [c0,this]
     ·simp [c0]
    subst hR2;have hi0:=hi1;rw [show (p.facts.xs.length:Int) - 1=(p.facts.xs.length:Int) - 1 from rfl] at hi0;clear ih hR hgw hv hd;(repeat' first|simp [*,za,c94,zaL,Problem.cells,Node.cells]|(apply zb<;>intro _ h<;>try simp [-Nat.le_zero_eq] at h));exact hout.h _ _
   obtain ⟨k,rfl⟩:∃ k:Nat,df=k:=⟨df.toNat,by omega⟩
   have hk:k < p.facts.xs.length:=by omega
   have hi1:inB (k:Int) 0 ((p.facts.xs.length:Int) - 1)=true:=by
    unfold inB;rw [Bool.and_eq_true,decide_eq_true_eq,decide_eq_true_eq];omega
   have hfk:=zax (k:=.i64) (f:=Fact.cells) (sz:=9) (s:=p.facts) hk;rw [Int.toNat_natCast,getElem!_pos p.facts.xs k hk] at hR;have hR2:R=(decide (dp=0)&&(decide (dx=0)&&(decide (dt=0)&&zJ p.facts.xs[k] l)),a+1):=by
    rw [<- hR];simp [c1.1,c1.2]
   clear hR;have hok:=zeG ok hs hw (List.getElem_mem hk)
   by_cases c2:dp=0
   case neg =>
    have hR3:R=(false,a+1):=by rw [hR2];simp [c2]
    subst hR3;clear ih hgw hv hd hR2;(repeat' first|simp [*,za,c94,zaL,Problem.cells,Node.cells]|(apply zb<;>intro _ h<;>try simp [-Nat.le_zero_eq] at h));exact hout.h _ _
   by_cases c3:dx=0
   case neg =>
    have hR3:R=(false,a+1):=by rw [hR2];simp [c3]
    subst hR3;clear ih hgw hv hd hR2;(repeat' first|simp [*,za,c94,zaL,Problem.cells,Node.cells]|(apply zb<;>intro _ h<;>try simp [-Nat.le_zero_eq] at h));exact hout.h _ _
   by_cases c4:dt=0
   case neg =>
    have hR3:R=(false,a+1):=by rw [hR2];simp [c4]
    subst hR3;clear ih hgw hv hd hR2;(repeat' first|simp [*,za,c94,zaL,Problem.cells,Node.cells]|(apply zb<;>intro _ h<;>try simp [-Nat.le_zero_eq] at h));exact hout.h _ _
   have hR3:R=(zJ p.facts.xs[k] l,a+1):=by rw [hR2];simp [c2,c3,c4]
   subst hR3;rcases hv with ⟨s,rfl,rfl⟩|⟨id,rfl,hne,hg⟩
   ·have hfl:=fun H=>zf (G:=G) (n:=F+6+2) (H:=H) (caps:=[]) (ps:=[.agg p.facts.xs[k].cells,s.pv Box.cells 4]) sh60 (e60 (F+3) p.facts.xs[k] s hok);simp only [Fact.cells,Span.cells,List.map_cons,List.map_nil] at hfl hfk;clear ih hgw hd hR2 hok;generalize zJ p.facts.xs[k] s.xs=B at *;(repeat' first|simp [*,za,c94,zaL,Problem.cells,Node.cells,Fact.cells,Span.cells]|(apply zb<;>intro _ h<;>try simp [-Nat.le_zero_eq] at h));exact hout.h _ _
   ·have hfl:∀ H2:Heap,H2.get id=.cells true (zn Box.cells l)->zG (zt G (F+6+2)) H2 (.pure (.func 60 [])) [.pure (.agg p.facts.xs[k].cells),.row id 4 0 l.length]=some (.val (.pure (.bool (zJ p.facts.xs[k] l)))):=fun H2 h=>by
     obtain ⟨s0,hs0,hf0⟩:=zcX (n:=10) (f:=Box.cells) (sz:=4) (fun _=>rfl) h rfl;subst hs0;exact zb6 sh60 (.cons (.pure _) (.cons hf0 .nil)) (e60 (F+3) p.facts.xs[k] s0 hok) rfl
    simp only [Fact.cells,Span.cells] at hfl hfk;have hidn:=zo hg;have hidn2:id≠H.nx:=by omega
    clear ih hgw hd hR2 hok;generalize zJ p.facts.xs[k] l=B at *;(repeat' first|simp [*,za,c94,zaL,Problem.cells,Node.cells,Fact.cells,Span.cells]|(apply zb<;>intro _ h<;>try simp [-Nat.le_zero_eq] at h));exact hout.h _ _
  subst hdf;rw [if_neg (by simp)] at hR
  by_cases r0:0<=dp/\dp < l.length
  case neg =>
   have hi1:inB dp 0 ((l.length:Int) - 1)=false:=by
    unfold inB;rw [Bool.and_eq_false_iff,decide_eq_false_iff_not,decide_eq_false_iff_not];omega
   rw [if_neg (fun h=>r0 ⟨h.1,h.2.1⟩)] at hR;subst hR;clear ih hgw hd;rcases hv with ⟨s,rfl,rfl⟩|⟨id,rfl,hne,hg⟩
   ·(repeat' first|simp [*,za,c94,zaL,Problem.cells,Node.cells]|(apply zb<;>intro _ h<;>try simp [-Nat.le_zero_eq] at h));exact hout.h _ _
   ·(repeat' first|simp [*,za,c94,zaL,Problem.cells,Node.cells]|(apply zb<;>intro _ h<;>try simp [-Nat.le_zero_eq] at h));exact hout.h _ _
  have hi1:inB dp 0 ((l.length:Int) - 1)=true:=by
   unfold inB;rw [Bool.and_eq_true,decide_eq_true_eq,decide_eq_true_eq];omega
  by_cases r1:0<=dx/\dx<=1
  case neg =>
   have hi2:inB dx 0 1=false:=by
    unfold inB;rw [Bool.and_eq_false_iff,decide_eq_false_iff_not,decide_eq_false_iff_not];omega
   rw [if_neg (fun h=>r1 h.2.2)] at hR;subst hR;clear ih hgw hd;rcases hv with ⟨s,rfl,rfl⟩|⟨id,rfl,hne,hg⟩
   ·(repeat' first|simp [*,za,c94,zaL,Problem.cells,Node.cells]|(apply zb<;>intro _ h<;>try simp [-Nat.le_zero_eq] at h));exact hout.h _ _
   ·(repeat' first|simp [*,za,c94,zaL,Problem.cells,Node.cells]|(apply zb<;>intro _ h<;>try simp [-Nat.le_zero_eq] at h));exact hout.h _ _
  have hi2:inB dx 0 1=true:=by
   unfold inB;rw [Bool.and_eq_true,decide_eq_true_eq,decide_eq_true_eq];omega
  rw [if_pos ⟨r0.1,r0.2,r1.1,r1.2⟩] at hR;obtain ⟨i,rfl⟩:∃ i:Nat,dp=i:=⟨dp.toNat,by omega⟩
  obtain ⟨x,rfl⟩:∃ x:Nat,dx=x:=⟨dx.toNat,by omega⟩
  have hi:i < l.length:=by omega
  have hx2:x < 2:=by omega
  rw [Int.toNat_natCast,Int.toNat_natCast,getElem!_pos l i hi] at hR;have hbx:=valid_iff.1 (zaQ ok hs hw _ (List.getElem_mem hi));have wz:IntKind.i64.wrap 0=0:=by decide
  have wo:IntKind.i64.wrap 1=1:=by decide
  have hi20:inB 0 0 1=true:=by decide
  have hi21:inB 1 0 1=true:=by decide
  by_cases r2:(axS l[i] x).lo<=dt/\dt < (axS l[i] x).hi
  case neg =>
   rw [if_neg r2] at hR;subst hR;clear ih hgw hd;have hx01:x=0\/x=1:=by omega
   rcases hv with ⟨s,rfl,rfl⟩|⟨id,rfl,hne,hg⟩
   ·have ho:=zcZ (F+6+1);have hadl:=zax (k:=.i64) (f:=Box.cells) (sz:=4) (s:=s) hi;rcases hx01 with rfl|rfl
    ·have r3:¬ (s.xs[i].x.lo<=dt/\dt < s.xs[i].x.hi):=r2
     by_cases r4:dt < s.xs[i].x.lo
     ·clear r2 r3;(repeat' first|simp [*,za,c94,zaL,Problem.cells,Node.cells,Box.cells,Span.cells]|(apply zb<;>intro _ h<;>try simp [-Nat.le_zero_eq] at h));exact hout.h _ _
     ·have r5:s.xs[i].x.hi<=dt:=by omega
      clear r2 r3;(repeat' first|simp [*,za,c94,zaL,Problem.cells,Node.cells,Box.cells,Span.cells]|(apply zb<;>intro _ h<;>try simp [-Nat.le_zero_eq] at h));exact hout.h _ _
    ·have r3:¬ (s.xs[i].y.lo<=dt/\dt < s.xs[i].y.hi):=r2
     by_cases r4:dt < s.xs[i].y.lo
     ·clear r2 r3;(repeat' first|simp [*,za,c94,zaL,Problem.cells,Node.cells,Box.cells,Span.cells]|(apply zb<;>intro _ h<;>try simp [-Nat.le_zero_eq] at h));exact hout.h _ _
     ·have r5:s.xs[i].y.hi<=dt:=by omega
      clear r2 r3;(repeat' first|simp [*,za,c94,zaL,Problem.cells,Node.cells,Box.cells,Span.cells]|(apply zb<;>intro _ h<;>try simp [-Nat.le_zero_eq] at h));exact hout.h _ _
   ·have ho:=zeg (F+6+1);have hidn:=zo hg;have hidn2:id≠H.nx:=by omega
    have l0:=zC (own:=true) (f:=Box.cells) (sz:=4) (l:=l) (i:=i) (size:=1) (off:=0) (fun _=>rfl) hi (by decide);have l1:=zC (own:=true) (f:=Box.cells) (sz:=4) (l:=l) (i:=i) (size:=1) (off:=1) (fun _=>rfl) hi (by decide);have l2:=zC (own:=true) (f:=Box.cells) (sz:=4) (l:=l) (i:=i) (size:=1) (off:=2) (fun _=>rfl) hi (by decide);have l3:=zC (own:=true) (f:=Box.cells) (sz:=4) (l:=l) (i:=i) (size:=1) (off:=3) (fun _=>rfl) hi (by decide);rw [Nat.add_zero] at l0;have e3:i*4+2+1=i*4+3:=rfl;rcases hx01 with rfl|rfl
    ·have r3:¬ (l[i].x.lo<=dt/\dt < l[i].x.hi):=r2
     by_cases r4:dt < l[i].x.lo
     ·clear r2 r3;(repeat' first|simp [*,za,c94,zaL,Problem.cells,Node.cells,Box.cells,Span.cells]|(apply zb<;>intro _ h<;>try simp [-Nat.le_zero_eq] at h));exact hout.h _ _
     ·have r5:l[i].x.hi<=dt:=by omega
      clear r2 r3;(repeat' first|simp [*,za,c94,zaL,Problem.cells,Node.cells,Box.cells,Span.cells]|(apply zb<;>intro _ h<;>try simp [-Nat.le_zero_eq] at h));exact hout.h _ _
    ·have r3:¬ (l[i].y.lo<=dt/\dt < l[i].y.hi):=r2
     by_cases r4:dt < l[i].y.lo
     ·clear r2 r3;(repeat' first|simp [*,za,c94,zaL,Problem.cells,Node.cells,Box.cells,Span.cells]|(apply zb<;>intro _ h<;>try simp [-Nat.le_zero_eq] at h));exact hout.h _ _
     ·have r5:l[i].y.hi<=dt:=by omega
      clear r2 r3;(repeat' first|simp [*,za,c94,zaL,Problem.cells,Node.cells,Box.cells,Span.cells]|(apply zb<;>intro _ h<;>try simp [-Nat.le_zero_eq] at h));exact hout.h _ _
  rw [if_pos r2] at hR;have hp:Proper l i x dt:=⟨hi,hx2,r2.1,r2.2⟩
  have m1:=zhJ hp;have m2:=zgc hp;obtain ⟨z1,z2,z3,z4⟩:=zkT (hw _ (List.getElem_mem hi)) r2.1 r2.2;have k1:=(SubL.refl l).set (i:=i) z3;have k2:=(SubL.refl l).set (i:=i) z4;rw [List.set_getElem_self,<- zca hi] at k1;rw [List.set_getElem_self,<- zbD hi] at k2;have j1:=hw.set (i:=i) z1;have j2:=hw.set (i:=i) z2;rw [<- zca hi] at j1;rw [<- zbD hi] at j2;have i1:=Hide.mk fun (H:Heap)=>ih H (lowL l i x dt) (a+1) (by omega) (k1.trans hs) j1 (by omega);have i2:=Hide.mk fun (H:Heap) (a':Nat)=>ih H (za2 l i x dt) a' (by omega) (k2.trans hs) j2;have hle:=zgo p.facts.xs tree.xs m (lowL l i x dt) (a+1) (by omega);have hdt:okN dt:=by
   have h1:=r2.1;have h2:=r2.2;clear hR i1 i2 hle;unfold okN;unfold axS at h1 h2
   by_cases e:x=0
   ·simp only [e,if_true] at h1 h2;omega
   ·simp only [e,if_false] at h1 h2;omega
  have hci:(i:Int)=i:=rfl;obtain ⟨⟨b1,a1⟩,hr1⟩:∃ r,zbk p.facts.xs tree.xs m (lowL l i x dt) (a+1)=r:=⟨_,rfl⟩
  rw [hr1] at hR i1 hle;simp only at hR i1 hle;have hle2:=hle.2;clear hle hr1 ih hp m1 m2 z1 z2 z3 z4 k1 k2 j1 j2;have hgwH:=hgw;rcases hv with ⟨s,rfl,rfl⟩|⟨id,rfl,hne,hg⟩
  ·have ho:=zcZ (F+6+1);have hadl:=zax (k:=.i64) (f:=Box.cells) (sz:=4) (s:=s) hi;have hc1:∀ H,zG (zt G (F+6+2)) H (.pure (.func 78 [])) [.pure (s.pv Box.cells 4),.pure (.int .i64 (i:Nat)),.pure (.int .i64 (x:Nat)),.pure (.int .i64 dt),.pure (.bool false)]=some (.val (.pure ((Sl.mk false (lowL s.xs i x dt)).pv Box.cells 4))):=fun H=>zf (G:=G) (n:=F+6+2) (H:=H) (caps:=[]) (ps:=[s.pv Box.cells 4,.int .i64 i,.int .i64 x,.int .i64 dt,.bool false]) sh78 (e78 (F+6) s i x dt false hi hx2 (by omega) hdt);have hc2:∀ H,zG (zt G (F+6+2)) H (.pure (.func 78 [])) [.pure (s.pv Box.cells 4),.pure (.int .i64 (i:Nat)),.pure (.int .i64 (x:Nat)),.pure (.int .i64 dt),.pure (.bool true)]=some (.val (.pure ((Sl.mk false (za2 s.xs i x dt)).pv Box.cells 4))):=fun H=>zf (G:=G) (n:=F+6+2) (H:=H) (caps:=[]) (ps:=[s.pv Box.cells 4,.int .i64 i,.int .i64 x,.int .i64 dt,.bool true]) sh78 (e78 (F+6) s i x dt true hi hx2 (by omega) hdt);generalize lowL s.xs i x dt=L1 at *;generalize za2 s.xs i x dt=L2 at *;have hx01:x=0\/x=1:=by omega
   clear hx2 r1;rcases hx01 with rfl|rfl
   ·have r3:s.xs[i].x.lo<=dt/\dt < s.xs[i].x.hi:=r2;have r4:¬ dt < s.xs[i].x.lo:=by omega
    have r5:¬ s.xs[i].x.hi<=dt:=by omega
    push_cast at hc1 hc2
    clear r2 r3;(repeat' first|simp [*,za,c94,zaL,Problem.cells,Node.cells,Box.cells,Span.cells]|(apply zb<;>intro _ h<;>try simp [-Nat.le_zero_eq] at h))
    refine za1 (n:=F+6+1) zc9 (zbI (i1.h _ ?_ ?_) ?_)
    ·rw [zq (by simp;omega)];push_cast;rfl
    ·simp [hgw,hnw3,hwl,hwn]
    ·intro H1 o1;have g1:=o1.at_;have gt:=o1.get H.nx (by simp) hnl2;have gw:=o1.get wb (by simp;omega) hnw3;have n1:=o1.nx;simp at n1;have f1:=(hout.h _ _).trans o1;have gt1:H1.get H.nx=.cells true [.pure (.int .i64 (-1)),.pure (.int .i64 i),.pure (.int .i64 0),.pure (.int .i64 dt)]:=by
      rw [gt,ze (by omega),zq (by simp)]
     have gw1:H1.get wb=.cells true [.func 94 (zaL nb wb p tree)]:=by
      rw [gw,ze (by omega),ze (by omega),zh hwn];exact hgwH
     have hn1:H.nx < H1.nx:=by omega
     have hnb1:nb < H1.nx:=by omega
     clear gt gw o1 hgw hgwH hgn hout i1
     cases b1 with
     | false =>
      rw [if_neg (by simp)] at hR;subst hR;clear i2;(repeat' first|simp [*,za]|(apply zb<;>intro _ h<;>try simp [-Nat.le_zero_eq] at h))
     | true =>
      rw [if_pos rfl] at hR;obtain ⟨R1,R2⟩:=R;have i3:=Hide.mk (i2.h H1 a1 hle2 g1 gw1);rw [hR] at i3;clear i2 hR;(repeat' first|simp [*,za]|(apply zb<;>intro _ h<;>try simp [-Nat.le_zero_eq] at h))
      refine za1 (n:=F+6+1) zc9 (zbI i3.h ?_)
      intro H2 o2;have f2:=f1.trans o2;clear o2 f1 i3;(repeat' first|simp [*,za]|(apply zb<;>intro _ h<;>try simp [-Nat.le_zero_eq] at h))
   ·have r3:s.xs[i].y.lo<=dt/\dt < s.xs[i].y.hi:=r2;have r4:¬ dt < s.xs[i].y.lo:=by omega
    have r5:¬ s.xs[i].y.hi<=dt:=by omega
    push_cast at hc1 hc2
    clear r2 r3;(repeat' first|simp [*,za,c94,zaL,Problem.cells,Node.cells,Box.cells,Span.cells]|(apply zb<;>intro _ h<;>try simp [-Nat.le_zero_eq] at h))
    refine za1 (n:=F+6+1) zc9 (zbI (i1.h _ ?_ ?_) ?_)
    ·rw [zq (by simp;omega)];push_cast;rfl
    ·simp [hgw,hnw3,hwl,hwn]
    ·intro H1 o1;have g1:=o1.at_;have gt:=o1.get H.nx (by simp) hnl2;have gw:=o1.get wb (by simp;omega) hnw3;have n1:=o1.nx;simp at n1;have f1:=(hout.h _ _).trans o1;have gt1:H1.get H.nx=.cells true [.pure (.int .i64 (-1)),.pure (.int .i64 i),.pure (.int .i64 1),.pure (.int .i64 dt)]:=by
      rw [gt,ze (by omega),zq (by simp)]
     have gw1:H1.get wb=.cells true [.func 94 (zaL nb wb p tree)]:=by
      rw [gw,ze (by omega),ze (by omega),zh hwn];exact hgwH
     have hn1:H.nx < H1.nx:=by omega
     have hnb1:nb < H1.nx:=by omega
     clear gt gw o1 hgw hgwH hgn hout i1
     cases b1 with
     | false =>
      rw [if_neg (by simp)] at hR;subst hR;clear i2;(repeat' first|simp [*,za]|(apply zb<;>intro _ h<;>try simp [-Nat.le_zero_eq] at h))
     | true =>
      rw [if_pos rfl] at hR;obtain ⟨R1,R2⟩:=R;have i3:=Hide.mk (i2.h H1 a1 hle2 g1 gw1);rw [hR] at i3;clear i2 hR;(repeat' first|simp [*,za]|(apply zb<;>intro _ h<;>try simp [-Nat.le_zero_eq] at h))
      refine za1 (n:=F+6+1) zc9 (zbI i3.h ?_)
      intro H2 o2;have f2:=f1.trans o2;clear o2 f1 i3;(repeat' first|simp [*,za]|(apply zb<;>intro _ h<;>try simp [-Nat.le_zero_eq] at h))
  ·have ho:=zeg (F+6+1);have hidn:=zo hg;have hidn2:id≠H.nx:=by omega
   have hc1:∀ H2:Heap,H2.get id=.cells true (zn Box.cells l)->zG (zt G (F+6+2)) H2 (.pure (.func 78 [])) [.row id 4 0 l.length,.pure (.int .i64 (i:Nat)),.pure (.int .i64 (x:Nat)),.pure (.int .i64 dt),.pure (.bool false)]=some (.val (.pure ((Sl.mk false (lowL l i x dt)).pv Box.cells 4))):=fun H2 h=>by
    obtain ⟨s0,hs0,hf0⟩:=zcX (n:=10) (f:=Box.cells) (sz:=4) (fun _=>rfl) h rfl;subst hs0;exact zb6 sh78 (.cons hf0 (.cons (.pure _) (.cons (.pure _) (.cons (.pure _) (.cons (.pure _) .nil))))) (e78 (F+6) s0 i x dt false hi hx2 (by omega) hdt) (zeq _)
   have hc2:∀ H2:Heap,H2.get id=.cells true (zn Box.cells l)->zG (zt G (F+6+2)) H2 (.pure (.func 78 [])) [.row id 4 0 l.length,.pure (.int .i64 (i:Nat)),.pure (.int .i64 (x:Nat)),.pure (.int .i64 dt),.pure (.bool true)]=some (.val (.pure ((Sl.mk false (za2 l i x dt)).pv Box.cells 4))):=fun H2 h=>by
    obtain ⟨s0,hs0,hf0⟩:=zcX (n:=10) (f:=Box.cells) (sz:=4) (fun _=>rfl) h rfl;subst hs0;exact zb6 sh78 (.cons hf0 (.cons (.pure _) (.cons (.pure _) (.cons (.pure _) (.cons (.pure _) .nil))))) (e78 (F+6) s0 i x dt true hi hx2 (by omega) hdt) (zeq _)
   have l0:=zC (own:=true) (f:=Box.cells) (sz:=4) (l:=l) (i:=i) (size:=1) (off:=0) (fun _=>rfl) hi (by decide);have l1:=zC (own:=true) (f:=Box.cells) (sz:=4) (l:=l) (i:=i) (size:=1) (off:=1) (fun _=>rfl) hi (by decide);have l2:=zC (own:=true) (f:=Box.cells) (sz:=4) (l:=l) (i:=i) (size:=1) (off:=2) (fun _=>rfl) hi (by decide);have l3:=zC (own:=true) (f:=Box.cells) (sz:=4) (l:=l) (i:=i) (size:=1) (off:=3) (fun _=>rfl) hi (by decide);rw [Nat.add_zero] at l0;have e3:i*4+2+1=i*4+3:=rfl;generalize lowL l i x dt=L1 at *;generalize za2 l i x dt=L2 at *;have hx01:x=0\/x=1:=by omega
   clear hx2 r1;rcases hx01 with rfl|rfl
   ·have r3:l[i].x.lo<=dt/\dt < l[i].x.hi:=r2;have r4:¬ dt < l[i].x.lo:=by omega
    have r5:¬ l[i].x.hi<=dt:=by omega
    push_cast at hc1 hc2
    clear r2 r3;(repeat' first|simp [*,za,c94,zaL,Problem.cells,Node.cells,Box.cells,Span.cells]|(apply zb<;>intro _ h<;>try simp [-Nat.le_zero_eq] at h))
    refine za1 (n:=F+6+1) zc9 (zbI (i1.h _ ?_ ?_) ?_)
    ·rw [zq (by simp;omega)];push_cast;rfl
    ·simp [hgw,hnw3,hwl,hwn]
    ·intro H1 o1;have g1:=o1.at_;have gt:=o1.get H.nx (by simp) hnl2;have gw:=o1.get wb (by simp;omega) hnw3;have n1:=o1.nx;simp at n1;have f1:=(hout.h _ _).trans o1;have gt1:H1.get H.nx=.cells true [.pure (.int .i64 (-1)),.pure (.int .i64 i),.pure (.int .i64 0),.pure (.int .i64 dt)]:=by
      rw [gt,ze (by omega),zq (by simp)]
     have gw1:H1.get wb=.cells true [.func 94 (zaL nb wb p tree)]:=by
      rw [gw,ze (by omega),ze (by omega),zh hwn];exact hgwH
     have gi1:H1.get id=.cells true (zn Box.cells l):=by
      rw [o1.get id (by simp;omega) hne,ze (by omega),ze (by omega),zh hidn];exact hg
     have hidn1:id < H1.nx:=by omega
     have hn1:H.nx < H1.nx:=by omega
     have hnb1:nb < H1.nx:=by omega
     clear gt gw o1 hgw hgwH hgn hout i1 hg
     cases b1 with
     | false =>
      rw [if_neg (by simp)] at hR;subst hR;clear i2;(repeat' first|simp [*,za]|(apply zb<;>intro _ h<;>try simp [-Nat.le_zero_eq] at h))
     | true =>
      rw [if_pos rfl] at hR;obtain ⟨R1,R2⟩:=R;have i3:=Hide.mk (i2.h H1 a1 hle2 g1 gw1);rw [hR] at i3;clear i2 hR;(repeat' first|simp [*,za]|(apply zb<;>intro _ h<;>try simp [-Nat.le_zero_eq] at h))
      refine za1 (n:=F+6+1) zc9 (zbI i3.h ?_)
      intro H2 o2;have f2:=f1.trans o2;clear o2 f1 i3;(repeat' first|simp [*,za]|(apply zb<;>intro _ h<;>try simp [-Nat.le_zero_eq] at h))
   ·have r3:l[i].y.lo<=dt/\dt < l[i].y.hi:=r2;have r4:¬ dt < l[i].y.lo:=by omega
    have r5:¬ l[i].y.hi<=dt:=by omega
    push_cast at hc1 hc2
    clear r2 r3;(repeat' first|simp [*,za,c94,zaL,Problem.cells,Node.cells,Box.cells,Span.cells]|(apply zb<;>intro _ h<;>try simp [-Nat.le_zero_eq] at h))
    refine za1 (n:=F+6+1) zc9 (zbI (i1.h _ ?_ ?_) ?_)
    ·rw [zq (by simp;omega)];push_cast;rfl
    ·simp [hgw,hnw3,hwl,hwn]
    ·intro H1 o1;have g1:=o1.at_;have gt:=o1.get H.nx (by simp) hnl2;have gw:=o1.get wb (by simp;omega) hnw3;have n1:=o1.nx;simp at n1;have f1:=(hout.h _ _).trans o1;have gt1:H1.get H.nx=.cells true [.pure (.int .i64 (-1)),.pure (.int .i64 i),.pure (.int .i64 1),.pure (.int .i64 dt)]:=by
      rw [gt,ze (by omega),zq (by simp)]
     have gw1:H1.get wb=.cells true [.func 94 (zaL nb wb p tree)]:=by
      rw [gw,ze (by omega),ze (by omega),zh hwn];exact hgwH
     have gi1:H1.get id=.cells true (zn Box.cells l):=by
      rw [o1.get id (by simp;omega) hne,ze (by omega),ze (by omega),zh hidn];exact hg
     have hidn1:id < H1.nx:=by omega
     have hn1:H.nx < H1.nx:=by omega
     have hnb1:nb < H1.nx:=by omega
     clear gt gw o1 hgw hgwH hgn hout i1 hg
     cases b1 with
     | false =>
      rw [if_neg (by simp)] at hR;subst hR;clear i2;(repeat' first|simp [*,za]|(apply zb<;>intro _ h<;>try simp [-Nat.le_zero_eq] at h))
     | true =>
      rw [if_pos rfl] at hR;obtain ⟨R1,R2⟩:=R;have i3:=Hide.mk (i2.h H1 a1 hle2 g1 gw1);rw [hR] at i3;clear i2 hR;(repeat' first|simp [*,za]|(apply zb<;>intro _ h<;>try simp [-Nat.le_zero_eq] at h))
      refine za1 (n:=F+6+1) zc9 (zbI i3.h ?_)
      intro H2 o2;have f2:=f1.trans o2;clear o2 f1 i3;(repeat' first|simp [*,za]|(apply zb<;>intro _ h<;>try simp [-Nat.le_zero_eq] at h))
 obtain ⟨v',H',h1,rfl,h2⟩:=main;exact ⟨H',h1,h2⟩
theorem zka {p:Problem} (ok:CheckOk p) {tree:Sl Node} (htl:tree.xs.length < 4000000000000000000) {nb wb:Nat} (hnw:nb < wb):∀ (m n:Nat) (H:Heap) (v:AV) (l:List Box) (a:Nat),muL l < m->SubL l p.boxes.xs->Wf l->BoxV H nb v l->a<=tree.xs.length->H.get nb=.cells true [.pure (.int .i64 a)]->H.get wb=.cells true [.func 94 (zaL nb wb p tree)] ->
  ∃ H',Vm.call G (n+m+8) (.fn 94) ([v]++zaL nb wb p tree) H=some (.pure (.bool (zbk p.facts.xs tree.xs m l a).1),H')/\WalkOut nb H H' (zbk p.facts.xs tree.xs m l a).2
 | 0,n,H,v,l,a,hm,_,_,_,_,_,_=>absurd hm (Nat.not_lt_zero _)
 | m+1,n,H,v,l,a,hm,hs,hw,hv,ha,hn,hg=>by
  have:=zpo ok htl (m:=m) (F:=n+m) hnw (fun H l a hm hs hw ha hn hg=>zka ok htl hnw m n H _ l a hm hs hw (.inl ⟨_,rfl,rfl⟩) ha hn hg) H v l a hm hs hw hv ha hn hg;exact this
theorem zjZ {α:Type} {f:α->α->Bool}:∀ {l:List α},(∀ a∈l,f a a=true)->all2 f l l=true
 | [],_=>rfl
 | a::l,h=>by
  simp only [all2,Bool.and_eq_true];exact ⟨h a List.mem_cons_self,zjZ fun b hb=>h b (List.mem_cons_of_mem _ hb)⟩
theorem zkQ {α:Type} {f:α->List PV} {sz n:Nat} (hf:∀ a,all2 (PV.sameN n) (f a) (f a)=true) (s:Sl α):PV.sameN (n+1) (s.pv f sz) (s.pv f sz)=true:=by
 cases s with
 | nil=>rfl
 | mk h l =>
  simp only [Sl.pv,PV.sameN,beq_self_eq_true,Bool.true_and]
  refine zjZ fun e he=>?_
  obtain ⟨a,_,rfl⟩:=List.mem_map.1 he;exact hf a
theorem zqA (n:Nat) (b:Box):all2 (PV.sameN (n+1)) b.cells b.cells=true:=by simp [Box.cells,Span.cells,all2,PV.sameN,PV.plainEq]
theorem zps (n:Nat) (b:Fact):all2 (PV.sameN (n+1)) b.cells b.cells=true:=by simp [Fact.cells,Span.cells,all2,PV.sameN,PV.plainEq]
theorem zpZ (n:Nat) (b:Node):all2 (PV.sameN (n+1)) b.cells b.cells=true:=by simp [Node.cells,all2,PV.sameN,PV.plainEq]
theorem zri {n:Nat} {h:Bool} {cs:List PV} {o:Nat} (hc:all2 (PV.sameN n) cs cs=true):PV.sameN (n+1) (.ptr h cs o) (.ptr h cs o)=true:=by simp [PV.sameN,hc]
theorem zos {h:Bool} {cs:List PV} {o:Nat} (hc:all2 (PV.sameN 5) cs cs=true):AV.sameCap (.pure (.ptr h cs o)) (.pure (.ptr h cs o))=true:=zri (n:=5) hc
theorem zfr (i o:Nat):AV.sameCap (.box i o) (.box i o)=true:=by simp [AV.sameCap]
theorem zkd {f:Nat} {cs:List AV} (h:all2 AV.sameCap cs cs=true):zaX [.func f cs] [.func f cs]=true:=by simp [zaX,h]
theorem zkb (p:Problem):AV.sameCap (.pure (.ptr false p.cells 0)) (.pure (.ptr false p.cells 0))=true:=by
 have h2:=zkQ (n:=4) (sz:=4) (zqA 3) p.boxes;have h3:=zkQ (n:=4) (sz:=9) (zps 3) p.facts
 refine zos ?_
 simp only [Problem.cells,all2];rw [h2,h3];rfl
theorem znG (f nb wb:Nat) (p:Problem) (tree:Sl Node):zaX [.func f (zaL nb wb p tree)] [.func f (zaL nb wb p tree)]=true:=by
 have h1:=zkQ (n:=4) (sz:=4) (zpZ 3) tree
 refine zkd ?_
 simp only [zaL,all2];rw [zfr,zfr,zkb,zos (by simp only [all2];rw [h1];rfl)];rfl
@[simp] theorem zuJ (f i o:Nat) (l:List AV):zge f (.box i o::l)=.func f (.box i o::l):=rfl
theorem zhd {n:Nat} {H:Heap} {s:Sl Box} {k:AV->Heap->Prop} (hl:s.xs.length < 1000)
  (hk:∀ v' H',OwnV Box.cells 4 H' v' s.xs->isNil .slice v'=some s.isNil->H.nx<=H'.nx->(∀ id,id < H.nx->H'.get id=H.get id)->(∀ id,Names v' id->H.nx<=id)->k v' H') :
  ∃ v H',Vm.call G (n+1) (.fn 79) [.pure (s.pv Box.cells 4)] H=some (v,H')/\k v H':=by
 refine zfG (f:=Box.cells) (sz:=4) (bytes:=32) (l:=s.xs) (b:=s.isNil) (fun _=>rfl) g79 ?_ ?_ (fun h=>?_) (fun _=>rfl) (by decide) (fun _=>rfl) ?_ hk
 ·exact zaV (f:=Box.cells) (sz:=4) (fun _=>rfl) _
 ·simp
 ·cases s with
  | nil=>rfl
  | mk h l=>simp [Sl.isNil] at h
 ·simp only [zu];omega
theorem zrh {H:Heap} {v:AV} {l:List Box} {nb:Nat} (h:OwnV Box.cells 4 H v l) (hn:∀ id,Names v id->id≠nb):BoxV H nb v l:=by
 rcases h with ⟨rfl,rfl⟩|⟨id,rfl,hg⟩
 ·exact .inl ⟨.nil,rfl,rfl⟩
 ·exact .inr ⟨id,rfl,hn id ⟨_,_,_,rfl⟩,hg⟩
theorem sh46:G.shared 46=false:=by decide
theorem e46 (n:Nat) (p:Problem) (ok:CheckOk p) (tree:Sl Node) (htl:tree.xs.length < 4000000000000000000) (hmu:muL p.boxes.xs<=600):zH G (n+640) 46 [.agg p.cells,tree.pv Node.cells 4]=some (.bool (zc4 p.facts.xs p.boxes.xs tree.xs)):=by
 refine zy (zx _) rfl g46 rfl ?_
 have nb:=ok.nb;have hwl:=zcM ok;generalize hR:zc4 p.facts.xs p.boxes.xs tree.xs=R;have hH:=Hide.mk hR;have hl:p.boxes.xs.length < 1000:=by omega
 clear hR;obtain ⟨n',hn'⟩:∃ n',n+639=n'+(muL p.boxes.xs+1)+8:=⟨n+639 - (muL p.boxes.xs+1) - 8,by omega⟩
 have hwc:=Hide.mk (fun (H:Heap) (v:AV) (nb wb:Nat) (h:nb < wb) (h1:BoxV H nb v p.boxes.xs)=>zka ok htl h (muL p.boxes.xs+1) n' H v p.boxes.xs 0 (Nat.lt_succ_self _) (SubL.refl _) hwl h1 (Nat.zero_le _));rw [<- hn'] at hwc;clear hn';(repeat' first|simp [*,za,c46,Problem.cells]|(apply zb<;>intro _ h<;>try simp [-Nat.le_zero_eq] at h))
 refine zgZ (zf0 (n:=n+638) zgV (zhd hl ?_))
 intro B H1 hB hBn hnx hsame hnew;have hsm:=hsame 1 (by simp);have k0:H1.get 0=.cells true [.pure (.int .i64 0)]:=by rw [hsame 0 (by simp)];simp
 have k1:H1.get 1=.cells true [.func 94 (zaL 0 1 p tree)]:=by rw [hsm];simp [zaL,Problem.cells]
 refine ⟨?_,?_⟩
 ·unfold keeps;simp only;rw [hsm,zq (by simp)];have:=znG 94 0 1 p tree;simp only [zaL,Problem.cells] at this;simp [this]
 have hbv:BoxV H1 0 B p.boxes.xs:=zrh hB fun id h=>by have:=hnew id h;simp at this;omega
 have hwc2:=hwc.h H1 B 0 1 (by decide) hbv k0 k1;have hfit:zc4 p.facts.xs p.boxes.xs tree.xs=R:=hH.h;unfold zc4 at hfit;obtain ⟨⟨b1,a1⟩,hr1⟩:∃ r,zbk p.facts.xs tree.xs (muL p.boxes.xs+1) p.boxes.xs 0=r:=⟨_,rfl⟩
 rw [hr1] at hwc2 hfit;simp only at hwc2 hfit;have hn1:1 < H1.nx:=by simp at hnx;omega
 have hone:=hB.one;have ho1:=hone.1;have ho2:=hone.2;have hwcH:=Hide.mk hwc2;clear hwc hwc2 hB hBn hnx hsame hnew hsm hbv hr1 hH;(repeat' first|simp [*,za]|(apply zb<;>intro _ h<;>try simp [-Nat.le_zero_eq] at h))
 refine za1 (n:=n+638) zc9 (zbI hwcH.h ?_)
 intro H2 o2;have g2:=o2.at_;have n2:=o2.nx;have hn2:0 < H2.nx:=by omega
 clear o2 hwcH k0 k1
 cases b1 with
 | false =>
  have hR:R=false:=by rw [<- hfit];rfl
  subst hR;(repeat' first|simp [*,za]|(apply zb<;>intro _ h<;>try simp [-Nat.le_zero_eq] at h))
 | true =>
  have hR:R=decide (a1=tree.xs.length):=by rw [<- hfit];rfl
  have hdec:decide ((a1:Int)=tree.xs.length)=decide (a1=tree.xs.length):=by rw [decide_eq_decide];omega
  subst hR;(repeat' first|simp [*,za]|(apply zb<;>intro _ h<;>try simp [-Nat.le_zero_eq] at h))
theorem zmq {α:Type} {f:α->List PV} {sz bytes:Nat} {H:Heap} {v b:AV} {l:List α} {k:AV->Heap->Prop} {u} (hv:OwnV f sz H v l) (hf:∀ a,(f a).length=sz) (h0:0 < sz) (hone:∀ a,(f a).all PV.one=true)
  (hm:(l.length+1)*sz<=zu/\(l.length+1)*bytes<=zu)
  (hk:appG f (zL H sz b) (fun a=>∀ v' H',GrowV f sz H' v' (l++[a])->After v H v' H'->k v' H') .mk):wpE 0 (zi H sz bytes v b) H k u:=by
 obtain ⟨a,hb,hk⟩:=hk;have ho:=zb8 _ (hone a);rcases hv with ⟨rfl,rfl⟩|⟨i,rfl,hg⟩
 ·exact zaH GrowV.nil hf h0 hone hm ⟨a,hb,hk⟩
 ·have hlen:=zas hf l;have hnot:¬ (0*sz+(l.length+1)*sz<=(zn f l).length):=by rw [hlen,Nat.add_mul];omega
  have h5:zi H sz bytes (.row i sz 0 l.length) b=some (.upd (.row H.nx sz 0 (l.length+1)) ((H.set i .dead).alloc (.cells true (zn f l++(f a).map .pure)))):=by
   simp only [zi,hb,ho,hg];simp only [Bool.not_true,Bool.false_eq_true,if_false,if_true];rw [if_neg hnot];simp only [true_and];rw [if_pos ⟨hlen.symm,hm⟩]
  rw [h5,zde]
  refine hk _ _ ⟨.inr ⟨H.nx,by simp,?_⟩,fun h=>by simp at h⟩ ⟨Nat.le_succ _,fun id hl hn=>?_,fun id ⟨_,_,_,h⟩=>?_⟩
  ·have:(H.set i .dead).nx=H.nx:=rfl;rw [<- this,zaB,zaD,zd8]
  ·rw [zh (by exact hl),ze];intro e;subst e;exact hn ⟨_,_,_,rfl⟩
  ·simp at h;omega
def ze5 (fs:List Fact) (g:List Nat) (a:Nat):List Int:=(zau a).filter fun k=>g.contains (fs[k.toNat]!).a.toNat
theorem zpp (a:Nat):zau (a+1)=zau a++[(a:Int)]:=by
 unfold zau;rw [List.range_succ,List.map_append];rfl
theorem znk {fs:List Fact} {g:List Nat} {a:Nat} (h:a < fs.length):ze5 fs g (a+1)=if g.contains fs[a].a.toNat then ze5 fs g a++[(a:Int)] else ze5 fs g a:=by
 unfold ze5;rw [zpp,List.filter_append];simp only [List.filter_cons,List.filter_nil,Int.toNat_natCast];have e:fs[a]! = fs[a]:=getElem!_pos fs a h;simp only [e]
 split<;>simp
theorem zqk (fs:List Fact) (g:List Nat) (a:Nat):(ze5 fs g a).length<=a:=by
 have:=List.length_filter_le (fun k=>g.contains (fs[k.toNat]!).a.toNat) (zau a);rwa [zaU] at this
theorem GuiltIn.grow {p:Problem} {gs:List (List Nat)} {k:Nat} (h:GuiltIn p gs k):GrowP p gs[k]! := by
 have hm:gs[k]! ∈ gs:=by rw [getElem!_pos gs k h.lt];exact List.getElem_mem h.lt
 have hpos:=h.pos hm;obtain ⟨m,hc,hgs⟩:=h.cls;have hpo:=zbS m p.boxes.xs.length;rw [<- hgs] at hpo;exact ⟨h.ok,fun e=>by rw [e] at hpos;simp at hpos,(hpo.2 _ hm).2,by have:=(hpo.2 _ hm).1;have:=h.ok.nb;omega⟩
theorem zqI {H:Heap} {v:AV} {l:List Box} {ob bs:Nat} (h:OwnV Box.cells 4 H v l) (hn:∀ id,Names v id->id≠ob/\id < bs):BoxG H ob bs v l:=by
 rcases h with ⟨rfl,rfl⟩|⟨id,rfl,hg⟩
 ·exact .inl ⟨.nil,rfl,rfl⟩
 ·have:=hn id ⟨_,_,_,rfl⟩;exact .inr ⟨id,rfl,this.1,this.2,hg⟩
def zpb (p:Problem) (gs:List (List Nat)) (k:Nat):List Node:=zb3 p gs[k]! (muL p.boxes.xs+1) p.boxes.xs
theorem zoi (f mb ob pb gb:Nat) (p:Problem):zaX [.func f (zcW p mb ob pb gb)] [.func f (zcW p mb ob pb gb)]=true:=by
 refine zkd ?_
 simp only [zcW,all2];rw [zfr,zfr,zfr,zfr,zkb];rfl
theorem sh39:G.shared 39=false:=by decide
theorem e39 (n:Nat) (p:Problem) (gs:List (List Nat)) (k:Nat) (h:GuiltIn p gs k) (hmu:muL p.boxes.xs<=600) (hsz:(zpb p gs k).length<=30000000):zH G (n+640) 39 [.agg p.cells]=some ((Sl.of (zpb p gs k)).pv Node.cells 4):=by
 refine zy (zx _) rfl g39 rfl ?_
 unfold zpb at hsz ⊢;have hgp:=h.grow;have ok:=h.ok;have nb:=ok.nb;have nf:=ok.nf;have hwf:=zcM ok;have hgu:=fun H=>zf (G:=G) (n:=n+639) (H:=H) (caps:=[]) (ps:=[.agg p.cells]) sh72 (e72 (n+587) p gs k h);have hfa:Hide (∀ f∈p.facts.xs,0<=f.a):=⟨fun f hf=>by have:=(z8 f _).1 (ok.fact f hf);omega⟩
 obtain ⟨g,hg⟩:∃ g,gs[k]! = g:=⟨_,rfl⟩
 rw [hg] at hgp hgu hsz ⊢;obtain ⟨T,hT⟩:∃ T,zb3 p g (muL p.boxes.xs+1) p.boxes.xs=T:=⟨_,rfl⟩
 rw [hT] at hsz ⊢;obtain ⟨n',hn'⟩:∃ n',n+639=n'+(muL p.boxes.xs+1)+10:=⟨n+639 - (muL p.boxes.xs+1) - 10,by omega⟩
 have hgc:=Hide.mk fun (mb ob pb gb bs:Nat) (hb:GwB mb ob pb gb bs) (M:AV) (H:Heap) (v:AV) (hv:BoxG H ob bs v p.boxes.xs) (hi:GwIn p g mb ob pb gb bs M H (.pure .nils) [])=>zjo hgp hb (M:=M) (muL p.boxes.xs+1) n' H v p.boxes.xs (.pure .nils) [] (Nat.lt_succ_self _) (SubL.refl _) hwf hv (by rw [hT];simpa using hsz) hi;rw [<- hn',hT] at hgc;have hgl12:=hgp.few;clear h hn' hT hg hgp;obtain ⟨bs,fs⟩:=p;have hbl:bs.xs.length < 1000:=by have:bs.xs.length<=12:=nb;omega
 have hfl:fs.xs.length<=60:=nf;simp only [Problem.cells,zb0 g,List.map_cons,List.map_nil] at hgu;have hco:Hide (∀ (x:Int),0<=x->∀ H,zG (zt G (n+639)) H (.pure (.func 70 [])) [.pure ((Sl.mk false (zM g)).pv intF 1),.pure (.int .i64 x)]=some (.val (.pure (.bool (g.contains x.toNat))))):=⟨fun x hx H=>by
  have:=zf (G:=G) (n:=n+639) (H:=H) (caps:=[]) (ps:=[(Sl.mk false (zM g)).pv intF 1,.int .i64 x]) sh70 (e70 (n+637) (Sl.mk false (zM g)) x (by rw [Sl.xs_mk,zab];omega));rw [Sl.xs_mk,zfx hx] at this;exact this⟩
 clear nb nf ok hwf;(repeat' first|simp [*,za,c39,Problem.cells]|(apply zb<;>intro _ h<;>try simp [-Nat.le_zero_eq] at h)|(show wpE 0 (zi ..) ..;refine zm ?_)|(refine zg fun v2 H2 hv2 hnx2 hget2 hnew2 hone2 hcel2=>?_))
 refine zB [(5,6),(15,28)] (fun (a:Nat) env H=>env 15=.pure (.int .i64 a)/\a<=fs.xs.length/\2 < H.nx/\H.get 0=.cells true [.pure ((Sl.mk false (zM g)).pv intF 1)]/\∃ M,H.get 2=.cells true [M]/\Hide (OwnV intF 1 H M (ze5 fs.xs g a)/\∀ id,Names M id->id≠0/\id≠2)) (fun a=>fs.xs.length - a) 0 ?_ ?_ ?_ ?_
 ·decide
 ·refine ⟨by simp,by omega,by simp,by simp,.row 1 1 0 0,by simp,⟨.inr ⟨1,rfl,by simp [ze5,zau,zn]⟩,fun id ⟨_,_,_,h⟩=>by simp at h;omega⟩⟩
 ·simp only [zz];omega
 rintro a env H ⟨g15,ha,hnx,h0,M,h2,hV⟩;have hVo:=hV.h.1.one;have hVo1:=hVo.1;have hVo2:=hVo.2;have hn0:0 < H.nx:=by omega
 have hn1:1 < H.nx:=by omega
 have h0x:(0:Nat)≠H.nx:=by omega
 have h2x:(2:Nat)≠H.nx:=by omega
 clear hVo
 by_cases hlt2:a < fs.xs.length
 ·have w2:IntKind.i64.wrap ((a:Int)+1)=(a+1:Nat):=by rw [wrap64 (by omega) (by omega)];omega
  have hltI:(a:Int) < fs.xs.length:=by omega
  have hst:=znk (g:=g) hlt2;have hlen:=zqk fs.xs g a;have hca:=hco.h fs.xs[a].a (hfa.h _ (List.getElem_mem hlt2));obtain ⟨F,hF⟩:∃ F,fs.xs[a]=F:=⟨_,rfl⟩
  rw [hF] at hst hca;obtain ⟨d1,d2,d3,da,db,dc,⟨d4,d5⟩,d6⟩:=F;simp only at hca hst
  cases hq:g.contains da.toNat with
  | true =>
   rw [hq,if_pos rfl] at hst;rw [hq] at hca;have hstH:=Hide.mk hst;clear hst hq;(repeat' first|simp [*,za,Fact.cells,Span.cells]|(apply zb<;>intro _ h<;>try simp [-Nat.le_zero_eq] at h)|(show wpE 0 (zi ..) ..;refine zm ?_)|(refine zg fun v2 H2 hv2 hnx2 hget2 hnew2 hone2 hcel2=>?_));have hnl:∀ id,Names M id->id < H.nx:=fun id h=>hV.h.1.names_lt h
   refine zmq (f:=intF) (sz:=1) (l:=ze5 fs.xs g a) (OwnV.alloc (hV.h.1.keep (H':=(H.alloc _).set H.nx _) fun id ⟨m,hm⟩=>by
    have:=hnl id ⟨_,_,_,hm⟩;rw [ze (by omega),zh this]) _) (fun _=>rfl) (by decide) (fun _=>rfl) (by unfold zu;omega) ⟨(a:Int),by simp,?_⟩
   intro V4 H4 hg4 ha4;have hgo:∀ c,c < H.nx->¬ Names M c->H4.get c=H.get c:=fun c hc hn=>by rw [ha4.get c (by rw [zam,zaw,zam];omega) hn,zh (by rw [zaw,zam];omega),ze (by omega),zh hc]
   have k0:H4.get 0=.cells true [.pure ((Sl.mk false (zM g)).pv intF 1)]:=by rw [hgo 0 hn0 (fun hn=>(hV.h.2 0 hn).1 rfl)];exact h0
   have k2:H4.get 2=.cells true [M]:=by rw [hgo 2 hnx (fun hn=>(hV.h.2 2 hn).2 rfl)];exact h2
   have gn:2 < H4.nx:=by have:=ha4.nx;rw [zam,zaw,zam] at this;omega
   have hV4:Hide (OwnV intF 1 H4 V4 (ze5 fs.xs g (a+1))/\∀ id,Names V4 id->H.nx < id):=⟨by rw [hstH.h];exact hg4.1,fun id hn=>by have:=ha4.new id hn;rw [zam,zaw,zam] at this;omega⟩
   have o4:=hg4.1.one;have o4a:=o4.1;have o4b:=o4.2;clear hg4 ha4 o4 hV hgo h0 h2;(repeat' first|simp [*,za]|(apply zb<;>intro _ h<;>try simp [-Nat.le_zero_eq] at h)|(show wpE 0 (zi ..) ..;refine zm ?_)|(refine zg fun v2 H2 hv2 hnx2 hget2 hnew2 hone2 hcel2=>?_))
   refine ⟨a+1,by omega,by omega,by omega,⟨hV4.h.1.keep fun id ⟨m,hm⟩=>?_,fun id hn=>by have:=hV4.h.2 id hn;omega⟩⟩
   have h8:=hV4.h.2 id ⟨_,_,_,hm⟩;exact ze (by omega)
  | false =>
   rw [hq,if_neg (by simp)] at hst;rw [hq] at hca;have hstH:=Hide.mk hst;have hB2:Hide (∀ o1 o2,OwnV intF 1 ((H.alloc o1).set H.nx o2) M (ze5 fs.xs g (a+1))):=⟨fun o1 o2=>by
    rw [hstH.h];exact hV.h.1.keep fun id ⟨m,hm⟩=>by
     have:=hV.h.1.names_lt (⟨_,_,_,hm⟩:Names M id);rw [ze (by omega),zh this]⟩
   clear hst hq;(repeat' first|simp [*,za,Fact.cells,Span.cells]|(apply zb<;>intro _ h<;>try simp [-Nat.le_zero_eq] at h)|(show wpE 0 (zi ..) ..;refine zm ?_)|(refine zg fun v2 H2 hv2 hnx2 hget2 hnew2 hone2 hcel2=>?_));exact ⟨a+1,by omega,by omega,by omega,by omega,⟨hB2.h _ _,hV.h.2⟩⟩
 ·have haN:a=fs.xs.length:=by omega
  subst haN;have hmU:ze5 fs.xs g fs.xs.length=zeT fs.xs g:=rfl;rw [hmU] at hV;clear hlt2 ha hco hfa hmU;(repeat' first|simp [*,za]|(apply zb<;>intro _ h<;>try simp [-Nat.le_zero_eq] at h)|(show wpE 0 (zi ..) ..;refine zm ?_)|(refine zg fun v2 H2 hv2 hnx2 hget2 hnew2 hone2 hcel2=>?_))
  refine zgZ (zf0 (n:=n+638) zgV (zhd hbl ?_))
  intro B H1 hB hBn hnx1 hsame hnew;simp at hnx1;have hsm:=hsame (H.nx+1) (by simp);have hkeep:∀ j,j < H.nx->H1.get j=H.get j:=fun j h=>by
   rw [hsame j (by simp;omega),ze (by omega),zh (by rw [zam];omega),zh h]
  have ko:H1.get H.nx=.cells true [.pure .nils]:=by rw [hsame H.nx (by simp)];simp
  have kg:H1.get (H.nx+1)=.cells true [.func 73 (zcW ⟨bs,fs⟩ 2 H.nx 0 (H.nx+1))]:=by rw [hsm];simp [zcW,Problem.cells]
  refine ⟨?_,?_⟩
  ·unfold keeps;simp only;rw [hsm,zq (by simp)];have:=zoi 73 2 H.nx 0 (H.nx+1) ⟨bs,fs⟩;simp only [zcW,Problem.cells] at this;simp [this]
  have gi:GwIn ⟨bs,fs⟩ g 2 H.nx 0 (H.nx+1) H1.nx M H1 (.pure .nils) [] :=
   ⟨by rw [hkeep 2 hnx];exact h2,hV.h.1.keep fun id ⟨n,hn⟩=>hkeep id (hV.h.1.names_lt ⟨_,_,_,hn⟩),ko,GrowV.nil,by rw [hkeep 0 hn0,zb0];exact h0,kg,fun id hn=>⟨by have:=hV.h.1.names_lt hn;omega,by have:=hV.h.1.names_lt hn;omega⟩,fun id ⟨_,_,_,h⟩=>by simp at h,Nat.le_refl _⟩
  have gb:GwB 2 H.nx 0 (H.nx+1) H1.nx:=⟨by omega,by omega,by omega,by omega,by omega,by omega,by omega⟩
  have bg:BoxG H1 H.nx H1.nx B bs.xs:=zqI hB fun id h=>⟨by have:=hnew id h;simp at this;omega,hB.names_lt h⟩
  have hcH:=Hide.mk (hgc.h 2 H.nx 0 (H.nx+1) H1.nx gb M H1 B bg gi);have hone:=hB.one;have ho1:=hone.1;have ho2:=hone.2;have hn2:H.nx < H1.nx:=by omega
  clear hgc hB hBn hsame hnew hsm hkeep kg gi gb bg hV h0 h2 hone;(repeat' first|simp [*,za]|(apply zb<;>intro _ h<;>try simp [-Nat.le_zero_eq] at h)|(show wpE 0 (zi ..) ..;refine zm ?_)|(refine zg fun v2 H2 hv2 hnx2 hget2 hnew2 hone2 hcel2=>?_))
  refine za1 (n:=n+638) zkw (zbI hcH.h ?_)
  rintro H2 ⟨V2,o2⟩;have g2:=o2.at_;have hgr:=o2.gr;rw [List.nil_append] at hgr;have hn3:H.nx < H2.nx:=by have:=o2.same.nx;omega
  have hone:=hgr.1.one;have ho3:=hone.1;have ho4:=hone.2;obtain ⟨ids,hids⟩:=(hgr.res (n:=10) (fun _=>rfl))
  clear o2 hcH hgr hone ko;(repeat' first|simp [*,za]|(apply zb<;>intro _ h<;>try simp [-Nat.le_zero_eq] at h)|(show wpE 0 (zi ..) ..;refine zm ?_)|(refine zg fun v2 H2 hv2 hnx2 hget2 hnew2 hone2 hcel2=>?_));exact ⟨ids,hids⟩
def zcq (r:Int×Int) (T:List Node):List Node×Int:=if r.2≠0 then ([],r.2) else if r.1≠2 then ([],5) else (T,0)
def zbx (p:Problem) (f:Fact) (gs:List (List Nat)) (k:Nat):List Node:=zb3 (zad p f true) gs[k]! (muL p.boxes.xs+1) p.boxes.xs
structure ProveIn (p:Problem) (f:Fact) (gs:List (List Nat)) (k:Nat):Prop where
 ok:zD p f=0
 gi:GuiltIn (zad p f true) gs k
 mu:muL p.boxes.xs<=600
 tr:zoc (zad p f true) (zbx p f gs k)
theorem sh17:G.shared 17=false:=by decide
theorem e17 (n:Nat) (p:Problem) (f:Fact) (D1 D2 D3:FoundD) (e1 e2 e3:Int) (h:zD p f=0->FindOut p D1 e1/\FindOut (zad p f false) D2 e2/\FindOut (zad p f true) D3 e3) (gs:List (List Nat)) (k:Nat) (hg:za9 (zD p f) D1 e1 D2 e2 D3 e3=(2,0)->ProveIn p f gs k):zH G (n+700) 17 [.agg p.cells,.agg f.cells]=some (.tup [(Sl.of (zcq (za9 (zD p f) D1 e1 D2 e2 D3 e3) (zbx p f gs k)).1).pv Node.cells 4,.int .i64 (zcq (za9 (zD p f) D1 e1 D2 e2 D3 e3) (zbx p f gs k)).2]):=by
 refine zy (zx _) rfl g17 rfl ?_
 have hd:=fun H=>zf (G:=G) (n:=n+699) (H:=H) (caps:=[]) (ps:=[.agg p.cells,.agg f.cells]) sh15 (e15 (n+647) p f D1 D2 D3 e1 e2 e3 h);obtain ⟨⟨a,e⟩,hr⟩:∃ r,za9 (zD p f) D1 e1 D2 e2 D3 e3=r:=⟨_,rfl⟩
 rw [hr] at hd hg ⊢;simp only [Problem.cells,Fact.cells,Span.cells,List.map_cons,List.map_nil] at hd
 by_cases he:e=0
 case neg =>
  have hp:zcq (a,e) (zbx p f gs k)=([],e):=by unfold zcq;rw [if_pos he]
  rw [hp];clear hp hr hg h;(repeat' first|simp [*,za,c17,Problem.cells,Fact.cells,Span.cells]|(apply zb<;>intro _ h<;>try simp [-Nat.le_zero_eq] at h))
 subst he
 by_cases ha:a=2
 case neg =>
  have hp:zcq (a,0) (zbx p f gs k)=([],5):=by unfold zcq;simp [ha]
  rw [hp];clear hp hr hg h;(repeat' first|simp [*,za,c17,Problem.cells,Fact.cells,Span.cells]|(apply zb<;>intro _ h<;>try simp [-Nat.le_zero_eq] at h))
 subst ha;have hp:zcq (2,0) (zbx p f gs k)=(zbx p f gs k,0):=by unfold zcq;simp
 rw [hp];have hi:=hg rfl;obtain ⟨ok,_,_⟩:=zcb (t:=true) hi.ok;have nf:=ok.nf;have hw:=fun H=>zf (G:=G) (n:=n+699) (H:=H) (caps:=[]) (ps:=[.agg p.cells,.agg f.cells,.bool true]) sh49 (e49 (n+697) p f true (by omega));have hrf:=fun H=>zf (G:=G) (n:=n+699) (H:=H) (caps:=[]) (ps:=[.agg (zad p f true).cells]) sh39 (e39 (n+59) (zad p f true) gs k hi.gi hi.mu (Nat.le_trans hi.tr.2 (by decide)));have hT:zpb (zad p f true) gs k=zbx p f gs k:=rfl;rw [hT] at hrf;generalize zbx p f gs k=T at *;obtain ⟨q,hq⟩:∃ q,zad p f true=q:=⟨_,rfl⟩
 rw [hq] at hw hrf;obtain ⟨qb,qf⟩:=q;simp only [Problem.cells,Fact.cells,Span.cells,List.map_cons,List.map_nil] at hw hrf;clear hp hr hg h hi hT hq ok nf;(repeat' first|simp [*,za,c17,Problem.cells,Fact.cells,Span.cells]|(apply zb<;>intro _ h<;>try simp [-Nat.le_zero_eq] at h))
def zbp (p:Problem) (f:Fact) (tree:List Node):Int:=if zD p f≠0 then zD p f else if 262144 < tree.length then 2 else if zc4 (zad p f true).facts.xs p.boxes.xs tree=true then 0 else 8
theorem sh19:G.shared 19=false:=by decide
theorem e19 (n:Nat) (p:Problem) (f:Fact) (tree:Sl Node) (htl:tree.xs.length < 4000000000000000000) (hmu:zD p f=0->muL p.boxes.xs<=600):zH G (n+700) 19 [.agg p.cells,.agg f.cells,tree.pv Node.cells 4]=some (.int .i64 (zbp p f tree.xs)):=by
 refine zy (zx _) rfl g19 rfl ?_
 have hd:=fun H=>zf (G:=G) (n:=n+699) (H:=H) (caps:=[]) (ps:=[.agg p.cells,.agg f.cells]) sh47 (e47 (n+695) p f);simp only [Problem.cells,Fact.cells,Span.cells,List.map_cons,List.map_nil] at hd
 by_cases he:zD p f=0
 case neg =>
  have hp:zbp p f tree.xs=zD p f:=by unfold zbp;rw [if_pos he]
  rw [hp];generalize zD p f=c at *;clear hp hmu;(repeat' first|simp [*,za,c19,Problem.cells,Fact.cells,Span.cells]|(apply zb<;>intro _ h<;>try simp [-Nat.le_zero_eq] at h))
 by_cases ht:262144 < tree.xs.length
 ·have hp:zbp p f tree.xs=2:=by unfold zbp;rw [if_neg (by simp [he]),if_pos ht]
  have htI:(262144:Int) < tree.xs.length:=by omega
  rw [hp];rw [he] at hd;clear hp hmu he;(repeat' first|simp [*,za,c19,Problem.cells,Fact.cells,Span.cells]|(apply zb<;>intro _ h<;>try simp [-Nat.le_zero_eq] at h))
 obtain ⟨ok,okq,_⟩:=zcb (t:=true) he;have nf:=ok.nf;have htI:¬ (262144:Int) < tree.xs.length:=by omega
 have hw:=fun H=>zf (G:=G) (n:=n+699) (H:=H) (caps:=[]) (ps:=[.agg p.cells,.agg f.cells,.bool true]) sh49 (e49 (n+697) p f true (by omega));have hf:=fun H=>zf (G:=G) (n:=n+699) (H:=H) (caps:=[]) (ps:=[.agg (zad p f true).cells,tree.pv Node.cells 4]) sh46 (e46 (n+59) (zad p f true) okq tree htl (hmu he));have hb:(zad p f true).boxes.xs=p.boxes.xs:=rfl;have hp:zbp p f tree.xs=if zc4 (zad p f true).facts.xs p.boxes.xs tree.xs=true then 0 else 8:=by unfold zbp;rw [if_neg (by simp [he]),if_neg ht]
 rw [hb] at hf;rw [hp];rw [he] at hd;generalize zc4 (zad p f true).facts.xs p.boxes.xs tree.xs=B at *;obtain ⟨q,hq⟩:∃ q,zad p f true=q:=⟨_,rfl⟩
 rw [hq] at hw hf;obtain ⟨qb,qf⟩:=q;simp only [Problem.cells,Fact.cells,Span.cells,List.map_cons,List.map_nil] at hw hf;clear hp hmu he ok okq nf hb hq ht
 cases B
 ·(repeat' first|simp [*,za,c19,Problem.cells,Fact.cells,Span.cells]|(apply zb<;>intro _ h<;>try simp [-Nat.le_zero_eq] at h))
 ·(repeat' first|simp [*,za,c19,Problem.cells,Fact.cells,Span.cells]|(apply zb<;>intro _ h<;>try simp [-Nat.le_zero_eq] at h))
theorem zjn {α:Type} {f:α->List PV} {sz bytes id:Nat} {H:Heap} {b:AV} {l m:List α} {k:AV->Heap->Prop} {u} (hid:H.get id=.cells true (zn f l)) (hf:∀ a,(f a).length=sz) (h0:0 < sz) (hone:∀ a,(f a).all PV.one=true)
  (hb:zL H sz b=some (zn f m,m.length)) (hm:(l.length+m.length)*sz<=zu/\(l.length+m.length)*bytes<=zu)
  (hk:∀ id' H',H'.get id'=.cells true (zn f (l++m))->H.nx<=H'.nx->(∀ i,i < H.nx->i≠id->H'.get i=H.get i)->(id'=id\/H.nx<=id')->k (.row id' sz 0 (l.length+m.length)) H'):wpE 0 (zi H sz bytes (.row id sz 0 l.length) b) H k u:=by
 have ho:=zeP hone m;have hlen:=zas hf l
 by_cases hm0:m.length=0
 ·have hl:m=[]:=List.eq_nil_of_length_eq_zero hm0;subst hl;have:zi H sz bytes (.row id sz 0 l.length) b=some (.upd (.row id sz 0 l.length) (H.set id (.cells true (zn f l)))):=by
   simp only [zi,hb,ho,hid,zdk];simp only [Bool.not_true,Bool.false_eq_true,if_false,if_true,List.all_nil,List.length_nil,Nat.add_zero,Nat.zero_mul,Nat.zero_add,List.append_nil];rw [if_pos (by rw [hlen];exact Nat.le_refl _),List.take_of_length_le (by rw [hlen];exact Nat.le_refl _),List.drop_eq_nil_of_le (by rw [hlen];exact Nat.le_refl _),List.append_nil]
  rw [this,zde];exact hk id _ (by rw [zbb (zo hid),List.append_nil]) (Nat.le_refl _) (fun i hi hn=>ze hn) (.inl rfl)
 ·have hnot:¬ (0*sz+(l.length+m.length)*sz<=(zn f l).length):=by
   rw [hlen,Nat.add_mul];have:=Nat.mul_pos (Nat.pos_of_ne_zero hm0) h0;omega
  have:zi H sz bytes (.row id sz 0 l.length) b=some (.upd (.row H.nx sz 0 (l.length+m.length)) ((H.set id .dead).alloc (.cells true (zn f l++zn f m)))):=by
   simp only [zi,hb,ho,hid];simp only [Bool.not_true,Bool.false_eq_true,if_false,if_true];rw [if_neg hnot];simp only [true_and];rw [if_pos ⟨hlen.symm,hm⟩]
  rw [this,zde]
  refine hk H.nx _ ?_ (Nat.le_succ _) (fun i hi hn=>?_) (.inr (Nat.le_refl _))
  ·have:(H.set id .dead).nx=H.nx:=rfl;rw [<- this,zaB,zaD]
  ·rw [zh (by exact hi),ze hn]
theorem sh44:G.shared 44=false:=by decide
theorem e44 (n:Nat) (p:Problem) (ok:CheckOk p) (tree:Sl Node) (htl:tree.xs.length < 4000000000000000000) (hmu:muL p.boxes.xs<=600):zH G (n+640) 44 [.agg p.cells,tree.pv Node.cells 4]=some (.bool (zc4 p.facts.xs p.boxes.xs tree.xs)):=by
 refine zy (zx _) rfl g44 rfl ?_
 have nb:=ok.nb;have hwl:=zcM ok;generalize hR:zc4 p.facts.xs p.boxes.xs tree.xs=R;have hH:=Hide.mk hR;clear hR;obtain ⟨n',hn'⟩:∃ n',n+639=n'+(muL p.boxes.xs+1)+8:=⟨n+639 - (muL p.boxes.xs+1) - 8,by omega⟩
 have hwc:=Hide.mk (fun (H:Heap) (lb:Nat) (h:0≠lb) (h1:H.get 0=wkC p tree 0 true) (h2:H.get lb=.cells true (zn Box.cells p.boxes.xs))=>zhR ok htl h rfl (muL p.boxes.xs+1) n' H p.boxes.xs 0 true (Nat.lt_succ_self _) (SubL.refl _) hwl (Nat.zero_le _) h1 h2);rw [<- hn'] at hwc;clear hn';(repeat' first|simp [*,za,c44,Problem.cells]|(apply zb<;>intro _ h<;>try simp [-Nat.le_zero_eq] at h))
 refine zjn (f:=Box.cells) (sz:=4) (id:=1) (l:=[]) (m:=p.boxes.xs) ?_ (fun _=>rfl) (by decide) (fun _=>rfl) ?_ ?_ ?_
 ·simp [zn]
 ·exact zaV (f:=Box.cells) (sz:=4) (fun _=>rfl) _
 ·simp only [zu,List.length_nil];omega
 intro lb H1 hlb hnx hsame hid;simp only [List.nil_append] at hlb;simp at hnx;have k0:H1.get 0=wkC p tree 0 true:=by
  rw [hsame 0 (by simp) (by decide)];simp [wkC]
 have hlb0:0≠lb:=by
  rcases hid with h|h
  ·omega
  ·simp at h;omega
 have hw2:=Hide.mk (hwc.h H1 lb hlb0 k0 hlb);have hfit:zc4 p.facts.xs p.boxes.xs tree.xs=R:=hH.h;unfold zc4 at hfit;obtain ⟨⟨b1,a1⟩,hr1⟩:∃ r,zbk p.facts.xs tree.xs (muL p.boxes.xs+1) p.boxes.xs 0=r:=⟨_,rfl⟩
 have hrw:rwF p tree (muL p.boxes.xs+1) p.boxes.xs 0 true=(b1,a1):=by unfold rwF;rw [if_pos rfl];exact hr1
 rw [hrw] at hw2;rw [hr1] at hfit;simp only at hfit;clear hwc hsame hid hr1 hrw hH k0 hlb;(repeat' first|simp [*,za]|(apply zb<;>intro _ h<;>try simp [-Nat.le_zero_eq] at h))
 refine zdj ze0 (zbI hw2.h ?_)
 intro H2 o2;have g2:=o2.at_;have n2:=o2.same.nx;have hn2:0 < H2.nx:=by omega
 unfold wkC at g2;simp only at g2;clear o2 hw2
 cases b1 with
 | false =>
  have hR:R=false:=by rw [<- hfit];rfl
  subst hR;(repeat' first|simp [*,za]|(apply zb<;>intro _ h<;>try simp [-Nat.le_zero_eq] at h))
 | true =>
  have hR:R=decide (a1=tree.xs.length):=by rw [<- hfit];rfl
  have hdec:decide ((a1:Int)=tree.xs.length)=decide (a1=tree.xs.length):=by rw [decide_eq_decide];omega
  subst hR;(repeat' first|simp [*,za]|(apply zb<;>intro _ h<;>try simp [-Nat.le_zero_eq] at h))
theorem sh51:G.shared 51=false:=by decide
theorem e51 (n:Nat) (f:Fact):zH G (n+1) 51 [.agg f.cells]=some (.agg (zcx f true).cells):=by
 refine zy (zx _) rfl g51 rfl ?_
 obtain ⟨d1,d2,d3,da,db,dc,⟨d4,d5⟩,d6⟩:=f
 cases d3
 ·(repeat' first|simp [*,za,c51,Fact.cells,Span.cells,zcx]|(apply zb<;>intro _ h<;>try simp [-Nat.le_zero_eq] at h))
 ·(repeat' first|simp [*,za,c51,Fact.cells,Span.cells,zcx]|(apply zb<;>intro _ h<;>try simp [-Nat.le_zero_eq] at h))
theorem zkm (p:Problem) (f:Fact):zad p (zcx f true) false=zad p f true:=by
 unfold zad;rw [znH]
theorem sh18:G.shared 18=false:=by decide
theorem e18 (n:Nat) (p:Problem) (f:Fact) (tree:Sl Node) (htl:tree.xs.length < 4000000000000000000) (hmu:zD p f=0->muL p.boxes.xs<=600):zH G (n+700) 18 [.agg p.cells,.agg f.cells,tree.pv Node.cells 4]=some (.int .i64 (zbp p f tree.xs)):=by
 refine zy (zx _) rfl g18 rfl ?_
 have hc:=fun H=>zf (G:=G) (n:=n+699) (H:=H) (caps:=[]) (ps:=[.agg p.cells]) sh27 (e27 (n+696) p);simp only [Problem.cells,List.map_cons,List.map_nil] at hc
 by_cases h0:zac p=0
 case neg =>
  have hp:zbp p f tree.xs=zac p:=by
   have:zD p f=zac p:=by unfold zD;rw [if_pos h0]
   unfold zbp;rw [this,if_pos h0]
  rw [hp];generalize zac p=c at *;clear hp hmu;(repeat' first|simp [*,za,c18,Problem.cells,Fact.cells,Span.cells]|(apply zb<;>intro _ h<;>try simp [-Nat.le_zero_eq] at h))
 have ok:=check_ok.1 h0;have nb:=ok.nb;have nf:=ok.nf;have hf:=fun H=>zf (G:=G) (n:=n+699) (H:=H) (caps:=[]) (ps:=[.agg f.cells,.int .i64 (p.boxes.xs.length:Nat)]) sh50 (e50 (n+697) f p.boxes.xs.length (by omega));simp only [Fact.cells,Span.cells,List.map_cons,List.map_nil] at hf;rw [h0] at hc
 cases hb:zaa f p.boxes.xs.length with
 | false =>
  have hfu:zD p f=1:=by unfold zD;rw [if_neg (by simp [h0]),if_neg (by simp [hb])]
  have hp:zbp p f tree.xs=1:=by unfold zbp;rw [hfu];simp
  rw [hp];rw [hb] at hf;clear hp hmu hfu hb ok h0;(repeat' first|simp [*,za,c18,Problem.cells,Fact.cells,Span.cells]|(apply zb<;>intro _ h<;>try simp [-Nat.le_zero_eq] at h))
 | true =>
  rw [hb] at hf
  by_cases h60:60<=p.facts.xs.length
  ·have hfu:zD p f=2:=by unfold zD;rw [if_neg (by simp [h0]),if_pos hb,if_pos h60]
   have hp:zbp p f tree.xs=2:=by unfold zbp;rw [hfu];simp
   have h6I:(60:Int)<=p.facts.xs.length:=by omega
   rw [hp];clear hp hmu hfu hb ok h0;(repeat' first|simp [*,za,c18,Problem.cells,Fact.cells,Span.cells]|(apply zb<;>intro _ h<;>try simp [-Nat.le_zero_eq] at h))
  have hfu:zD p f=0:=by unfold zD;rw [if_neg (by simp [h0]),if_pos hb,if_neg h60]
  have h6I:¬ (60:Int)<=p.facts.xs.length:=by omega
  by_cases ht:262144 < tree.xs.length
  ·have hp:zbp p f tree.xs=2:=by unfold zbp;rw [if_neg (by simp [hfu]),if_pos ht]
   have htI:(262144:Int) < tree.xs.length:=by omega
   rw [hp];clear hp hmu hfu hb ok h0;(repeat' first|simp [*,za,c18,Problem.cells,Fact.cells,Span.cells]|(apply zb<;>intro _ h<;>try simp [-Nat.le_zero_eq] at h))
  have htI:¬ (262144:Int) < tree.xs.length:=by omega
  obtain ⟨_,okq,_⟩:=zcb (t:=true) hfu;have hag:=fun H=>zf (G:=G) (n:=n+699) (H:=H) (caps:=[]) (ps:=[.agg f.cells]) sh51 (e51 (n+698) f);have hw:=fun H=>zf (G:=G) (n:=n+699) (H:=H) (caps:=[]) (ps:=[.agg p.cells,.agg (zcx f true).cells]) sh35 (e35 (n+698) p (zcx f true) (by omega));have hfi:=fun H=>zf (G:=G) (n:=n+699) (H:=H) (caps:=[]) (ps:=[.agg (zad p f true).cells,tree.pv Node.cells 4]) sh44 (e44 (n+59) (zad p f true) okq tree htl (hmu hfu));have hbx:(zad p f true).boxes.xs=p.boxes.xs:=rfl;have hp:zbp p f tree.xs=if zc4 (zad p f true).facts.xs p.boxes.xs tree.xs=true then 0 else 8:=by unfold zbp;rw [if_neg (by simp [hfu]),if_neg ht]
  rw [hbx] at hfi;rw [hp];rw [zkm] at hw;generalize zc4 (zad p f true).facts.xs p.boxes.xs tree.xs=B at *;obtain ⟨q,hq⟩:∃ q,zad p f true=q:=⟨_,rfl⟩
  rw [hq] at hw hfi;obtain ⟨qb,qf⟩:=q;obtain ⟨⟨t1,t2,t3,ta,tb,tc,⟨t4,t5⟩,t6⟩,ht2⟩:∃ t,zcx f true=t:=⟨_,rfl⟩
  rw [ht2] at hag hw;simp only [Problem.cells,Fact.cells,Span.cells,List.map_cons,List.map_nil] at hw hfi hag;clear hp hmu hfu ok okq nf hbx hq ht hb h0 ht2
  cases B
  ·(repeat' first|simp [*,za,c18,Problem.cells,Fact.cells,Span.cells]|(apply zb<;>intro _ h<;>try simp [-Nat.le_zero_eq] at h))
  ·(repeat' first|simp [*,za,c18,Problem.cells,Fact.cells,Span.cells]|(apply zb<;>intro _ h<;>try simp [-Nat.le_zero_eq] at h))
def zaC (e0 E1 E2 E3:Int):Int×Int:=if e0≠0 then (0,e0) else if E1=2\/E2=2\/E3=2 then (0,2) else if E1≠0 then (0,E1) else if E3≠0 then (2,0) else if E2≠0 then (1,0) else (3,0)
structure DecIn (p:Problem) (f:Fact) (E1 E2 E3:Int):Prop where
 s1:∃ nS hS oS,zdF p E1 nS hS oS
 s2:∃ nS hS oS,zdF (zad p f false) E2 nS hS oS
 s3:∃ nS hS oS,zdF (zad p f true) E3 nS hS oS
theorem sh16:G.shared 16=false:=by decide
theorem e16 (n:Nat) (p:Problem) (f:Fact) (E1 E2 E3:Int) (h:DecIn p f E1 E2 E3):zH G (n+11) 16 [.agg p.cells,.agg f.cells]=some (.tup [.int .i64 (zaC (zD p f) E1 E2 E3).1,.int .i64 (zaC (zD p f) E1 E2 E3).2]):=by
 refine zy (zx _) rfl g16 rfl ?_
 have hc:=fun H=>zf (G:=G) (n:=n+10) (H:=H) (caps:=[]) (ps:=[.agg p.cells]) sh27 (e27 (n+7) p);simp only [Problem.cells,List.map_cons,List.map_nil] at hc
 by_cases h0:zac p=0
 case neg =>
  have hfu:zD p f=zac p:=by unfold zD;rw [if_pos h0]
  have hp:zaC (zD p f) E1 E2 E3=(0,zac p):=by
   unfold zaC;rw [hfu,if_pos h0]
  rw [hp];generalize zac p=c at *;clear hp h hfu;(repeat' first|simp [*,za,c16,Problem.cells,Fact.cells,Span.cells]|(apply zb<;>intro _ h<;>try simp [-Nat.le_zero_eq] at h))
 have ok:=check_ok.1 h0;have nb:=ok.nb;have nf:=ok.nf;have hf:=fun H=>zf (G:=G) (n:=n+10) (H:=H) (caps:=[]) (ps:=[.agg f.cells,.int .i64 (p.boxes.xs.length:Nat)]) sh50 (e50 (n+8) f p.boxes.xs.length (by omega));simp only [Fact.cells,Span.cells,List.map_cons,List.map_nil] at hf;rw [h0] at hc
 cases hb:zaa f p.boxes.xs.length with
 | false =>
  have hfu:zD p f=1:=by unfold zD;rw [if_neg (by simp [h0]),if_neg (by simp [hb])]
  have hp:zaC (zD p f) E1 E2 E3=(0,1):=by unfold zaC;rw [hfu];simp
  rw [hp];rw [hb] at hf;clear hp h hfu hb ok h0;(repeat' first|simp [*,za,c16,Problem.cells,Fact.cells,Span.cells]|(apply zb<;>intro _ h<;>try simp [-Nat.le_zero_eq] at h))
 | true =>
  rw [hb] at hf
  by_cases h60:60<=p.facts.xs.length
  ·have hfu:zD p f=2:=by unfold zD;rw [if_neg (by simp [h0]),if_pos hb,if_pos h60]
   have hp:zaC (zD p f) E1 E2 E3=(0,2):=by unfold zaC;rw [hfu];simp
   have h6I:(60:Int)<=p.facts.xs.length:=by omega
   rw [hp];clear hp h hfu hb ok h0;(repeat' first|simp [*,za,c16,Problem.cells,Fact.cells,Span.cells]|(apply zb<;>intro _ h<;>try simp [-Nat.le_zero_eq] at h))
  have hfu:zD p f=0:=by unfold zD;rw [if_neg (by simp [h0]),if_pos hb,if_neg h60]
  have h6I:¬ (60:Int)<=p.facts.xs.length:=by omega
  obtain ⟨nS1,hS1,oS1,s1⟩:=h.s1;obtain ⟨nS2,hS2,oS2,s2⟩:=h.s2;obtain ⟨nS3,hS3,oS3,s3⟩:=h.s3;have v1:=fun H=>zf (G:=G) (n:=n+10) (H:=H) (caps:=[]) (ps:=[.agg p.cells]) sh12 (e12 n p E1 nS1 hS1 oS1 s1);have v2:=fun H=>zf (G:=G) (n:=n+10) (H:=H) (caps:=[]) (ps:=[.agg (zad p f false).cells]) sh12 (e12 n (zad p f false) E2 nS2 hS2 oS2 s2);have v3:=fun H=>zf (G:=G) (n:=n+10) (H:=H) (caps:=[]) (ps:=[.agg (zad p f true).cells]) sh12 (e12 n (zad p f true) E3 nS3 hS3 oS3 s3);have hag:=fun H=>zf (G:=G) (n:=n+10) (H:=H) (caps:=[]) (ps:=[.agg f.cells]) sh51 (e51 (n+9) f);have ww1:=fun H=>zf (G:=G) (n:=n+10) (H:=H) (caps:=[]) (ps:=[.agg p.cells,.agg f.cells]) sh35 (e35 (n+9) p f (by omega));have ww2:=fun H=>zf (G:=G) (n:=n+10) (H:=H) (caps:=[]) (ps:=[.agg p.cells,.agg (zcx f true).cells]) sh35 (e35 (n+9) p (zcx f true) (by omega));rw [zkm] at ww2;rw [hfu];obtain ⟨q1,hq1⟩:∃ q,zad p f false=q:=⟨_,rfl⟩
  obtain ⟨q2,hq2⟩:∃ q,zad p f true=q:=⟨_,rfl⟩
  rw [hq1] at ww1 v2;rw [hq2] at ww2 v3;obtain ⟨b1,f1⟩:=q1;obtain ⟨b2,f2⟩:=q2;obtain ⟨⟨t1,t2,t3,ta,tb,tc,⟨t4,t5⟩,t6⟩,ht2⟩:∃ t,zcx f true=t:=⟨_,rfl⟩
  rw [ht2] at hag ww2;simp only [Problem.cells,Fact.cells,Span.cells,List.map_cons,List.map_nil] at v1 v2 v3 ww1 ww2 hag;clear h hfu ok hq1 hq2 hb h0 ht2 s1 s2 s3
  by_cases r1:E1=2
  ·have hp:zaC 0 E1 E2 E3=(0,2):=by simp [zaC,r1]
   rw [hp];clear hp;(repeat' first|simp [*,za,c16,Problem.cells,Fact.cells,Span.cells]|(apply zb<;>intro _ h<;>try simp [-Nat.le_zero_eq] at h))
  by_cases r2:E2=2
  ·have hp:zaC 0 E1 E2 E3=(0,2):=by simp [zaC,r2]
   rw [hp];clear hp;(repeat' first|simp [*,za,c16,Problem.cells,Fact.cells,Span.cells]|(apply zb<;>intro _ h<;>try simp [-Nat.le_zero_eq] at h))
  by_cases r3:E3=2
  ·have hp:zaC 0 E1 E2 E3=(0,2):=by simp [zaC,r3]
   rw [hp];clear hp;(repeat' first|simp [*,za,c16,Problem.cells,Fact.cells,Span.cells]|(apply zb<;>intro _ h<;>try simp [-Nat.le_zero_eq] at h))
  by_cases u1:E1=0
  case neg =>
   have hp:zaC 0 E1 E2 E3=(0,E1):=by simp [zaC,r1,r2,r3,u1]
   rw [hp];clear hp;(repeat' first|simp [*,za,c16,Problem.cells,Fact.cells,Span.cells]|(apply zb<;>intro _ h<;>try simp [-Nat.le_zero_eq] at h))
  by_cases u3:E3=0
  case neg =>
   have hp:zaC 0 E1 E2 E3=(2,0):=by simp [zaC,r1,r2,r3,u1,u3]
   rw [hp];clear hp;(repeat' first|simp [*,za,c16,Problem.cells,Fact.cells,Span.cells]|(apply zb<;>intro _ h<;>try simp [-Nat.le_zero_eq] at h))
  by_cases u2:E2=0
  case neg =>
   have hp:zaC 0 E1 E2 E3=(1,0):=by simp [zaC,r1,r2,r3,u1,u2,u3]
   rw [hp];clear hp;(repeat' first|simp [*,za,c16,Problem.cells,Fact.cells,Span.cells]|(apply zb<;>intro _ h<;>try simp [-Nat.le_zero_eq] at h))
  have hp:zaC 0 E1 E2 E3=(3,0):=by simp [zaC,u1,u2,u3]
  rw [hp];clear hp;(repeat' first|simp [*,za,c16,Problem.cells,Fact.cells,Span.cells]|(apply zb<;>intro _ h<;>try simp [-Nat.le_zero_eq] at h))
end Go.Proofs.YtmmhnfghklppiaaGreat.Vm
