/- search.fits: the walk through a tree, walked; CheckTree. search.fits and CheckTree: walked. search.refute: the tree of the guilty part, walked. -/
import Derived.Test.YtmmhnfghklppiaaGreatQk26
import Derived.Test.YtmmhnfghklppiaaGreatQk32
import Derived.Test.YtmmhnfghklppiaaGreatQk30
import Derived.Test.YtmmhnfghklppiaaGreatQk27
import Derived.Test.YtmmhnfghklppiaaGreatQk18
namespace Go.Proofs.YtmmhnfghklppiaaGreat.Vm
open Go
set_option linter.unusedSimpArgs false
set_option linter.unusedVariables false
set_option maxHeartbeats 8000000
set_option maxRecDepth 4000
def BoxV (H:Heap) (nb:Nat) (v:AV) (l:List Box):Prop:=(∃ s:Sl Box,s.xs=l/\v=.pure (s.pv Box.cells 4))\/∃ id,v=.row id 4 0 l.length/\id≠nb/\H.get id=.cells true (zq Box.cells l)
def zaI (nb wb:Nat) (p:Problem) (tree:Sl Node):List AV:=[.box nb 0,.pure (.ptr false [tree.pv Node.cells 4] 0),.pure (.ptr false p.cells 0),.box wb 0]
structure WalkOut (nb:Nat) (H H':Heap) (a:Nat):Prop where
 nx:H.nx<=H'.nx
 get:∀ j,j < H.nx->j≠nb->H'.get j=H.get j
 at_:H'.get nb=.cells true [.pure (.int .i64 a)]
theorem WalkOut.trans {nb:Nat} {H H1 H2:Heap} {a b:Nat} (h:WalkOut nb H H1 a) (h':WalkOut nb H1 H2 b):WalkOut nb H H2 b :=
 ⟨Nat.le_trans h.nx h'.nx,fun j h1 h2=>(h'.get j (by have:=h.nx;omega) h2).trans (h.get j h1 h2),h'.at_⟩
theorem zc1:G.shared 94=true:=by decide
theorem zoR {p:Problem} (ok:CheckOk p) {tree:Sl Node} (htl:tree.xs.length < 4000000000000000000) {nb wb m F:Nat} (hnw:nb < wb)
  (ih:∀ (H:Heap) (l:List Box) (a:Nat),muL l < m->SubL l p.boxes.xs->Wf l->a<=tree.xs.length->H.get nb=.cells true [.pure (.int .i64 a)]->H.get wb=.cells true [.func 94 (zaI nb wb p tree)] ->
   ∃ H',Vm.call G (F+6+2) (.fn 94) ([.pure ((Sl.mk false l).pv Box.cells 4)]++zaI nb wb p tree) H=some (.pure (.bool (zbl p.facts.xs tree.xs m l a).1),H')/\WalkOut nb H H' (zbl p.facts.xs tree.xs m l a).2)
  (H:Heap) (v:AV) (l:List Box) (a:Nat) (hm:muL l < m+1) (hs:SubL l p.boxes.xs) (hw:Wf l) (hv:BoxV H nb v l) (ha:a<=tree.xs.length) (hgn:H.get nb=.cells true [.pure (.int .i64 a)]) (hgw:H.get wb=.cells true [.func 94 (zaI nb wb p tree)]) :
  ∃ H',Vm.call G (F+6+2+1) (.fn 94) ([v]++zaI nb wb p tree) H=some (.pure (.bool (zbl p.facts.xs tree.xs (m+1) l a).1),H')/\WalkOut nb H H' (zbl p.facts.xs tree.xs (m+1) l a).2:=by
 have hwn:=zt hgw;have hnn:nb < H.nx:=by omega
 have hnl:nb≠H.nx:=by omega
 have hwl:wb≠H.nx:=by omega
 have hnw2:nb≠wb:=by omega
 have hll:l.length=p.boxes.xs.length:=hs.1;have nb12:=ok.nb;have nf:=ok.nf;have main:∃ v' H',Vm.call G (F+6+2+1) (.fn 94) ([v]++zaI nb wb p tree) H=some (v',H')/\(v'=.pure (.bool (zbl p.facts.xs tree.xs (m+1) l a).1)/\WalkOut nb H H' (zbl p.facts.xs tree.xs (m+1) l a).2):=by
  refine zc4 rfl g94 rfl ?_
  generalize hR:zbl p.facts.xs tree.xs (m+1) l a=R;unfold zbl at hR
  by_cases hat:a < tree.xs.length
  case neg =>
   have e:tree.xs[a]?=none:=List.getElem?_eq_none (by omega);rw [e] at hR;subst hR;have hatI:¬ (a:Int) < tree.xs.length:=by omega
   have hatI2:(tree.xs.length:Int)<=a:=by omega
   have hout:WalkOut nb H H a:=⟨Nat.le_refl _,fun _ _ _=>rfl,hgn⟩
   clear ih;(repeat' first|simp [*,za,c94,zaI]|(apply zb<;>intro _ h<;>try simp [-Nat.le_zero_eq] at h))
  have e:tree.xs[a]?=some tree.xs[a]:=List.getElem?_eq_getElem hat;rw [e] at hR;simp only at hR;have hatI:(a:Int) < tree.xs.length:=by omega
  have hatN:¬ tree.xs.length<=a:=by omega
  have hnl2:H.nx≠nb:=by omega
  have hnw3:wb≠nb:=by omega
  have hwl2:H.nx≠wb:=by omega
  have w1:IntKind.i64.wrap ((a:Int)+1)=(a:Int)+1:=wrap64 (by omega) (by omega);obtain ⟨⟨df,dp,dx,dt⟩,hd⟩:∃ d,d=tree.xs[a]:=⟨_,rfl⟩
  have had:=zax (k:=.i64) (f:=Node.cells) (sz:=4) (s:=tree) hat;rw [<- hd] at hR had;simp only at hR;have w2:IntKind.i64.wrap ((p.facts.xs.length:Int) - 1)=(p.facts.xs.length:Int) - 1:=wrap64 (by omega) (by omega);have w3:IntKind.i64.wrap ((l.length:Int) - 1)=(l.length:Int) - 1:=wrap64 (by omega) (by omega);have hl12:l.length<=12:=by omega
  clear hll nb12;have hin:∀ x y z H,zG (zm G (F+6+2)) H (.pure (.func 52 [])) [.pure (.int .i64 x),.pure (.int .i64 y),.pure (.int .i64 z)]=some (.val (.pure (.bool (inB x y z)))):=fun x y z H=>ze (G:=G) (n:=F+6+2) (H:=H) (caps:=[]) (ps:=[.int .i64 x,.int .i64 y,.int .i64 z]) sh52 (e52 (F+6+1) x y z);have hout:Hide (∀ o o',WalkOut nb H (((H.alloc o).set H.nx o').set nb (.cells true [.pure (.int .i64 ((a:Int)+1))])) (a+1)):=⟨fun o o'=>⟨by simp,fun j h1 h2=>by rw [zh h2,zh (by omega),zf h1],zu (by simp;omega)⟩⟩
  by_cases hdf:df=-1
  case neg =>
   rw [if_pos hdf] at hR
   by_cases c1:0<=df/\df < p.facts.xs.length
   case neg =>
    have hi1:inB df 0 ((p.facts.xs.length:Int) - 1)=false:=by
     unfold inB;rw [Bool.and_eq_false_iff,decide_eq_false_iff_not,decide_eq_false_iff_not];omega
    have hR2:R=(false,a+1):=by
     rw [<- hR]
     by_cases c0:0<=df
     ·have:¬ df < p.facts.xs.length:=fun h=>c1 ⟨c0,h⟩;simp [c0,this]
     ·simp [c0]
    subst hR2;have hi0:=hi1;rw [show (p.facts.xs.length:Int) - 1=(p.facts.xs.length:Int) - 1 from rfl] at hi0;clear ih hR hgw hv hd;(repeat' first|simp [*,za,c94,zaI,Problem.cells,Node.cells]|(apply zb<;>intro _ h<;>try simp [-Nat.le_zero_eq] at h));exact hout.h _ _
   obtain ⟨k,rfl⟩:∃ k:Nat,df=k:=⟨df.toNat,by omega⟩
   have hk:k < p.facts.xs.length:=by omega
   have hi1:inB (k:Int) 0 ((p.facts.xs.length:Int) - 1)=true:=by
    unfold inB;rw [Bool.and_eq_true,decide_eq_true_eq,decide_eq_true_eq];omega
   have hfk:=zax (k:=.i64) (f:=Fact.cells) (sz:=9) (s:=p.facts) hk;rw [Int.toNat_natCast,getElem!_pos p.facts.xs k hk] at hR;have hR2:R=(decide (dp=0)&&(decide (dx=0)&&(decide (dt=0)&&zC p.facts.xs[k] l)),a+1):=by
    rw [<- hR];simp [c1.1,c1.2]
   clear hR;have hok:=zfH ok hs hw (List.getElem_mem hk)
   by_cases c2:dp=0
   case neg =>
    have hR3:R=(false,a+1):=by rw [hR2];simp [c2]
    subst hR3;clear ih hgw hv hd hR2;(repeat' first|simp [*,za,c94,zaI,Problem.cells,Node.cells]|(apply zb<;>intro _ h<;>try simp [-Nat.le_zero_eq] at h));exact hout.h _ _
   by_cases c3:dx=0
   case neg =>
    have hR3:R=(false,a+1):=by rw [hR2];simp [c3]
    subst hR3;clear ih hgw hv hd hR2;(repeat' first|simp [*,za,c94,zaI,Problem.cells,Node.cells]|(apply zb<;>intro _ h<;>try simp [-Nat.le_zero_eq] at h));exact hout.h _ _
   by_cases c4:dt=0
   case neg =>
    have hR3:R=(false,a+1):=by rw [hR2];simp [c4]
    subst hR3;clear ih hgw hv hd hR2;(repeat' first|simp [*,za,c94,zaI,Problem.cells,Node.cells]|(apply zb<;>intro _ h<;>try simp [-Nat.le_zero_eq] at h));exact hout.h _ _
   have hR3:R=(zC p.facts.xs[k] l,a+1):=by rw [hR2];simp [c2,c3,c4]
   subst hR3;rcases hv with ⟨s,rfl,rfl⟩|⟨id,rfl,hne,hg⟩
   ·have hfl:=fun H=>ze (G:=G) (n:=F+6+2) (H:=H) (caps:=[]) (ps:=[.agg p.facts.xs[k].cells,s.pv Box.cells 4]) sh60 (e60 (F+3) p.facts.xs[k] s hok);simp only [Fact.cells,Span.cells,List.map_cons,List.map_nil] at hfl hfk;clear ih hgw hd hR2 hok;generalize zC p.facts.xs[k] s.xs=B at *;(repeat' first|simp [*,za,c94,zaI,Problem.cells,Node.cells,Fact.cells,Span.cells]|(apply zb<;>intro _ h<;>try simp [-Nat.le_zero_eq] at h));exact hout.h _ _
   ·have hfl:∀ H2:Heap,H2.get id=.cells true (zq Box.cells l)->zG (zm G (F+6+2)) H2 (.pure (.func 60 [])) [.pure (.agg p.facts.xs[k].cells),.row id 4 0 l.length]=some (.val (.pure (.bool (zC p.facts.xs[k] l)))):=fun H2 h=>by
     obtain ⟨s0,hs0,hf0⟩:=zer (n:=10) (f:=Box.cells) (sz:=4) (fun _=>rfl) h rfl;subst hs0;exact zcc sh60 (.cons (.pure _) (.cons hf0 .nil)) (e60 (F+3) p.facts.xs[k] s0 hok) rfl
    simp only [Fact.cells,Span.cells] at hfl hfk;have hidn:=zt hg;have hidn2:id≠H.nx:=by omega
    clear ih hgw hd hR2 hok;generalize zC p.facts.xs[k] l=B at *;(repeat' first|simp [*,za,c94,zaI,Problem.cells,Node.cells,Fact.cells,Span.cells]|(apply zb<;>intro _ h<;>try simp [-Nat.le_zero_eq] at h));exact hout.h _ _
  subst hdf;rw [if_neg (by simp)] at hR
  by_cases r0:0<=dp/\dp < l.length
  case neg =>
   have hi1:inB dp 0 ((l.length:Int) - 1)=false:=by
    unfold inB;rw [Bool.and_eq_false_iff,decide_eq_false_iff_not,decide_eq_false_iff_not];omega
   rw [if_neg (fun h=>r0 ⟨h.1,h.2.1⟩)] at hR;subst hR;clear ih hgw hd;rcases hv with ⟨s,rfl,rfl⟩|⟨id,rfl,hne,hg⟩
   ·(repeat' first|simp [*,za,c94,zaI,Problem.cells,Node.cells]|(apply zb<;>intro _ h<;>try simp [-Nat.le_zero_eq] at h));exact hout.h _ _
   ·(repeat' first|simp [*,za,c94,zaI,Problem.cells,Node.cells]|(apply zb<;>intro _ h<;>try simp [-Nat.le_zero_eq] at h));exact hout.h _ _
  have hi1:inB dp 0 ((l.length:Int) - 1)=true:=by
   unfold inB;rw [Bool.and_eq_true,decide_eq_true_eq,decide_eq_true_eq];omega
  by_cases r1:0<=dx/\dx<=1
  case neg =>
   have hi2:inB dx 0 1=false:=by
    unfold inB;rw [Bool.and_eq_false_iff,decide_eq_false_iff_not,decide_eq_false_iff_not];omega
   rw [if_neg (fun h=>r1 h.2.2)] at hR;subst hR;clear ih hgw hd;rcases hv with ⟨s,rfl,rfl⟩|⟨id,rfl,hne,hg⟩
   ·(repeat' first|simp [*,za,c94,zaI,Problem.cells,Node.cells]|(apply zb<;>intro _ h<;>try simp [-Nat.le_zero_eq] at h));exact hout.h _ _
   ·(repeat' first|simp [*,za,c94,zaI,Problem.cells,Node.cells]|(apply zb<;>intro _ h<;>try simp [-Nat.le_zero_eq] at h));exact hout.h _ _
  have hi2:inB dx 0 1=true:=by
   unfold inB;rw [Bool.and_eq_true,decide_eq_true_eq,decide_eq_true_eq];omega
  rw [if_pos ⟨r0.1,r0.2,r1.1,r1.2⟩] at hR;obtain ⟨i,rfl⟩:∃ i:Nat,dp=i:=⟨dp.toNat,by omega⟩
  obtain ⟨x,rfl⟩:∃ x:Nat,dx=x:=⟨dx.toNat,by omega⟩
  have hi:i < l.length:=by omega
  have hx2:x < 2:=by omega
  rw [Int.toNat_natCast,Int.toNat_natCast,getElem!_pos l i hi] at hR;have hbx:=valid_iff.1 (zbP ok hs hw _ (List.getElem_mem hi));have wz:IntKind.i64.wrap 0=0:=by decide
  have wo:IntKind.i64.wrap 1=1:=by decide
  have hi20:inB 0 0 1=true:=by decide
  have hi21:inB 1 0 1=true:=by decide
  by_cases r2:(axS l[i] x).lo<=dt/\dt < (axS l[i] x).hi
  case neg =>
   rw [if_neg r2] at hR;subst hR;clear ih hgw hd;have hx01:x=0\/x=1:=by omega
   rcases hv with ⟨s,rfl,rfl⟩|⟨id,rfl,hne,hg⟩
   ·have ho:=zcC (F+6+1);have hadl:=zax (k:=.i64) (f:=Box.cells) (sz:=4) (s:=s) hi;rcases hx01 with rfl|rfl
    ·have r3:¬ (s.xs[i].x.lo<=dt/\dt < s.xs[i].x.hi):=r2
     by_cases r4:dt < s.xs[i].x.lo
     ·clear r2 r3;(repeat' first|simp [*,za,c94,zaI,Problem.cells,Node.cells,Box.cells,Span.cells]|(apply zb<;>intro _ h<;>try simp [-Nat.le_zero_eq] at h));exact hout.h _ _
     ·have r5:s.xs[i].x.hi<=dt:=by omega
      clear r2 r3;(repeat' first|simp [*,za,c94,zaI,Problem.cells,Node.cells,Box.cells,Span.cells]|(apply zb<;>intro _ h<;>try simp [-Nat.le_zero_eq] at h));exact hout.h _ _
    ·have r3:¬ (s.xs[i].y.lo<=dt/\dt < s.xs[i].y.hi):=r2
     by_cases r4:dt < s.xs[i].y.lo
     ·clear r2 r3;(repeat' first|simp [*,za,c94,zaI,Problem.cells,Node.cells,Box.cells,Span.cells]|(apply zb<;>intro _ h<;>try simp [-Nat.le_zero_eq] at h));exact hout.h _ _
     ·have r5:s.xs[i].y.hi<=dt:=by omega
      clear r2 r3;(repeat' first|simp [*,za,c94,zaI,Problem.cells,Node.cells,Box.cells,Span.cells]|(apply zb<;>intro _ h<;>try simp [-Nat.le_zero_eq] at h));exact hout.h _ _
   ·have ho:=zdE (F+6+1);have hidn:=zt hg;have hidn2:id≠H.nx:=by omega
    have l0:=zz (own:=true) (f:=Box.cells) (sz:=4) (l:=l) (i:=i) (size:=1) (off:=0) (fun _=>rfl) hi (by decide);have l1:=zz (own:=true) (f:=Box.cells) (sz:=4) (l:=l) (i:=i) (size:=1) (off:=1) (fun _=>rfl) hi (by decide);have l2:=zz (own:=true) (f:=Box.cells) (sz:=4) (l:=l) (i:=i) (size:=1) (off:=2) (fun _=>rfl) hi (by decide);have l3:=zz (own:=true) (f:=Box.cells) (sz:=4) (l:=l) (i:=i) (size:=1) (off:=3) (fun _=>rfl) hi (by decide);rw [Nat.add_zero] at l0;have e3:i*4+2+1=i*4+3:=rfl;rcases hx01 with rfl|rfl
    ·have r3:¬ (l[i].x.lo<=dt/\dt < l[i].x.hi):=r2
     by_cases r4:dt < l[i].x.lo
     ·clear r2 r3;(repeat' first|simp [*,za,c94,zaI,Problem.cells,Node.cells,Box.cells,Span.cells]|(apply zb<;>intro _ h<;>try simp [-Nat.le_zero_eq] at h));exact hout.h _ _
     ·have r5:l[i].x.hi<=dt:=by omega
      clear r2 r3;(repeat' first|simp [*,za,c94,zaI,Problem.cells,Node.cells,Box.cells,Span.cells]|(apply zb<;>intro _ h<;>try simp [-Nat.le_zero_eq] at h));exact hout.h _ _
    ·have r3:¬ (l[i].y.lo<=dt/\dt < l[i].y.hi):=r2
     by_cases r4:dt < l[i].y.lo
     ·clear r2 r3;(repeat' first|simp [*,za,c94,zaI,Problem.cells,Node.cells,Box.cells,Span.cells]|(apply zb<;>intro _ h<;>try simp [-Nat.le_zero_eq] at h));exact hout.h _ _
     ·have r5:l[i].y.hi<=dt:=by omega
      clear r2 r3;(repeat' first|simp [*,za,c94,zaI,Problem.cells,Node.cells,Box.cells,Span.cells]|(apply zb<;>intro _ h<;>try simp [-Nat.le_zero_eq] at h));exact hout.h _ _
  rw [if_pos r2] at hR;have hp:Proper l i x dt:=⟨hi,hx2,r2.1,r2.2⟩
  have m1:=zkT hp;have m2:=zhj hp;obtain ⟨z1,z2,z3,z4⟩:=zkn (hw _ (List.getElem_mem hi)) r2.1 r2.2;have k1:=(SubL.refl l).set (i:=i) z3;have k2:=(SubL.refl l).set (i:=i) z4;rw [List.set_getElem_self,<- zcH hi] at k1;rw [List.set_getElem_self,<- zbS hi] at k2;have j1:=hw.set (i:=i) z1;have j2:=hw.set (i:=i) z2;rw [<- zcH hi] at j1;rw [<- zbS hi] at j2;have i1:=Hide.mk fun (H:Heap)=>ih H (lowL l i x dt) (a+1) (by omega) (k1.trans hs) j1 (by omega);have i2:=Hide.mk fun (H:Heap) (a':Nat)=>ih H (za2 l i x dt) a' (by omega) (k2.trans hs) j2;have hle:=zho p.facts.xs tree.xs m (lowL l i x dt) (a+1) (by omega);have hdt:okN dt:=by
   have h1:=r2.1;have h2:=r2.2;clear hR i1 i2 hle;unfold okN;unfold axS at h1 h2
   by_cases e:x=0
   ·simp only [e,if_true] at h1 h2;omega
   ·simp only [e,if_false] at h1 h2;omega
  have hci:(i:Int)=i:=rfl;obtain ⟨⟨b1,a1⟩,hr1⟩:∃ r,zbl p.facts.xs tree.xs m (lowL l i x dt) (a+1)=r:=⟨_,rfl⟩
  rw [hr1] at hR i1 hle;simp only at hR i1 hle;have hle2:=hle.2;clear hle hr1 ih hp m1 m2 z1 z2 z3 z4 k1 k2 j1 j2;have hgwH:=hgw;rcases hv with ⟨s,rfl,rfl⟩|⟨id,rfl,hne,hg⟩
  ·have ho:=zcC (F+6+1);have hadl:=zax (k:=.i64) (f:=Box.cells) (sz:=4) (s:=s) hi;have hc1:∀ H,zG (zm G (F+6+2)) H (.pure (.func 78 [])) [.pure (s.pv Box.cells 4),.pure (.int .i64 (i:Nat)),.pure (.int .i64 (x:Nat)),.pure (.int .i64 dt),.pure (.bool false)]=some (.val (.pure ((Sl.mk false (lowL s.xs i x dt)).pv Box.cells 4))):=fun H=>ze (G:=G) (n:=F+6+2) (H:=H) (caps:=[]) (ps:=[s.pv Box.cells 4,.int .i64 i,.int .i64 x,.int .i64 dt,.bool false]) sh78 (e78 (F+6) s i x dt false hi hx2 (by omega) hdt);have hc2:∀ H,zG (zm G (F+6+2)) H (.pure (.func 78 [])) [.pure (s.pv Box.cells 4),.pure (.int .i64 (i:Nat)),.pure (.int .i64 (x:Nat)),.pure (.int .i64 dt),.pure (.bool true)]=some (.val (.pure ((Sl.mk false (za2 s.xs i x dt)).pv Box.cells 4))):=fun H=>ze (G:=G) (n:=F+6+2) (H:=H) (caps:=[]) (ps:=[s.pv Box.cells 4,.int .i64 i,.int .i64 x,.int .i64 dt,.bool true]) sh78 (e78 (F+6) s i x dt true hi hx2 (by omega) hdt);generalize lowL s.xs i x dt=L1 at *;generalize za2 s.xs i x dt=L2 at *;have hx01:x=0\/x=1:=by omega
   clear hx2 r1;rcases hx01 with rfl|rfl
   ·have r3:s.xs[i].x.lo<=dt/\dt < s.xs[i].x.hi:=r2;have r4:¬ dt < s.xs[i].x.lo:=by omega
    have r5:¬ s.xs[i].x.hi<=dt:=by omega
    push_cast at hc1 hc2
    clear r2 r3;(repeat' first|simp [*,za,c94,zaI,Problem.cells,Node.cells,Box.cells,Span.cells]|(apply zb<;>intro _ h<;>try simp [-Nat.le_zero_eq] at h))
    refine zaX (n:=F+6+1) zc1 (zcu (i1.h _ ?_ ?_) ?_)
    ·rw [zu (by simp;omega)];push_cast;rfl
    ·simp [hgw,hnw3,hwl,hwn]
    ·intro H1 o1;have g1:=o1.at_;have gt:=o1.get H.nx (by simp) hnl2;have gw:=o1.get wb (by simp;omega) hnw3;have n1:=o1.nx;simp at n1;have f1:=(hout.h _ _).trans o1;have gt1:H1.get H.nx=.cells true [.pure (.int .i64 (-1)),.pure (.int .i64 i),.pure (.int .i64 0),.pure (.int .i64 dt)]:=by
      rw [gt,zh (by omega),zu (by simp)]
     have gw1:H1.get wb=.cells true [.func 94 (zaI nb wb p tree)]:=by
      rw [gw,zh (by omega),zh (by omega),zf hwn];exact hgwH
     have hn1:H.nx < H1.nx:=by omega
     have hnb1:nb < H1.nx:=by omega
     clear gt gw o1 hgw hgwH hgn hout i1
     cases b1 with
     | false =>
      rw [if_neg (by simp)] at hR;subst hR;clear i2;(repeat' first|simp [*,za]|(apply zb<;>intro _ h<;>try simp [-Nat.le_zero_eq] at h))
     | true =>
      rw [if_pos rfl] at hR;obtain ⟨R1,R2⟩:=R;have i3:=Hide.mk (i2.h H1 a1 hle2 g1 gw1);rw [hR] at i3;clear i2 hR;(repeat' first|simp [*,za]|(apply zb<;>intro _ h<;>try simp [-Nat.le_zero_eq] at h))
      refine zaX (n:=F+6+1) zc1 (zcu i3.h ?_)
      intro H2 o2;have f2:=f1.trans o2;clear o2 f1 i3;(repeat' first|simp [*,za]|(apply zb<;>intro _ h<;>try simp [-Nat.le_zero_eq] at h))
   ·have r3:s.xs[i].y.lo<=dt/\dt < s.xs[i].y.hi:=r2;have r4:¬ dt < s.xs[i].y.lo:=by omega
    have r5:¬ s.xs[i].y.hi<=dt:=by omega
    push_cast at hc1 hc2
    clear r2 r3;(repeat' first|simp [*,za,c94,zaI,Problem.cells,Node.cells,Box.cells,Span.cells]|(apply zb<;>intro _ h<;>try simp [-Nat.le_zero_eq] at h))
    refine zaX (n:=F+6+1) zc1 (zcu (i1.h _ ?_ ?_) ?_)
    ·rw [zu (by simp;omega)];push_cast;rfl
    ·simp [hgw,hnw3,hwl,hwn]
    ·intro H1 o1;have g1:=o1.at_;have gt:=o1.get H.nx (by simp) hnl2;have gw:=o1.get wb (by simp;omega) hnw3;have n1:=o1.nx;simp at n1;have f1:=(hout.h _ _).trans o1;have gt1:H1.get H.nx=.cells true [.pure (.int .i64 (-1)),.pure (.int .i64 i),.pure (.int .i64 1),.pure (.int .i64 dt)]:=by
      rw [gt,zh (by omega),zu (by simp)]
     have gw1:H1.get wb=.cells true [.func 94 (zaI nb wb p tree)]:=by
      rw [gw,zh (by omega),zh (by omega),zf hwn];exact hgwH
     have hn1:H.nx < H1.nx:=by omega
     have hnb1:nb < H1.nx:=by omega
     clear gt gw o1 hgw hgwH hgn hout i1
     cases b1 with
     | false =>
      rw [if_neg (by simp)] at hR;subst hR;clear i2;(repeat' first|simp [*,za]|(apply zb<;>intro _ h<;>try simp [-Nat.le_zero_eq] at h))
     | true =>
      rw [if_pos rfl] at hR;obtain ⟨R1,R2⟩:=R;have i3:=Hide.mk (i2.h H1 a1 hle2 g1 gw1);rw [hR] at i3;clear i2 hR;(repeat' first|simp [*,za]|(apply zb<;>intro _ h<;>try simp [-Nat.le_zero_eq] at h))
      refine zaX (n:=F+6+1) zc1 (zcu i3.h ?_)
      intro H2 o2;have f2:=f1.trans o2;clear o2 f1 i3;(repeat' first|simp [*,za]|(apply zb<;>intro _ h<;>try simp [-Nat.le_zero_eq] at h))
  ·have ho:=zdE (F+6+1);have hidn:=zt hg;have hidn2:id≠H.nx:=by omega
   have hc1:∀ H2:Heap,H2.get id=.cells true (zq Box.cells l)->zG (zm G (F+6+2)) H2 (.pure (.func 78 [])) [.row id 4 0 l.length,.pure (.int .i64 (i:Nat)),.pure (.int .i64 (x:Nat)),.pure (.int .i64 dt),.pure (.bool false)]=some (.val (.pure ((Sl.mk false (lowL l i x dt)).pv Box.cells 4))):=fun H2 h=>by
    obtain ⟨s0,hs0,hf0⟩:=zer (n:=10) (f:=Box.cells) (sz:=4) (fun _=>rfl) h rfl;subst hs0;exact zcc sh78 (.cons hf0 (.cons (.pure _) (.cons (.pure _) (.cons (.pure _) (.cons (.pure _) .nil))))) (e78 (F+6) s0 i x dt false hi hx2 (by omega) hdt) (zdi _)
   have hc2:∀ H2:Heap,H2.get id=.cells true (zq Box.cells l)->zG (zm G (F+6+2)) H2 (.pure (.func 78 [])) [.row id 4 0 l.length,.pure (.int .i64 (i:Nat)),.pure (.int .i64 (x:Nat)),.pure (.int .i64 dt),.pure (.bool true)]=some (.val (.pure ((Sl.mk false (za2 l i x dt)).pv Box.cells 4))):=fun H2 h=>by
    obtain ⟨s0,hs0,hf0⟩:=zer (n:=10) (f:=Box.cells) (sz:=4) (fun _=>rfl) h rfl;subst hs0;exact zcc sh78 (.cons hf0 (.cons (.pure _) (.cons (.pure _) (.cons (.pure _) (.cons (.pure _) .nil))))) (e78 (F+6) s0 i x dt true hi hx2 (by omega) hdt) (zdi _)
   have l0:=zz (own:=true) (f:=Box.cells) (sz:=4) (l:=l) (i:=i) (size:=1) (off:=0) (fun _=>rfl) hi (by decide);have l1:=zz (own:=true) (f:=Box.cells) (sz:=4) (l:=l) (i:=i) (size:=1) (off:=1) (fun _=>rfl) hi (by decide);have l2:=zz (own:=true) (f:=Box.cells) (sz:=4) (l:=l) (i:=i) (size:=1) (off:=2) (fun _=>rfl) hi (by decide);have l3:=zz (own:=true) (f:=Box.cells) (sz:=4) (l:=l) (i:=i) (size:=1) (off:=3) (fun _=>rfl) hi (by decide);rw [Nat.add_zero] at l0;have e3:i*4+2+1=i*4+3:=rfl;generalize lowL l i x dt=L1 at *;generalize za2 l i x dt=L2 at *;have hx01:x=0\/x=1:=by omega
   clear hx2 r1;rcases hx01 with rfl|rfl
   ·have r3:l[i].x.lo<=dt/\dt < l[i].x.hi:=r2;have r4:¬ dt < l[i].x.lo:=by omega
    have r5:¬ l[i].x.hi<=dt:=by omega
    push_cast at hc1 hc2
    clear r2 r3;(repeat' first|simp [*,za,c94,zaI,Problem.cells,Node.cells,Box.cells,Span.cells]|(apply zb<;>intro _ h<;>try simp [-Nat.le_zero_eq] at h))
    refine zaX (n:=F+6+1) zc1 (zcu (i1.h _ ?_ ?_) ?_)
    ·rw [zu (by simp;omega)];push_cast;rfl
    ·simp [hgw,hnw3,hwl,hwn]
    ·intro H1 o1;have g1:=o1.at_;have gt:=o1.get H.nx (by simp) hnl2;have gw:=o1.get wb (by simp;omega) hnw3;have n1:=o1.nx;simp at n1;have f1:=(hout.h _ _).trans o1;have gt1:H1.get H.nx=.cells true [.pure (.int .i64 (-1)),.pure (.int .i64 i),.pure (.int .i64 0),.pure (.int .i64 dt)]:=by
      rw [gt,zh (by omega),zu (by simp)]
     have gw1:H1.get wb=.cells true [.func 94 (zaI nb wb p tree)]:=by
      rw [gw,zh (by omega),zh (by omega),zf hwn];exact hgwH
     have gi1:H1.get id=.cells true (zq Box.cells l):=by
      rw [o1.get id (by simp;omega) hne,zh (by omega),zh (by omega),zf hidn];exact hg
     have hidn1:id < H1.nx:=by omega
     have hn1:H.nx < H1.nx:=by omega
     have hnb1:nb < H1.nx:=by omega
     clear gt gw o1 hgw hgwH hgn hout i1 hg
     cases b1 with
     | false =>
      rw [if_neg (by simp)] at hR;subst hR;clear i2;(repeat' first|simp [*,za]|(apply zb<;>intro _ h<;>try simp [-Nat.le_zero_eq] at h))
     | true =>
      rw [if_pos rfl] at hR;obtain ⟨R1,R2⟩:=R;have i3:=Hide.mk (i2.h H1 a1 hle2 g1 gw1);rw [hR] at i3;clear i2 hR;(repeat' first|simp [*,za]|(apply zb<;>intro _ h<;>try simp [-Nat.le_zero_eq] at h))
      refine zaX (n:=F+6+1) zc1 (zcu i3.h ?_)
      intro H2 o2;have f2:=f1.trans o2;clear o2 f1 i3;(repeat' first|simp [*,za]|(apply zb<;>intro _ h<;>try simp [-Nat.le_zero_eq] at h))
   ·have r3:l[i].y.lo<=dt/\dt < l[i].y.hi:=r2;have r4:¬ dt < l[i].y.lo:=by omega
    have r5:¬ l[i].y.hi<=dt:=by omega
    push_cast at hc1 hc2
    clear r2 r3;(repeat' first|simp [*,za,c94,zaI,Problem.cells,Node.cells,Box.cells,Span.cells]|(apply zb<;>intro _ h<;>try simp [-Nat.le_zero_eq] at h))
    refine zaX (n:=F+6+1) zc1 (zcu (i1.h _ ?_ ?_) ?_)
    ·rw [zu (by simp;omega)];push_cast;rfl
    ·simp [hgw,hnw3,hwl,hwn]
    ·intro H1 o1;have g1:=o1.at_;have gt:=o1.get H.nx (by simp) hnl2;have gw:=o1.get wb (by simp;omega) hnw3;have n1:=o1.nx;simp at n1;have f1:=(hout.h _ _).trans o1;have gt1:H1.get H.nx=.cells true [.pure (.int .i64 (-1)),.pure (.int .i64 i),.pure (.int .i64 1),.pure (.int .i64 dt)]:=by
      rw [gt,zh (by omega),zu (by simp)]
     have gw1:H1.get wb=.cells true [.func 94 (zaI nb wb p tree)]:=by
      rw [gw,zh (by omega),zh (by omega),zf hwn];exact hgwH
     have gi1:H1.get id=.cells true (zq Box.cells l):=by
      rw [o1.get id (by simp;omega) hne,zh (by omega),zh (by omega),zf hidn];exact hg
     have hidn1:id < H1.nx:=by omega
     have hn1:H.nx < H1.nx:=by omega
     have hnb1:nb < H1.nx:=by omega
     clear gt gw o1 hgw hgwH hgn hout i1 hg
     cases b1 with
     | false =>
      rw [if_neg (by simp)] at hR;subst hR;clear i2;(repeat' first|simp [*,za]|(apply zb<;>intro _ h<;>try simp [-Nat.le_zero_eq] at h))
     | true =>
      rw [if_pos rfl] at hR;obtain ⟨R1,R2⟩:=R;have i3:=Hide.mk (i2.h H1 a1 hle2 g1 gw1);rw [hR] at i3;clear i2 hR;(repeat' first|simp [*,za]|(apply zb<;>intro _ h<;>try simp [-Nat.le_zero_eq] at h))
      refine zaX (n:=F+6+1) zc1 (zcu i3.h ?_)
      intro H2 o2;have f2:=f1.trans o2;clear o2 f1 i3;(repeat' first|simp [*,za]|(apply zb<;>intro _ h<;>try simp [-Nat.le_zero_eq] at h))
 obtain ⟨v',H',h1,rfl,h2⟩:=main;exact ⟨H',h1,h2⟩
theorem zi9 {p:Problem} (ok:CheckOk p) {tree:Sl Node} (htl:tree.xs.length < 4000000000000000000) {nb wb:Nat} (hnw:nb < wb):∀ (m n:Nat) (H:Heap) (v:AV) (l:List Box) (a:Nat),muL l < m->SubL l p.boxes.xs->Wf l->BoxV H nb v l->a<=tree.xs.length->H.get nb=.cells true [.pure (.int .i64 a)]->H.get wb=.cells true [.func 94 (zaI nb wb p tree)] ->
  ∃ H',Vm.call G (n+m+8) (.fn 94) ([v]++zaI nb wb p tree) H=some (.pure (.bool (zbl p.facts.xs tree.xs m l a).1),H')/\WalkOut nb H H' (zbl p.facts.xs tree.xs m l a).2
 | 0,n,H,v,l,a,hm,_,_,_,_,_,_=>absurd hm (Nat.not_lt_zero _)
 | m+1,n,H,v,l,a,hm,hs,hw,hv,ha,hn,hg=>by
  have:=zoR ok htl (m:=m) (F:=n+m) hnw (fun H l a hm hs hw ha hn hg=>zi9 ok htl hnw m n H _ l a hm hs hw (.inl ⟨_,rfl,rfl⟩) ha hn hg) H v l a hm hs hw hv ha hn hg;exact this
theorem zjX {α:Type} {f:α->α->Bool}:∀ {l:List α},(∀ a∈l,f a a=true)->all2 f l l=true
 | [],_=>rfl
 | a::l,h=>by
  simp only [all2,Bool.and_eq_true];exact ⟨h a List.mem_cons_self,zjX fun b hb=>h b (List.mem_cons_of_mem _ hb)⟩
theorem zkI {α:Type} {f:α->List PV} {sz n:Nat} (hf:∀ a,all2 (PV.sameN n) (f a) (f a)=true) (s:Sl α):PV.sameN (n+1) (s.pv f sz) (s.pv f sz)=true:=by
 cases s with
 | nil=>rfl
 | mk h l =>
  simp only [Sl.pv,PV.sameN,beq_self_eq_true,Bool.true_and]
  refine zjX fun e he=>?_
  obtain ⟨a,_,rfl⟩:=List.mem_map.1 he;exact hf a
theorem zqX (n:Nat) (b:Box):all2 (PV.sameN (n+1)) b.cells b.cells=true:=by simp [Box.cells,Span.cells,all2,PV.sameN,PV.plainEq]
theorem zpb (n:Nat) (b:Fact):all2 (PV.sameN (n+1)) b.cells b.cells=true:=by simp [Fact.cells,Span.cells,all2,PV.sameN,PV.plainEq]
theorem zp1 (n:Nat) (b:Node):all2 (PV.sameN (n+1)) b.cells b.cells=true:=by simp [Node.cells,all2,PV.sameN,PV.plainEq]
theorem zqb {n:Nat} {h:Bool} {cs:List PV} {o:Nat} (hc:all2 (PV.sameN n) cs cs=true):PV.sameN (n+1) (.ptr h cs o) (.ptr h cs o)=true:=by simp [PV.sameN,hc]
theorem zod {h:Bool} {cs:List PV} {o:Nat} (hc:all2 (PV.sameN 5) cs cs=true):AV.sameCap (.pure (.ptr h cs o)) (.pure (.ptr h cs o))=true:=zqb (n:=5) hc
theorem ze9 (i o:Nat):AV.sameCap (.box i o) (.box i o)=true:=by simp [AV.sameCap]
theorem zjQ {f:Nat} {cs:List AV} (h:all2 AV.sameCap cs cs=true):zaW [.func f cs] [.func f cs]=true:=by simp [zaW,h]
theorem zjN (p:Problem):AV.sameCap (.pure (.ptr false p.cells 0)) (.pure (.ptr false p.cells 0))=true:=by
 have h2:=zkI (n:=4) (sz:=4) (zqX 3) p.boxes;have h3:=zkI (n:=4) (sz:=9) (zpb 3) p.facts
 refine zod ?_
 simp only [Problem.cells,all2];rw [h2,h3];rfl
theorem zn8 (f nb wb:Nat) (p:Problem) (tree:Sl Node):zaW [.func f (zaI nb wb p tree)] [.func f (zaI nb wb p tree)]=true:=by
 have h1:=zkI (n:=4) (sz:=4) (zp1 3) tree
 refine zjQ ?_
 simp only [zaI,all2];rw [ze9,ze9,zjN,zod (by simp only [all2];rw [h1];rfl)];rfl
@[simp] theorem zuo (f i o:Nat) (l:List AV):zf8 f (.box i o::l)=.func f (.box i o::l):=rfl
theorem zgQ {n:Nat} {H:Heap} {s:Sl Box} {k:AV->Heap->Prop} (hl:s.xs.length < 1000)
  (hk:∀ v' H',OwnV Box.cells 4 H' v' s.xs->isNil .slice v'=some s.isNil->H.nx<=H'.nx->(∀ id,id < H.nx->H'.get id=H.get id)->(∀ id,Names v' id->H.nx<=id)->k v' H') :
  ∃ v H',Vm.call G (n+1) (.fn 79) [.pure (s.pv Box.cells 4)] H=some (v,H')/\k v H':=by
 refine zfD (f:=Box.cells) (sz:=4) (bytes:=32) (l:=s.xs) (b:=s.isNil) (fun _=>rfl) g79 ?_ ?_ (fun h=>?_) (fun _=>rfl) (by decide) (fun _=>rfl) ?_ hk
 ·exact zcl (f:=Box.cells) (sz:=4) (fun _=>rfl) _
 ·simp
 ·cases s with
  | nil=>rfl
  | mk h l=>simp [Sl.isNil] at h
 ·simp only [zn];omega
theorem zp7 {H:Heap} {v:AV} {l:List Box} {nb:Nat} (h:OwnV Box.cells 4 H v l) (hn:∀ id,Names v id->id≠nb):BoxV H nb v l:=by
 rcases h with ⟨rfl,rfl⟩|⟨id,rfl,hg⟩
 ·exact .inl ⟨.nil,rfl,rfl⟩
 ·exact .inr ⟨id,rfl,hn id ⟨_,_,_,rfl⟩,hg⟩
theorem sh46:G.shared 46=false:=by decide
theorem e46 (n:Nat) (p:Problem) (ok:CheckOk p) (tree:Sl Node) (htl:tree.xs.length < 4000000000000000000) (hmu:muL p.boxes.xs<=600):zH G (n+640) 46 [.agg p.cells,tree.pv Node.cells 4]=some (.bool (zcL p.facts.xs p.boxes.xs tree.xs)):=by
 refine zy (zw _) rfl g46 rfl ?_
 have nb:=ok.nb;have hwl:=zbx ok;generalize hR:zcL p.facts.xs p.boxes.xs tree.xs=R;have hH:=Hide.mk hR;have hl:p.boxes.xs.length < 1000:=by omega
 clear hR;obtain ⟨n',hn'⟩:∃ n',n+639=n'+(muL p.boxes.xs+1)+8:=⟨n+639 - (muL p.boxes.xs+1) - 8,by omega⟩
 have hwc:=Hide.mk (fun (H:Heap) (v:AV) (nb wb:Nat) (h:nb < wb) (h1:BoxV H nb v p.boxes.xs)=>zi9 ok htl h (muL p.boxes.xs+1) n' H v p.boxes.xs 0 (Nat.lt_succ_self _) (SubL.refl _) hwl h1 (Nat.zero_le _));rw [<- hn'] at hwc;clear hn';(repeat' first|simp [*,za,c46,Problem.cells]|(apply zb<;>intro _ h<;>try simp [-Nat.le_zero_eq] at h))
 refine zgM (zfo (n:=n+638) zgJ (zgQ hl ?_))
 intro B H1 hB hBn hnx hsame hnew;have hsm:=hsame 1 (by simp);have k0:H1.get 0=.cells true [.pure (.int .i64 0)]:=by rw [hsame 0 (by simp)];simp
 have k1:H1.get 1=.cells true [.func 94 (zaI 0 1 p tree)]:=by rw [hsm];simp [zaI,Problem.cells]
 refine ⟨?_,?_⟩
 ·unfold keeps;simp only;rw [hsm,zu (by simp)];have:=zn8 94 0 1 p tree;simp only [zaI,Problem.cells] at this;simp [this]
 have hbv:BoxV H1 0 B p.boxes.xs:=zp7 hB fun id h=>by have:=hnew id h;simp at this;omega
 have hwc2:=hwc.h H1 B 0 1 (by decide) hbv k0 k1;have hfit:zcL p.facts.xs p.boxes.xs tree.xs=R:=hH.h;unfold zcL at hfit;obtain ⟨⟨b1,a1⟩,hr1⟩:∃ r,zbl p.facts.xs tree.xs (muL p.boxes.xs+1) p.boxes.xs 0=r:=⟨_,rfl⟩
 rw [hr1] at hwc2 hfit;simp only at hwc2 hfit;have hn1:1 < H1.nx:=by simp at hnx;omega
 have hone:=hB.one;have ho1:=hone.1;have ho2:=hone.2;have hwcH:=Hide.mk hwc2;clear hwc hwc2 hB hBn hnx hsame hnew hsm hbv hr1 hH;(repeat' first|simp [*,za]|(apply zb<;>intro _ h<;>try simp [-Nat.le_zero_eq] at h))
 refine zaX (n:=n+638) zc1 (zcu hwcH.h ?_)
 intro H2 o2;have g2:=o2.at_;have n2:=o2.nx;have hn2:0 < H2.nx:=by omega
 clear o2 hwcH k0 k1
 cases b1 with
 | false =>
  have hR:R=false:=by rw [<- hfit];rfl
  subst hR;(repeat' first|simp [*,za]|(apply zb<;>intro _ h<;>try simp [-Nat.le_zero_eq] at h))
 | true =>
  have hR:R=decide (a1=tree.xs.length):=by rw [<- hfit];rfl
  have hdec:decide ((a1:Int)=tree.xs.length)=decide (a1=tree.xs.length):=by rw [decide_eq_decide];omega
  subst hR;(repeat' first|simp [*,za]|(apply zb<;>intro _ h<;>try simp [-Nat.le_zero_eq] at h))
theorem zlL {α:Type} {f:α->List PV} {sz bytes:Nat} {H:Heap} {v b:AV} {l:List α} {k:AV->Heap->Prop} {u} (hv:OwnV f sz H v l) (hf:∀ a,(f a).length=sz) (h0:0 < sz) (hone:∀ a,(f a).all PV.one=true)
  (hm:(l.length+1)*sz<=zn/\(l.length+1)*bytes<=zn)
  (hk:appG f (zN H sz b) (fun a=>∀ v' H',GrowV f sz H' v' (l++[a])->After v H v' H'->k v' H') .mk):wpE 0 (zk H sz bytes v b) H k u:=by
 obtain ⟨a,hb,hk⟩:=hk;have ho:=zbU _ (hone a);rcases hv with ⟨rfl,rfl⟩|⟨i,rfl,hg⟩
 ·exact zaU GrowV.nil hf h0 hone hm ⟨a,hb,hk⟩
 ·have hlen:=zaA hf l;have hnot:¬ (0*sz+(l.length+1)*sz<=(zq f l).length):=by rw [hlen,Nat.add_mul];omega
  have h5:zk H sz bytes (.row i sz 0 l.length) b=some (.upd (.row H.nx sz 0 (l.length+1)) ((H.set i .dead).alloc (.cells true (zq f l++(f a).map .pure)))):=by
   simp only [zk,hb,ho,hg];simp only [Bool.not_true,Bool.false_eq_true,if_false,if_true];rw [if_neg hnot];simp only [true_and];rw [if_pos ⟨hlen.symm,hm⟩]
  rw [h5,zex]
  refine hk _ _ ⟨.inr ⟨H.nx,by simp,?_⟩,fun h=>by simp at h⟩ ⟨Nat.le_succ _,fun id hl hn=>?_,fun id ⟨_,_,_,h⟩=>?_⟩
  ·have:(H.set i .dead).nx=H.nx:=rfl;rw [<- this,zaz,zaJ,zd5]
  ·rw [zf (by exact hl),zh];intro e;subst e;exact hn ⟨_,_,_,rfl⟩
  ·simp at h;omega
def zeK (fs:List Fact) (g:List Nat) (a:Nat):List Int:=(zam a).filter fun k=>g.contains (fs[k.toNat]!).a.toNat
theorem zpO (a:Nat):zam (a+1)=zam a++[(a:Int)]:=by
 unfold zam;rw [List.range_succ,List.map_append];rfl
theorem zmH {fs:List Fact} {g:List Nat} {a:Nat} (h:a < fs.length):zeK fs g (a+1)=if g.contains fs[a].a.toNat then zeK fs g a++[(a:Int)] else zeK fs g a:=by
 unfold zeK;rw [zpO,List.filter_append];simp only [List.filter_cons,List.filter_nil,Int.toNat_natCast];have e:fs[a]! = fs[a]:=getElem!_pos fs a h;simp only [e]
 split<;>simp
theorem zpJ (fs:List Fact) (g:List Nat) (a:Nat):(zeK fs g a).length<=a:=by
 have:=List.length_filter_le (fun k=>g.contains (fs[k.toNat]!).a.toNat) (zam a);rwa [zaR] at this
theorem GuiltIn.grow {p:Problem} {gs:List (List Nat)} {k:Nat} (h:GuiltIn p gs k):GrowP p gs[k]! := by
 have hm:gs[k]! ∈ gs:=by rw [getElem!_pos gs k h.lt];exact List.getElem_mem h.lt
 have hpos:=h.pos hm;obtain ⟨m,hc,hgs⟩:=h.cls;have hpo:=zeF m p.boxes.xs.length;rw [<- hgs] at hpo;exact ⟨h.ok,fun e=>by rw [e] at hpos;simp at hpos,(hpo.2 _ hm).2,by have:=(hpo.2 _ hm).1;have:=h.ok.nb;omega⟩
theorem zrq {H:Heap} {v:AV} {l:List Box} {ob bs:Nat} (h:OwnV Box.cells 4 H v l) (hn:∀ id,Names v id->id≠ob/\id < bs):BoxG H ob bs v l:=by
 rcases h with ⟨rfl,rfl⟩|⟨id,rfl,hg⟩
 ·exact .inl ⟨.nil,rfl,rfl⟩
 ·have:=hn id ⟨_,_,_,rfl⟩;exact .inr ⟨id,rfl,this.1,this.2,hg⟩
def zf6 (p:Problem) (gs:List (List Nat)) (k:Nat):List Node:=zbB p gs[k]! (muL p.boxes.xs+1) p.boxes.xs
theorem zns (f mb ob pb gb:Nat) (p:Problem):zaW [.func f (zcN p mb ob pb gb)] [.func f (zcN p mb ob pb gb)]=true:=by
 refine zjQ ?_
 simp only [zcN,all2];rw [ze9,ze9,ze9,ze9,zjN];rfl
theorem sh39:G.shared 39=false:=by decide
theorem e39 (n:Nat) (p:Problem) (gs:List (List Nat)) (k:Nat) (h:GuiltIn p gs k) (hmu:muL p.boxes.xs<=600) (hsz:(zf6 p gs k).length<=30000000):zH G (n+640) 39 [.agg p.cells]=some ((Sl.of (zf6 p gs k)).pv Node.cells 4):=by
 refine zy (zw _) rfl g39 rfl ?_
 unfold zf6 at hsz ⊢;have hgp:=h.grow;have ok:=h.ok;have nb:=ok.nb;have nf:=ok.nf;have hwf:=zbx ok;have hgu:=fun H=>ze (G:=G) (n:=n+639) (H:=H) (caps:=[]) (ps:=[.agg p.cells]) sh72 (e72 (n+587) p gs k h);have hfa:Hide (∀ f∈p.facts.xs,0<=f.a):=⟨fun f hf=>by have:=(zaD f _).1 (ok.fact f hf);omega⟩
 obtain ⟨g,hg⟩:∃ g,gs[k]! = g:=⟨_,rfl⟩
 rw [hg] at hgp hgu hsz ⊢;obtain ⟨T,hT⟩:∃ T,zbB p g (muL p.boxes.xs+1) p.boxes.xs=T:=⟨_,rfl⟩
 rw [hT] at hsz ⊢;obtain ⟨n',hn'⟩:∃ n',n+639=n'+(muL p.boxes.xs+1)+10:=⟨n+639 - (muL p.boxes.xs+1) - 10,by omega⟩
 have hgc:=Hide.mk fun (mb ob pb gb bs:Nat) (hb:GwB mb ob pb gb bs) (M:AV) (H:Heap) (v:AV) (hv:BoxG H ob bs v p.boxes.xs) (hi:GwIn p g mb ob pb gb bs M H (.pure .nils) [])=>zjc hgp hb (M:=M) (muL p.boxes.xs+1) n' H v p.boxes.xs (.pure .nils) [] (Nat.lt_succ_self _) (SubL.refl _) hwf hv (by rw [hT];simpa using hsz) hi;rw [<- hn',hT] at hgc;have hgl12:=hgp.few;clear h hn' hT hg hgp;obtain ⟨bs,fs⟩:=p;have hbl:bs.xs.length < 1000:=by have:bs.xs.length<=12:=nb;omega
 have hfl:fs.xs.length<=60:=nf;simp only [Problem.cells,zbv g,List.map_cons,List.map_nil] at hgu;have hco:Hide (∀ (x:Int),0<=x->∀ H,zG (zm G (n+639)) H (.pure (.func 70 [])) [.pure ((Sl.mk false (zT g)).pv intF 1),.pure (.int .i64 x)]=some (.val (.pure (.bool (g.contains x.toNat))))):=⟨fun x hx H=>by
  have:=ze (G:=G) (n:=n+639) (H:=H) (caps:=[]) (ps:=[(Sl.mk false (zT g)).pv intF 1,.int .i64 x]) sh70 (e70 (n+637) (Sl.mk false (zT g)) x (by rw [Sl.xs_mk,zaq];omega));rw [Sl.xs_mk,zfc hx] at this;exact this⟩
 clear nb nf ok hwf;(repeat' first|simp [*,za,c39,Problem.cells]|(apply zb<;>intro _ h<;>try simp [-Nat.le_zero_eq] at h)|(show wpE 0 (zk ..) ..;refine zx ?_)|(refine zl fun v2 H2 hv2 hnx2 hget2 hnew2 hone2 hcel2=>?_))
 refine zF [(5,6),(15,28)] (fun (a:Nat) env H=>env 15=.pure (.int .i64 a)/\a<=fs.xs.length/\2 < H.nx/\H.get 0=.cells true [.pure ((Sl.mk false (zT g)).pv intF 1)]/\∃ M,H.get 2=.cells true [M]/\Hide (OwnV intF 1 H M (zeK fs.xs g a)/\∀ id,Names M id->id≠0/\id≠2)) (fun a=>fs.xs.length - a) 0 ?_ ?_ ?_ ?_
 ·decide
 ·refine ⟨by simp,by omega,by simp,by simp,.row 1 1 0 0,by simp,⟨.inr ⟨1,rfl,by simp [zeK,zam,zq]⟩,fun id ⟨_,_,_,h⟩=>by simp at h;omega⟩⟩
 ·simp only [zA];omega
 rintro a env H ⟨g15,ha,hnx,h0,M,h2,hV⟩;have hVo:=hV.h.1.one;have hVo1:=hVo.1;have hVo2:=hVo.2;have hn0:0 < H.nx:=by omega
 have hn1:1 < H.nx:=by omega
 have h0x:(0:Nat)≠H.nx:=by omega
 have h2x:(2:Nat)≠H.nx:=by omega
 clear hVo
 by_cases hlt2:a < fs.xs.length
 ·have w2:IntKind.i64.wrap ((a:Int)+1)=(a+1:Nat):=by rw [wrap64 (by omega) (by omega)];omega
  have hltI:(a:Int) < fs.xs.length:=by omega
  have hst:=zmH (g:=g) hlt2;have hlen:=zpJ fs.xs g a;have hca:=hco.h fs.xs[a].a (hfa.h _ (List.getElem_mem hlt2));obtain ⟨F,hF⟩:∃ F,fs.xs[a]=F:=⟨_,rfl⟩
  rw [hF] at hst hca;obtain ⟨d1,d2,d3,da,db,dc,⟨d4,d5⟩,d6⟩:=F;simp only at hca hst
  cases hq:g.contains da.toNat with
  | true =>
   rw [hq,if_pos rfl] at hst;rw [hq] at hca;have hstH:=Hide.mk hst;clear hst hq;(repeat' first|simp [*,za,Fact.cells,Span.cells]|(apply zb<;>intro _ h<;>try simp [-Nat.le_zero_eq] at h)|(show wpE 0 (zk ..) ..;refine zx ?_)|(refine zl fun v2 H2 hv2 hnx2 hget2 hnew2 hone2 hcel2=>?_));have hnl:∀ id,Names M id->id < H.nx:=fun id h=>hV.h.1.names_lt h
   refine zlL (f:=intF) (sz:=1) (l:=zeK fs.xs g a) (OwnV.alloc (hV.h.1.keep (H':=(H.alloc _).set H.nx _) fun id ⟨m,hm⟩=>by
    have:=hnl id ⟨_,_,_,hm⟩;rw [zh (by omega),zf this]) _) (fun _=>rfl) (by decide) (fun _=>rfl) (by unfold zn;omega) ⟨(a:Int),by simp,?_⟩
   intro V4 H4 hg4 ha4;have hgo:∀ c,c < H.nx->¬ Names M c->H4.get c=H.get c:=fun c hc hn=>by rw [ha4.get c (by rw [zan,zaG,zan];omega) hn,zf (by rw [zaG,zan];omega),zh (by omega),zf hc]
   have k0:H4.get 0=.cells true [.pure ((Sl.mk false (zT g)).pv intF 1)]:=by rw [hgo 0 hn0 (fun hn=>(hV.h.2 0 hn).1 rfl)];exact h0
   have k2:H4.get 2=.cells true [M]:=by rw [hgo 2 hnx (fun hn=>(hV.h.2 2 hn).2 rfl)];exact h2
   have gn:2 < H4.nx:=by have:=ha4.nx;rw [zan,zaG,zan] at this;omega
   have hV4:Hide (OwnV intF 1 H4 V4 (zeK fs.xs g (a+1))/\∀ id,Names V4 id->H.nx < id):=⟨by rw [hstH.h];exact hg4.1,fun id hn=>by have:=ha4.new id hn;rw [zan,zaG,zan] at this;omega⟩
   have o4:=hg4.1.one;have o4a:=o4.1;have o4b:=o4.2;clear hg4 ha4 o4 hV hgo h0 h2;(repeat' first|simp [*,za]|(apply zb<;>intro _ h<;>try simp [-Nat.le_zero_eq] at h)|(show wpE 0 (zk ..) ..;refine zx ?_)|(refine zl fun v2 H2 hv2 hnx2 hget2 hnew2 hone2 hcel2=>?_))
   refine ⟨a+1,by omega,by omega,by omega,⟨hV4.h.1.keep fun id ⟨m,hm⟩=>?_,fun id hn=>by have:=hV4.h.2 id hn;omega⟩⟩
   have h8:=hV4.h.2 id ⟨_,_,_,hm⟩;exact zh (by omega)
  | false =>
   rw [hq,if_neg (by simp)] at hst;rw [hq] at hca;have hstH:=Hide.mk hst;have hB2:Hide (∀ o1 o2,OwnV intF 1 ((H.alloc o1).set H.nx o2) M (zeK fs.xs g (a+1))):=⟨fun o1 o2=>by
    rw [hstH.h];exact hV.h.1.keep fun id ⟨m,hm⟩=>by
     have:=hV.h.1.names_lt (⟨_,_,_,hm⟩:Names M id);rw [zh (by omega),zf this]⟩
   clear hst hq;(repeat' first|simp [*,za,Fact.cells,Span.cells]|(apply zb<;>intro _ h<;>try simp [-Nat.le_zero_eq] at h)|(show wpE 0 (zk ..) ..;refine zx ?_)|(refine zl fun v2 H2 hv2 hnx2 hget2 hnew2 hone2 hcel2=>?_));exact ⟨a+1,by omega,by omega,by omega,by omega,⟨hB2.h _ _,hV.h.2⟩⟩
 ·have haN:a=fs.xs.length:=by omega
  subst haN;have hmU:zeK fs.xs g fs.xs.length=zeN fs.xs g:=rfl;rw [hmU] at hV;clear hlt2 ha hco hfa hmU;(repeat' first|simp [*,za]|(apply zb<;>intro _ h<;>try simp [-Nat.le_zero_eq] at h)|(show wpE 0 (zk ..) ..;refine zx ?_)|(refine zl fun v2 H2 hv2 hnx2 hget2 hnew2 hone2 hcel2=>?_))
  refine zgM (zfo (n:=n+638) zgJ (zgQ hbl ?_))
  intro B H1 hB hBn hnx1 hsame hnew;simp at hnx1;have hsm:=hsame (H.nx+1) (by simp);have hkeep:∀ j,j < H.nx->H1.get j=H.get j:=fun j h=>by
   rw [hsame j (by simp;omega),zh (by omega),zf (by rw [zan];omega),zf h]
  have ko:H1.get H.nx=.cells true [.pure .nils]:=by rw [hsame H.nx (by simp)];simp
  have kg:H1.get (H.nx+1)=.cells true [.func 73 (zcN ⟨bs,fs⟩ 2 H.nx 0 (H.nx+1))]:=by rw [hsm];simp [zcN,Problem.cells]
  refine ⟨?_,?_⟩
  ·unfold keeps;simp only;rw [hsm,zu (by simp)];have:=zns 73 2 H.nx 0 (H.nx+1) ⟨bs,fs⟩;simp only [zcN,Problem.cells] at this;simp [this]
  have gi:GwIn ⟨bs,fs⟩ g 2 H.nx 0 (H.nx+1) H1.nx M H1 (.pure .nils) [] :=
   ⟨by rw [hkeep 2 hnx];exact h2,hV.h.1.keep fun id ⟨n,hn⟩=>hkeep id (hV.h.1.names_lt ⟨_,_,_,hn⟩),ko,GrowV.nil,by rw [hkeep 0 hn0,zbv];exact h0,kg,fun id hn=>⟨by have:=hV.h.1.names_lt hn;omega,by have:=hV.h.1.names_lt hn;omega⟩,fun id ⟨_,_,_,h⟩=>by simp at h,Nat.le_refl _⟩
  have gb:GwB 2 H.nx 0 (H.nx+1) H1.nx:=⟨by omega,by omega,by omega,by omega,by omega,by omega,by omega⟩
  have bg:BoxG H1 H.nx H1.nx B bs.xs:=zrq hB fun id h=>⟨by have:=hnew id h;simp at this;omega,hB.names_lt h⟩
  have hcH:=Hide.mk (hgc.h 2 H.nx 0 (H.nx+1) H1.nx gb M H1 B bg gi);have hone:=hB.one;have ho1:=hone.1;have ho2:=hone.2;have hn2:H.nx < H1.nx:=by omega
  clear hgc hB hBn hsame hnew hsm hkeep kg gi gb bg hV h0 h2 hone;(repeat' first|simp [*,za]|(apply zb<;>intro _ h<;>try simp [-Nat.le_zero_eq] at h)|(show wpE 0 (zk ..) ..;refine zx ?_)|(refine zl fun v2 H2 hv2 hnx2 hget2 hnew2 hone2 hcel2=>?_))
  refine zaX (n:=n+638) zkA (zcu hcH.h ?_)
  rintro H2 ⟨V2,o2⟩;have g2:=o2.at_;have hgr:=o2.gr;rw [List.nil_append] at hgr;have hn3:H.nx < H2.nx:=by have:=o2.same.nx;omega
  have hone:=hgr.1.one;have ho3:=hone.1;have ho4:=hone.2;obtain ⟨ids,hids⟩:=(hgr.res (n:=10) (fun _=>rfl))
  clear o2 hcH hgr hone ko;(repeat' first|simp [*,za]|(apply zb<;>intro _ h<;>try simp [-Nat.le_zero_eq] at h)|(show wpE 0 (zk ..) ..;refine zx ?_)|(refine zl fun v2 H2 hv2 hnx2 hget2 hnew2 hone2 hcel2=>?_));exact ⟨ids,hids⟩
end Go.Proofs.YtmmhnfghklppiaaGreat.Vm
