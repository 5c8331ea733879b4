/- search.fits: the walk through a tree, walked; CheckTree. search.fits and CheckTree: walked. search.refute: the tree of the guilty part, walked. -/
import Derived.Test.YtmmhnfghklppiaaGreatWk25
import Derived.Test.YtmmhnfghklppiaaGreatWk31
import Derived.Test.YtmmhnfghklppiaaGreatWk29
import Derived.Test.YtmmhnfghklppiaaGreatWk26
import Derived.Test.YtmmhnfghklppiaaGreatWk17
namespace Go.Proofs.YtmmhnfghklppiaaGreat.Vm
open Go
set_option linter.unusedSimpArgs false
set_option linter.unusedVariables false
set_option maxHeartbeats 8000000
set_option maxRecDepth 4000
def IY (H:Heap) (nb:Nat) (v:AV) (l:List Box):Prop:=(∃ s:Sl Box,s.xs=l/\v=.pure (s.pv Box.cells 4))\/∃ id,v=.row id 4 0 l.length/\id≠nb/\H.get id=.cells true (zq Box.cells l)
def ni (nb wb:Nat) (p:Problem) (tree:Sl Node):List AV:=[.box nb 0,.pure (.ptr false [tree.pv Node.cells 4] 0),.pure (.ptr false p.cells 0),.box wb 0]
structure jN (nb:Nat) (H H':Heap) (a:Nat):Prop where
 nx:H.nx<=H'.nx
 get:∀ j,j < H.nx->j≠nb->H'.get j=H.get j
 at_:H'.get nb=.cells true [.pure (.int .i64 a)]
theorem jN.trans {nb:Nat} {H H1 H2:Heap} {a b:Nat} (h:jN nb H H1 a) (h':jN nb H1 H2 b):jN nb H H2 b :=
 ⟨Nat.le_trans h.nx h'.nx,fun j h1 h2=>(h'.get j (by have:=h.nx;omega) h2).trans (h.get j h1 h2),h'.at_⟩
theorem K9:G.shared 94=true:=by decide
theorem zpp {p:Problem} (ok:ae p) {tree:Sl Node} (wu:tree.xs.length < 4000000000000000000) {nb wb m F:Nat} (hnw:nb < wb)
  (ih:∀ (H:Heap) (l:List Box) (a:Nat),iq l < m->aP l p.boxes.xs->Wf l->a<=tree.xs.length->H.get nb=.cells true [.pure (.int .i64 a)]->H.get wb=.cells true [.func 94 (ni nb wb p tree)] ->
   ∃ H',Vm.call G (F+6+2) (.fn 94) ([.pure ((Sl.mk false l).pv Box.cells 4)]++ni nb wb p tree) H=some (.pure (.bool (rG p.facts.xs tree.xs m l a).1),H')/\jN nb H H' (rG p.facts.xs tree.xs m l a).2)
  (H:Heap) (v:AV) (l:List Box) (a:Nat) (hm:iq l < m+1) (hs:aP l p.boxes.xs) (hw:Wf l) (hv:IY H nb v l) (ha:a<=tree.xs.length) (F9:H.get nb=.cells true [.pure (.int .i64 a)]) (uo:H.get wb=.cells true [.func 94 (ni nb wb p tree)]) :
  ∃ H',Vm.call G (F+6+2+1) (.fn 94) ([v]++ni nb wb p tree) H=some (.pure (.bool (rG p.facts.xs tree.xs (m+1) l a).1),H')/\jN nb H H' (rG p.facts.xs tree.xs (m+1) l a).2:=by
 have La:=zx uo;have Q4:nb < H.nx:=by omega
 have yU:nb≠H.nx:=by omega
 have IU:wb≠H.nx:=by omega
 have hnw2:nb≠wb:=by omega
 have BM:l.length=p.boxes.xs.length:=hs.1;have Vf:=ok.nb;have nf:=ok.nf;have main:∃ v' H',Vm.call G (F+6+2+1) (.fn 94) ([v]++ni nb wb p tree) H=some (v',H')/\(v'=.pure (.bool (rG p.facts.xs tree.xs (m+1) l a).1)/\jN nb H H' (rG p.facts.xs tree.xs (m+1) l a).2):=by
  refine Jl rfl g94 rfl ?_
  generalize hR:rG p.facts.xs tree.xs (m+1) l a=R;unfold rG at hR
  by_cases sJ:a < tree.xs.length
  case neg =>
   have e:tree.xs[a]?=none:=List.getElem?_eq_none (by omega);rw [e] at hR;subst hR;have IZ:¬ (a:Int) < tree.xs.length:=by omega
   have Nv:(tree.xs.length:Int)<=a:=by omega
   have ik:jN nb H H a:=⟨Nat.le_refl _,fun _ _ _=>rfl,F9⟩
   clear ih;simp [*,zb,c94,ni]
  have e:tree.xs[a]?=some tree.xs[a]:=List.getElem?_eq_getElem sJ;rw [e] at hR;simp only at hR;have IZ:(a:Int) < tree.xs.length:=by omega
  have Lc:¬ tree.xs.length<=a:=by omega
  have Ld:H.nx≠nb:=by omega
  have Aw:wb≠nb:=by omega
  have hwl2:H.nx≠wb:=by omega
  have w1:IntKind.i64.wrap ((a:Int)+1)=(a:Int)+1:=wrap64 (by omega) (by omega);obtain ⟨⟨df,dp,dx,dt⟩,hd⟩:∃ d,d=tree.xs[a]:=⟨_,rfl⟩
  have M7:=rQ (k:=.i64) (f:=Node.cells) (sz:=4) (s:=tree) sJ;rw [<- hd] at hR M7;simp only at hR;have w2:IntKind.i64.wrap ((p.facts.xs.length:Int) - 1)=(p.facts.xs.length:Int) - 1:=wrap64 (by omega) (by omega);have w3:IntKind.i64.wrap ((l.length:Int) - 1)=(l.length:Int) - 1:=wrap64 (by omega) (by omega);have hl12:l.length<=12:=by omega
  clear BM Vf;have bD:∀ x y z H,zH (zu G (F+6+2)) H (.pure (.func 52 [])) [.pure (.int .i64 x),.pure (.int .i64 y),.pure (.int .i64 z)]=some (.val (.pure (.bool (mZ x y z)))):=fun x y z H=>ze (G:=G) (n:=F+6+2) (H:=H) (caps:=[]) (ps:=[.int .i64 x,.int .i64 y,.int .i64 z]) sh52 (e52 (F+6+1) x y z);have ik:Hide (∀ o o',jN nb H (((H.alloc o).set H.nx o').set nb (.cells true [.pure (.int .i64 ((a:Int)+1))])) (a+1)):=⟨fun o o'=>⟨by simp,fun j h1 h2=>by rw [zf h2,zf (by omega),zg h1],zn (by simp;omega)⟩⟩
  by_cases OH:df=-1
  case neg =>
   rw [if_pos OH] at hR
   by_cases c1:0<=df/\df < p.facts.xs.length
   case neg =>
    have vK:mZ df 0 ((p.facts.xs.length:Int) - 1)=false:=by
     unfold mZ;rw [Bool.and_eq_false_iff,decide_eq_false_iff_not,decide_eq_false_iff_not];omega
    have jC:R=(false,a+1):=by
     rw [<- hR]
     by_cases c0:0<=df
     .have:¬ df < p.facts.xs.length:=fun h=>c1 ⟨c0,h⟩;simp [c0,this]
     .simp [c0]
    subst jC;have Wl:=vK;rw [show (p.facts.xs.length:Int) - 1=(p.facts.xs.length:Int) - 1 from rfl] at Wl;clear ih hR uo hv hd;(repeat' first|simp [*,zb,c94,ni,Problem.cells,Node.cells]|(apply za<;>intro _ h<;>try simp [-Nat.le_zero_eq] at h));exact ik.h _ _
   obtain ⟨k,rfl⟩:∃ k:Nat,df=k:=⟨df.toNat,by omega⟩
   have hk:k < p.facts.xs.length:=by omega
   have vK:mZ (k:Int) 0 ((p.facts.xs.length:Int) - 1)=true:=by
    unfold mZ;rw [Bool.and_eq_true,decide_eq_true_eq,decide_eq_true_eq];omega
   have mr:=rQ (k:=.i64) (f:=Fact.cells) (sz:=9) (s:=p.facts) hk;rw [Int.toNat_natCast,getElem!_pos p.facts.xs k hk] at hR;have jC:R=(decide (dp=0)&&(decide (dx=0)&&(decide (dt=0)&&zJ p.facts.xs[k] l)),a+1):=by
    rw [<- hR];simp [c1.1,c1.2]
   clear hR;have bH:=QU ok hs hw (List.getElem_mem hk)
   by_cases c2:dp=0
   case neg =>
    have yc:R=(false,a+1):=by rw [jC];simp [c2]
    subst yc;clear ih uo hv hd jC;(repeat' first|simp [*,zb,c94,ni,Problem.cells,Node.cells]|(apply za<;>intro _ h<;>try simp [-Nat.le_zero_eq] at h));exact ik.h _ _
   by_cases c3:dx=0
   case neg =>
    have yc:R=(false,a+1):=by rw [jC];simp [c3]
    subst yc;clear ih uo hv hd jC;(repeat' first|simp [*,zb,c94,ni,Problem.cells,Node.cells]|(apply za<;>intro _ h<;>try simp [-Nat.le_zero_eq] at h));exact ik.h _ _
   by_cases c4:dt=0
   case neg =>
    have yc:R=(false,a+1):=by rw [jC];simp [c4]
    subst yc;clear ih uo hv hd jC;(repeat' first|simp [*,zb,c94,ni,Problem.cells,Node.cells]|(apply za<;>intro _ h<;>try simp [-Nat.le_zero_eq] at h));exact ik.h _ _
   have yc:R=(zJ p.facts.xs[k] l,a+1):=by rw [jC];simp [c2,c3,c4]
   subst yc;rcases hv with ⟨s,rfl,rfl⟩|⟨id,rfl,bJ,hg⟩
   .have pR:=fun H=>ze (G:=G) (n:=F+6+2) (H:=H) (caps:=[]) (ps:=[.agg p.facts.xs[k].cells,s.pv Box.cells 4]) sh60 (e60 (F+3) p.facts.xs[k] s bH);simp only [Fact.cells,Span.cells,List.map] at pR mr;clear ih uo hd jC bH;generalize zJ p.facts.xs[k] s.xs=B at *;(repeat' first|simp [*,zb,c94,ni,Problem.cells,Node.cells,Fact.cells,Span.cells]|(apply za<;>intro _ h<;>try simp [-Nat.le_zero_eq] at h));exact ik.h _ _
   .have pR:∀ H2:Heap,H2.get id=.cells true (zq Box.cells l)->zH (zu G (F+6+2)) H2 (.pure (.func 60 [])) [.pure (.agg p.facts.xs[k].cells),.row id 4 0 l.length]=some (.val (.pure (.bool (zJ p.facts.xs[k] l)))):=fun H2 h=>by
     obtain ⟨s0,pM,Ao⟩:=Jm (n:=10) (f:=Box.cells) (sz:=4) (fun _=>rfl) h rfl;subst pM;exact JE sh60 (.cons (.pure _) (.cons Ao .nil)) (e60 (F+3) p.facts.xs[k] s0 bH) rfl
    simp only [Fact.cells,Span.cells] at pR mr;have sV:=zx hg;have Nw:id≠H.nx:=by omega
    clear ih uo hd jC bH;generalize zJ p.facts.xs[k] l=B at *;(repeat' first|simp [*,zb,c94,ni,Problem.cells,Node.cells,Fact.cells,Span.cells]|(apply za<;>intro _ h<;>try simp [-Nat.le_zero_eq] at h));exact ik.h _ _
  subst OH;rw [if_neg (by simp)] at hR
  by_cases r0:0<=dp/\dp < l.length
  case neg =>
   have vK:mZ dp 0 ((l.length:Int) - 1)=false:=by
    unfold mZ;rw [Bool.and_eq_false_iff,decide_eq_false_iff_not,decide_eq_false_iff_not];omega
   rw [if_neg (fun h=>r0 ⟨h.1,h.2.1⟩)] at hR;subst hR;clear ih uo hd;rcases hv with ⟨s,rfl,rfl⟩|⟨id,rfl,bJ,hg⟩
   ·(repeat' first|simp [*,zb,c94,ni,Problem.cells,Node.cells]|(apply za<;>intro _ h<;>try simp [-Nat.le_zero_eq] at h));exact ik.h _ _
   ·(repeat' first|simp [*,zb,c94,ni,Problem.cells,Node.cells]|(apply za<;>intro _ h<;>try simp [-Nat.le_zero_eq] at h));exact ik.h _ _
  have vK:mZ dp 0 ((l.length:Int) - 1)=true:=by
   unfold mZ;rw [Bool.and_eq_true,decide_eq_true_eq,decide_eq_true_eq];omega
  by_cases r1:0<=dx/\dx<=1
  case neg =>
   have F5:mZ dx 0 1=false:=by
    unfold mZ;rw [Bool.and_eq_false_iff,decide_eq_false_iff_not,decide_eq_false_iff_not];omega
   rw [if_neg (fun h=>r1 h.2.2)] at hR;subst hR;clear ih uo hd;rcases hv with ⟨s,rfl,rfl⟩|⟨id,rfl,bJ,hg⟩
   ·(repeat' first|simp [*,zb,c94,ni,Problem.cells,Node.cells]|(apply za<;>intro _ h<;>try simp [-Nat.le_zero_eq] at h));exact ik.h _ _
   ·(repeat' first|simp [*,zb,c94,ni,Problem.cells,Node.cells]|(apply za<;>intro _ h<;>try simp [-Nat.le_zero_eq] at h));exact ik.h _ _
  have F5:mZ dx 0 1=true:=by
   unfold mZ;rw [Bool.and_eq_true,decide_eq_true_eq,decide_eq_true_eq];omega
  rw [if_pos ⟨r0.1,r0.2,r1.1,r1.2⟩] at hR;obtain ⟨i,rfl⟩:∃ i:Nat,dp=i:=⟨dp.toNat,by omega⟩
  obtain ⟨x,rfl⟩:∃ x:Nat,dx=x:=⟨dx.toNat,by omega⟩
  have hi:i < l.length:=by omega
  have vF:x < 2:=by omega
  rw [Int.toNat_natCast,Int.toNat_natCast,getElem!_pos l i hi] at hR;have Dp:=aF.1 (KF ok hs hw _ (List.getElem_mem hi));have wz:IntKind.i64.wrap 0=0:=by decide
  have wo:IntKind.i64.wrap 1=1:=by decide
  have hi20:mZ 0 0 1=true:=by decide
  have hi21:mZ 1 0 1=true:=by decide
  by_cases r2:(bz l[i] x).lo<=dt/\dt < (bz l[i] x).hi
  case neg =>
   rw [if_neg r2] at hR;subst hR;clear ih uo hd;have xU:x=0\/x=1:=by omega
   rcases hv with ⟨s,rfl,rfl⟩|⟨id,rfl,bJ,hg⟩
   .have ho:=FP (F+6+1);have xS:=rQ (k:=.i64) (f:=Box.cells) (sz:=4) (s:=s) hi;rcases xU with rfl|rfl
    .have r3:¬ (s.xs[i].x.lo<=dt/\dt < s.xs[i].x.hi):=r2
     by_cases r4:dt < s.xs[i].x.lo
     .clear r2 r3;(repeat' first|simp [*,zb,c94,ni,Problem.cells,Node.cells,Box.cells,Span.cells]|(apply za<;>intro _ h<;>try simp [-Nat.le_zero_eq] at h));exact ik.h _ _
     .have r5:s.xs[i].x.hi<=dt:=by omega
      clear r2 r3;(repeat' first|simp [*,zb,c94,ni,Problem.cells,Node.cells,Box.cells,Span.cells]|(apply za<;>intro _ h<;>try simp [-Nat.le_zero_eq] at h));exact ik.h _ _
    .have r3:¬ (s.xs[i].y.lo<=dt/\dt < s.xs[i].y.hi):=r2
     by_cases r4:dt < s.xs[i].y.lo
     .clear r2 r3;(repeat' first|simp [*,zb,c94,ni,Problem.cells,Node.cells,Box.cells,Span.cells]|(apply za<;>intro _ h<;>try simp [-Nat.le_zero_eq] at h));exact ik.h _ _
     .have r5:s.xs[i].y.hi<=dt:=by omega
      clear r2 r3;(repeat' first|simp [*,zb,c94,ni,Problem.cells,Node.cells,Box.cells,Span.cells]|(apply za<;>intro _ h<;>try simp [-Nat.le_zero_eq] at h));exact ik.h _ _
   .have ho:=Et (F+6+1);have sV:=zx hg;have Nw:id≠H.nx:=by omega
    have l0:=zC (own:=true) (f:=Box.cells) (sz:=4) (l:=l) (i:=i) (size:=1) (off:=0) (fun _=>rfl) hi (by decide);have l1:=zC (own:=true) (f:=Box.cells) (sz:=4) (l:=l) (i:=i) (size:=1) (off:=1) (fun _=>rfl) hi (by decide);have l2:=zC (own:=true) (f:=Box.cells) (sz:=4) (l:=l) (i:=i) (size:=1) (off:=2) (fun _=>rfl) hi (by decide);have l3:=zC (own:=true) (f:=Box.cells) (sz:=4) (l:=l) (i:=i) (size:=1) (off:=3) (fun _=>rfl) hi (by decide);rw [Nat.add_zero] at l0;have e3:i*4+2+1=i*4+3:=rfl;rcases xU with rfl|rfl
    .have r3:¬ (l[i].x.lo<=dt/\dt < l[i].x.hi):=r2
     by_cases r4:dt < l[i].x.lo
     .clear r2 r3;(repeat' first|simp [*,zb,c94,ni,Problem.cells,Node.cells,Box.cells,Span.cells]|(apply za<;>intro _ h<;>try simp [-Nat.le_zero_eq] at h));exact ik.h _ _
     .have r5:l[i].x.hi<=dt:=by omega
      clear r2 r3;(repeat' first|simp [*,zb,c94,ni,Problem.cells,Node.cells,Box.cells,Span.cells]|(apply za<;>intro _ h<;>try simp [-Nat.le_zero_eq] at h));exact ik.h _ _
    .have r3:¬ (l[i].y.lo<=dt/\dt < l[i].y.hi):=r2
     by_cases r4:dt < l[i].y.lo
     .clear r2 r3;(repeat' first|simp [*,zb,c94,ni,Problem.cells,Node.cells,Box.cells,Span.cells]|(apply za<;>intro _ h<;>try simp [-Nat.le_zero_eq] at h));exact ik.h _ _
     .have r5:l[i].y.hi<=dt:=by omega
      clear r2 r3;(repeat' first|simp [*,zb,c94,ni,Problem.cells,Node.cells,Box.cells,Span.cells]|(apply za<;>intro _ h<;>try simp [-Nat.le_zero_eq] at h));exact ik.h _ _
  rw [if_pos r2] at hR;have hp:jI l i x dt:=⟨hi,vF,r2.1,r2.2⟩
  have m1:=TB hp;have m2:=TC hp;obtain ⟨z1,z2,z3,z4⟩:=WK (hw _ (List.getElem_mem hi)) r2.1 r2.2;have k1:=(aP.refl l).set (i:=i) z3;have k2:=(aP.refl l).set (i:=i) z4;rw [List.set_getElem_self,<- Gi hi] at k1;rw [List.set_getElem_self,<- Gj hi] at k2;have j1:=hw.set (i:=i) z1;have j2:=hw.set (i:=i) z2;rw [<- Gi hi] at j1;rw [<- Gj hi] at j2;have i1:=Hide.mk fun (H:Heap)=>ih H (fU l i x dt) (a+1) (by omega) (k1.trans hs) j1 (by omega);have i2:=Hide.mk fun (H:Heap) (a':Nat)=>ih H (pq l i x dt) a' (by omega) (k2.trans hs) j2;have hle:=UQ p.facts.xs tree.xs m (fU l i x dt) (a+1) (by omega);have J4:nP dt:=by
   have h1:=r2.1;have h2:=r2.2;clear hR i1 i2 hle;unfold nP;unfold bz at h1 h2
   by_cases e:x=0
   .simp only [e,if_true] at h1 h2;omega
   .simp only [e,if_false] at h1 h2;omega
  have LJ:(i:Int)=i:=rfl;obtain ⟨⟨b1,a1⟩,uj⟩:∃ r,rG p.facts.xs tree.xs m (fU l i x dt) (a+1)=r:=⟨_,rfl⟩
  rw [uj] at hR i1 hle;simp only at hR i1 hle;have Dw:=hle.2;clear hle uj ih hp m1 m2 z1 z2 z3 z4 k1 k2 j1 j2;have Az:=uo;rcases hv with ⟨s,rfl,rfl⟩|⟨id,rfl,bJ,hg⟩
  .have ho:=FP (F+6+1);have xS:=rQ (k:=.i64) (f:=Box.cells) (sz:=4) (s:=s) hi;have Vg:∀ H,zH (zu G (F+6+2)) H (.pure (.func 78 [])) [.pure (s.pv Box.cells 4),.pure (.int .i64 (i:Nat)),.pure (.int .i64 (x:Nat)),.pure (.int .i64 dt),.pure (.bool false)]=some (.val (.pure ((Sl.mk false (fU s.xs i x dt)).pv Box.cells 4))):=fun H=>ze (G:=G) (n:=F+6+2) (H:=H) (caps:=[]) (ps:=[s.pv Box.cells 4,.int .i64 i,.int .i64 x,.int .i64 dt,.bool false]) sh78 (e78 (F+6) s i x dt false hi vF (by omega) J4);have Vh:∀ H,zH (zu G (F+6+2)) H (.pure (.func 78 [])) [.pure (s.pv Box.cells 4),.pure (.int .i64 (i:Nat)),.pure (.int .i64 (x:Nat)),.pure (.int .i64 dt),.pure (.bool true)]=some (.val (.pure ((Sl.mk false (pq s.xs i x dt)).pv Box.cells 4))):=fun H=>ze (G:=G) (n:=F+6+2) (H:=H) (caps:=[]) (ps:=[s.pv Box.cells 4,.int .i64 i,.int .i64 x,.int .i64 dt,.bool true]) sh78 (e78 (F+6) s i x dt true hi vF (by omega) J4);generalize fU s.xs i x dt=L1 at *;generalize pq s.xs i x dt=L2 at *;have xU:x=0\/x=1:=by omega
   clear vF r1;rcases xU with rfl|rfl
   .have r3:s.xs[i].x.lo<=dt/\dt < s.xs[i].x.hi:=r2;have r4:¬ dt < s.xs[i].x.lo:=by omega
    have r5:¬ s.xs[i].x.hi<=dt:=by omega
    push_cast at Vg Vh
    clear r2 r3;(repeat' first|simp [*,zb,c94,ni,Problem.cells,Node.cells,Box.cells,Span.cells]|(apply za<;>intro _ h<;>try simp [-Nat.le_zero_eq] at h))
    refine BI (n:=F+6+1) K9 (yl (i1.h _ ?_ ?_) ?_)
    .rw [zn (by simp;omega)];push_cast;rfl
    .simp [uo,Aw,IU,La]
    .intro H1 o1;have g1:=o1.at_;have gt:=o1.get H.nx (by simp) Ld;have gw:=o1.get wb (by simp;omega) Aw;have n1:=o1.nx;simp at n1;have f1:=(ik.h _ _).trans o1;have gt1:H1.get H.nx=.cells true [.pure (.int .i64 (-1)),.pure (.int .i64 i),.pure (.int .i64 0),.pure (.int .i64 dt)]:=by
      rw [gt,zf (by omega),zn (by simp)]
     have Dx:H1.get wb=.cells true [.func 94 (ni nb wb p tree)]:=by
      rw [gw,zf (by omega),zf (by omega),zg La];exact Az
     have Ad:H.nx < H1.nx:=by omega
     have PK:nb < H1.nx:=by omega
     clear gt gw o1 uo Az F9 ik i1
     cases b1 with
     | false =>
      rw [if_neg (by simp)] at hR;subst hR;clear i2;simp [*,zb]
     | true =>
      rw [if_pos rfl] at hR;obtain ⟨R1,R2⟩:=R;have i3:=Hide.mk (i2.h H1 a1 Dw g1 Dx);rw [hR] at i3;clear i2 hR;(repeat' first|simp [*,zb]|(apply za<;>intro _ h<;>try simp [-Nat.le_zero_eq] at h))
      refine BI (n:=F+6+1) K9 (yl i3.h ?_)
      intro H2 o2;have f2:=f1.trans o2;clear o2 f1 i3;simp [*,zb]
   .have r3:s.xs[i].y.lo<=dt/\dt < s.xs[i].y.hi:=r2;have r4:¬ dt < s.xs[i].y.lo:=by omega
    have r5:¬ s.xs[i].y.hi<=dt:=by omega
    push_cast at Vg Vh
    clear r2 r3;(repeat' first|simp [*,zb,c94,ni,Problem.cells,Node.cells,Box.cells,Span.cells]|(apply za<;>intro _ h<;>try simp [-Nat.le_zero_eq] at h))
    refine BI (n:=F+6+1) K9 (yl (i1.h _ ?_ ?_) ?_)
    .rw [zn (by simp;omega)];push_cast;rfl
    .simp [uo,Aw,IU,La]
    .intro H1 o1;have g1:=o1.at_;have gt:=o1.get H.nx (by simp) Ld;have gw:=o1.get wb (by simp;omega) Aw;have n1:=o1.nx;simp at n1;have f1:=(ik.h _ _).trans o1;have gt1:H1.get H.nx=.cells true [.pure (.int .i64 (-1)),.pure (.int .i64 i),.pure (.int .i64 1),.pure (.int .i64 dt)]:=by
      rw [gt,zf (by omega),zn (by simp)]
     have Dx:H1.get wb=.cells true [.func 94 (ni nb wb p tree)]:=by
      rw [gw,zf (by omega),zf (by omega),zg La];exact Az
     have Ad:H.nx < H1.nx:=by omega
     have PK:nb < H1.nx:=by omega
     clear gt gw o1 uo Az F9 ik i1
     cases b1 with
     | false =>
      rw [if_neg (by simp)] at hR;subst hR;clear i2;simp [*,zb]
     | true =>
      rw [if_pos rfl] at hR;obtain ⟨R1,R2⟩:=R;have i3:=Hide.mk (i2.h H1 a1 Dw g1 Dx);rw [hR] at i3;clear i2 hR;(repeat' first|simp [*,zb]|(apply za<;>intro _ h<;>try simp [-Nat.le_zero_eq] at h))
      refine BI (n:=F+6+1) K9 (yl i3.h ?_)
      intro H2 o2;have f2:=f1.trans o2;clear o2 f1 i3;simp [*,zb]
  .have ho:=Et (F+6+1);have sV:=zx hg;have Nw:id≠H.nx:=by omega
   have Vg:∀ H2:Heap,H2.get id=.cells true (zq Box.cells l)->zH (zu G (F+6+2)) H2 (.pure (.func 78 [])) [.row id 4 0 l.length,.pure (.int .i64 (i:Nat)),.pure (.int .i64 (x:Nat)),.pure (.int .i64 dt),.pure (.bool false)]=some (.val (.pure ((Sl.mk false (fU l i x dt)).pv Box.cells 4))):=fun H2 h=>by
    obtain ⟨s0,pM,Ao⟩:=Jm (n:=10) (f:=Box.cells) (sz:=4) (fun _=>rfl) h rfl;subst pM;exact JE sh78 (.cons Ao (.cons (.pure _) (.cons (.pure _) (.cons (.pure _) (.cons (.pure _) .nil))))) (e78 (F+6) s0 i x dt false hi vF (by omega) J4) (Xe _)
   have Vh:∀ H2:Heap,H2.get id=.cells true (zq Box.cells l)->zH (zu G (F+6+2)) H2 (.pure (.func 78 [])) [.row id 4 0 l.length,.pure (.int .i64 (i:Nat)),.pure (.int .i64 (x:Nat)),.pure (.int .i64 dt),.pure (.bool true)]=some (.val (.pure ((Sl.mk false (pq l i x dt)).pv Box.cells 4))):=fun H2 h=>by
    obtain ⟨s0,pM,Ao⟩:=Jm (n:=10) (f:=Box.cells) (sz:=4) (fun _=>rfl) h rfl;subst pM;exact JE sh78 (.cons Ao (.cons (.pure _) (.cons (.pure _) (.cons (.pure _) (.cons (.pure _) .nil))))) (e78 (F+6) s0 i x dt true hi vF (by omega) J4) (Xe _)
   have l0:=zC (own:=true) (f:=Box.cells) (sz:=4) (l:=l) (i:=i) (size:=1) (off:=0) (fun _=>rfl) hi (by decide);have l1:=zC (own:=true) (f:=Box.cells) (sz:=4) (l:=l) (i:=i) (size:=1) (off:=1) (fun _=>rfl) hi (by decide);have l2:=zC (own:=true) (f:=Box.cells) (sz:=4) (l:=l) (i:=i) (size:=1) (off:=2) (fun _=>rfl) hi (by decide);have l3:=zC (own:=true) (f:=Box.cells) (sz:=4) (l:=l) (i:=i) (size:=1) (off:=3) (fun _=>rfl) hi (by decide);rw [Nat.add_zero] at l0;have e3:i*4+2+1=i*4+3:=rfl;generalize fU l i x dt=L1 at *;generalize pq l i x dt=L2 at *;have xU:x=0\/x=1:=by omega
   clear vF r1;rcases xU with rfl|rfl
   .have r3:l[i].x.lo<=dt/\dt < l[i].x.hi:=r2;have r4:¬ dt < l[i].x.lo:=by omega
    have r5:¬ l[i].x.hi<=dt:=by omega
    push_cast at Vg Vh
    clear r2 r3;(repeat' first|simp [*,zb,c94,ni,Problem.cells,Node.cells,Box.cells,Span.cells]|(apply za<;>intro _ h<;>try simp [-Nat.le_zero_eq] at h))
    refine BI (n:=F+6+1) K9 (yl (i1.h _ ?_ ?_) ?_)
    .rw [zn (by simp;omega)];push_cast;rfl
    .simp [uo,Aw,IU,La]
    .intro H1 o1;have g1:=o1.at_;have gt:=o1.get H.nx (by simp) Ld;have gw:=o1.get wb (by simp;omega) Aw;have n1:=o1.nx;simp at n1;have f1:=(ik.h _ _).trans o1;have gt1:H1.get H.nx=.cells true [.pure (.int .i64 (-1)),.pure (.int .i64 i),.pure (.int .i64 0),.pure (.int .i64 dt)]:=by
      rw [gt,zf (by omega),zn (by simp)]
     have Dx:H1.get wb=.cells true [.func 94 (ni nb wb p tree)]:=by
      rw [gw,zf (by omega),zf (by omega),zg La];exact Az
     have gi1:H1.get id=.cells true (zq Box.cells l):=by
      rw [o1.get id (by simp;omega) bJ,zf (by omega),zf (by omega),zg sV];exact hg
     have Vi:id < H1.nx:=by omega
     have Ad:H.nx < H1.nx:=by omega
     have PK:nb < H1.nx:=by omega
     clear gt gw o1 uo Az F9 ik i1 hg
     cases b1 with
     | false =>
      rw [if_neg (by simp)] at hR;subst hR;clear i2;simp [*,zb]
     | true =>
      rw [if_pos rfl] at hR;obtain ⟨R1,R2⟩:=R;have i3:=Hide.mk (i2.h H1 a1 Dw g1 Dx);rw [hR] at i3;clear i2 hR;(repeat' first|simp [*,zb]|(apply za<;>intro _ h<;>try simp [-Nat.le_zero_eq] at h))
      refine BI (n:=F+6+1) K9 (yl i3.h ?_)
      intro H2 o2;have f2:=f1.trans o2;clear o2 f1 i3;simp [*,zb]
   .have r3:l[i].y.lo<=dt/\dt < l[i].y.hi:=r2;have r4:¬ dt < l[i].y.lo:=by omega
    have r5:¬ l[i].y.hi<=dt:=by omega
    push_cast at Vg Vh
    clear r2 r3;(repeat' first|simp [*,zb,c94,ni,Problem.cells,Node.cells,Box.cells,Span.cells]|(apply za<;>intro _ h<;>try simp [-Nat.le_zero_eq] at h))
    refine BI (n:=F+6+1) K9 (yl (i1.h _ ?_ ?_) ?_)
    .rw [zn (by simp;omega)];push_cast;rfl
    .simp [uo,Aw,IU,La]
    .intro H1 o1;have g1:=o1.at_;have gt:=o1.get H.nx (by simp) Ld;have gw:=o1.get wb (by simp;omega) Aw;have n1:=o1.nx;simp at n1;have f1:=(ik.h _ _).trans o1;have gt1:H1.get H.nx=.cells true [.pure (.int .i64 (-1)),.pure (.int .i64 i),.pure (.int .i64 1),.pure (.int .i64 dt)]:=by
      rw [gt,zf (by omega),zn (by simp)]
     have Dx:H1.get wb=.cells true [.func 94 (ni nb wb p tree)]:=by
      rw [gw,zf (by omega),zf (by omega),zg La];exact Az
     have gi1:H1.get id=.cells true (zq Box.cells l):=by
      rw [o1.get id (by simp;omega) bJ,zf (by omega),zf (by omega),zg sV];exact hg
     have Vi:id < H1.nx:=by omega
     have Ad:H.nx < H1.nx:=by omega
     have PK:nb < H1.nx:=by omega
     clear gt gw o1 uo Az F9 ik i1 hg
     cases b1 with
     | false =>
      rw [if_neg (by simp)] at hR;subst hR;clear i2;simp [*,zb]
     | true =>
      rw [if_pos rfl] at hR;obtain ⟨R1,R2⟩:=R;have i3:=Hide.mk (i2.h H1 a1 Dw g1 Dx);rw [hR] at i3;clear i2 hR;(repeat' first|simp [*,zb]|(apply za<;>intro _ h<;>try simp [-Nat.le_zero_eq] at h))
      refine BI (n:=F+6+1) K9 (yl i3.h ?_)
      intro H2 o2;have f2:=f1.trans o2;clear o2 f1 i3;simp [*,zb]
 obtain ⟨v',H',h1,rfl,h2⟩:=main;exact ⟨H',h1,h2⟩
theorem zjS {p:Problem} (ok:ae p) {tree:Sl Node} (wu:tree.xs.length < 4000000000000000000) {nb wb:Nat} (hnw:nb < wb):∀ (m n:Nat) (H:Heap) (v:AV) (l:List Box) (a:Nat),iq l < m->aP l p.boxes.xs->Wf l->IY H nb v l->a<=tree.xs.length->H.get nb=.cells true [.pure (.int .i64 a)]->H.get wb=.cells true [.func 94 (ni nb wb p tree)] ->
  ∃ H',Vm.call G (n+m+8) (.fn 94) ([v]++ni nb wb p tree) H=some (.pure (.bool (rG p.facts.xs tree.xs m l a).1),H')/\jN nb H H' (rG p.facts.xs tree.xs m l a).2
 | 0,n,H,v,l,a,hm,_,_,_,_,_,_=>absurd hm (Nat.not_lt_zero _)
 | m+1,n,H,v,l,a,hm,hs,hw,hv,ha,hn,hg=>by
  have:=zpp ok wu (m:=m) (F:=n+m) hnw (fun H l a hm hs hw ha hn hg=>zjS ok wu hnw m n H _ l a hm hs hw (.inl ⟨_,rfl,rfl⟩) ha hn hg) H v l a hm hs hw hv ha hn hg;exact this
theorem zku {α:Type} {f:α->α->Bool}:∀ {l:List α},(∀ a∈l,f a a=true)->all2 f l l=true
 | [],_=>rfl
 | a::l,h=>by
  simp only [all2,Bool.and_eq_true];exact ⟨h a List.mem_cons_self,zku fun b hb=>h b (List.mem_cons_of_mem _ hb)⟩
theorem zkA {α:Type} {f:α->List PV} {sz n:Nat} (hf:∀ a,all2 (PV.jr n) (f a) (f a)=true) (s:Sl α):PV.jr (n+1) (s.pv f sz) (s.pv f sz)=true:=by
 cases s with
 | nil=>rfl
 | mk h l =>
  simp only [Sl.pv,PV.jr,beq_self_eq_true,Bool.true_and]
  refine zku fun e he=>?_
  obtain ⟨a,_,rfl⟩:=List.mem_map.1 he;exact hf a
theorem zqF (n:Nat) (b:Box):all2 (PV.jr (n+1)) b.cells b.cells=true:=by simp [Box.cells,Span.cells,all2,PV.jr,PV.jq]
theorem zpZ (n:Nat) (b:Fact):all2 (PV.jr (n+1)) b.cells b.cells=true:=by simp [Fact.cells,Span.cells,all2,PV.jr,PV.jq]
theorem zpY (n:Nat) (b:Node):all2 (PV.jr (n+1)) b.cells b.cells=true:=by simp [Node.cells,all2,PV.jr,PV.jq]
theorem zqK {n:Nat} {h:Bool} {cs:List PV} {o:Nat} (hc:all2 (PV.jr n) cs cs=true):PV.jr (n+1) (.ptr h cs o) (.ptr h cs o)=true:=by simp [PV.jr,hc]
theorem zoW {h:Bool} {cs:List PV} {o:Nat} (hc:all2 (PV.jr 5) cs cs=true):AV.l5 (.pure (.ptr h cs o)) (.pure (.ptr h cs o))=true:=zqK (n:=5) hc
theorem Ri (i o:Nat):AV.l5 (.box i o) (.box i o)=true:=by simp [AV.l5]
theorem zkk {f:Nat} {cs:List AV} (h:all2 AV.l5 cs cs=true):EP [.func f cs] [.func f cs]=true:=by simp [EP,h]
theorem zke (p:Problem):AV.l5 (.pure (.ptr false p.cells 0)) (.pure (.ptr false p.cells 0))=true:=by
 have h2:=zkA (n:=4) (sz:=4) (zqF 3) p.boxes;have h3:=zkA (n:=4) (sz:=9) (zpZ 3) p.facts
 refine zoW ?_
 simp only [Problem.cells,all2];rw [h2,h3];rfl
theorem zn0 (f nb wb:Nat) (p:Problem) (tree:Sl Node):EP [.func f (ni nb wb p tree)] [.func f (ni nb wb p tree)]=true:=by
 have h1:=zkA (n:=4) (sz:=4) (zpY 3) tree
 refine zkk ?_
 simp only [ni,all2];rw [Ri,Ri,zke,zoW (by simp only [all2];rw [h1];rfl)];rfl
@[simp] theorem zuQ (f i o:Nat) (l:List AV):JK f (.box i o::l)=.func f (.box i o::l):=rfl
theorem zhs {n:Nat} {H:Heap} {s:Sl Box} {k:AV->Heap->Prop} (hl:s.xs.length < 1000)
  (hk:∀ v' H',bL Box.cells 4 H' v' s.xs->isNil .slice v'=some s.isNil->H.nx<=H'.nx->(∀ id,id < H.nx->H'.get id=H.get id)->(∀ id,Names v' id->H.nx<=id)->k v' H') :
  ∃ v H',Vm.call G (n+1) (.fn 79) [.pure (s.pv Box.cells 4)] H=some (v,H')/\k v H':=by
 refine ziG (f:=Box.cells) (sz:=4) (bytes:=32) (l:=s.xs) (b:=s.isNil) (fun _=>rfl) g79 ?_ ?_ (fun h=>?_) (fun _=>rfl) (by decide) (fun _=>rfl) ?_ hk
 .exact Kr (f:=Box.cells) (sz:=4) (fun _=>rfl) _
 .simp
 .cases s with
  | nil=>rfl
  | mk h l=>simp [Sl.isNil] at h
 .simp only [zo];omega
theorem zsc {H:Heap} {v:AV} {l:List Box} {nb:Nat} (h:bL Box.cells 4 H v l) (hn:∀ id,Names v id->id≠nb):IY H nb v l:=by
 rcases h with ⟨rfl,rfl⟩|⟨id,rfl,hg⟩
 .exact .inl ⟨.nil,rfl,rfl⟩
 .exact .inr ⟨id,rfl,hn id ⟨_,_,_,rfl⟩,hg⟩
theorem sh46:G.shared 46=false:=by decide
theorem e46 (n:Nat) (p:Problem) (ok:ae p) (tree:Sl Node) (wu:tree.xs.length < 4000000000000000000) (nX:iq p.boxes.xs<=600):zK G (n+640) 46 [.agg p.cells,tree.pv Node.cells 4]=some (.bool (rf p.facts.xs p.boxes.xs tree.xs)):=by
 refine zz (zy _) rfl g46 rfl ?_
 have nb:=ok.nb;have IU:=vI ok;generalize hR:rf p.facts.xs p.boxes.xs tree.xs=R;have hH:=Hide.mk hR;have hl:p.boxes.xs.length < 1000:=by omega
 clear hR;obtain ⟨n',jD⟩:∃ n',n+639=n'+(iq p.boxes.xs+1)+8:=⟨n+639 - (iq p.boxes.xs+1) - 8,by omega⟩
 have PL:=Hide.mk (fun (H:Heap) (v:AV) (nb wb:Nat) (h:nb < wb) (h1:IY H nb v p.boxes.xs)=>zjS ok wu h (iq p.boxes.xs+1) n' H v p.boxes.xs 0 (Nat.lt_succ_self _) (aP.refl _) IU h1 (Nat.zero_le _));rw [<- jD] at PL;clear jD;(repeat' first|simp [*,zb,c46,Problem.cells]|(apply za<;>intro _ h<;>try simp [-Nat.le_zero_eq] at h))
 refine zka (ziT (n:=n+638) zg7 (zhs hl ?_))
 intro B H1 hB FN bX ah aR;have ED:=ah 1 (by simp);have k0:H1.get 0=.cells true [.pure (.int .i64 0)]:=by rw [ah 0 (by simp)];simp
 have k1:H1.get 1=.cells true [.func 94 (ni 0 1 p tree)]:=by rw [ED];simp [ni,Problem.cells]
 refine ⟨?_,?_⟩
 .unfold keeps;simp only;rw [ED,zn (by simp)];have:=zn0 94 0 1 p tree;simp only [ni,Problem.cells] at this;simp [this]
 have Vj:IY H1 0 B p.boxes.xs:=zsc hB fun id h=>by have:=aR id h;simp at this;omega
 have Le:=PL.h H1 B 0 1 (by decide) Vj k0 k1;have mM:rf p.facts.xs p.boxes.xs tree.xs=R:=hH.h;unfold rf at mM;obtain ⟨⟨b1,a1⟩,uj⟩:∃ r,rG p.facts.xs tree.xs (iq p.boxes.xs+1) p.boxes.xs 0=r:=⟨_,rfl⟩
 rw [uj] at Le mM;simp only at Le mM;have Ad:1 < H1.nx:=by simp at bX;omega
 have bG:=hB.one;have S9:=bG.1;have ho2:=bG.2;have Vk:=Hide.mk Le;clear PL Le hB FN bX ah aR ED Vj uj hH;(repeat' first|simp [*,zb]|(apply za<;>intro _ h<;>try simp [-Nat.le_zero_eq] at h))
 refine BI (n:=n+638) K9 (yl Vk.h ?_)
 intro H2 o2;have g2:=o2.at_;have n2:=o2.nx;have SV:0 < H2.nx:=by omega
 clear o2 Vk k0 k1
 cases b1 with
 | false =>
  have hR:R=false:=by rw [<- mM];rfl
  subst hR;simp [*,zb]
 | true =>
  have hR:R=decide (a1=tree.xs.length):=by rw [<- mM];rfl
  have U4:decide ((a1:Int)=tree.xs.length)=decide (a1=tree.xs.length):=by rw [decide_eq_decide];omega
  subst hR;simp [*,zb]
theorem zmw {α:Type} {f:α->List PV} {sz bytes:Nat} {H:Heap} {v b:AV} {l:List α} {k:AV->Heap->Prop} {u} (hv:bL f sz H v l) (hf:∀ a,(f a).length=sz) (h0:0 < sz) (bG:∀ a,(f a).all PV.one=true)
  (hm:(l.length+1)*sz<=zo/\(l.length+1)*bytes<=zo)
  (hk:appG f (zO H sz b) (fun a=>∀ v' H',aD f sz H' v' (l++[a])->After v H v' H'->k v' H') .mk):wpE 0 (zm H sz bytes v b) H k u:=by
 obtain ⟨a,hb,hk⟩:=hk;have ho:=Tm _ (bG a);rcases hv with ⟨rfl,rfl⟩|⟨i,rfl,hg⟩
 .exact H8 aD.nil hf h0 bG hm ⟨a,hb,hk⟩
 .have hlen:=BB hf l;have uN:¬ (0*sz+(l.length+1)*sz<=(zq f l).length):=by rw [hlen,Nat.add_mul];omega
  have h5:zm H sz bytes (.row i sz 0 l.length) b=some (.upd (.row H.nx sz 0 (l.length+1)) ((H.set i .dead).alloc (.cells true (zq f l++(f a).map .pure)))):=by
   simp only [zm,hb,ho,hg];simp only [Bool.not_true,Bool.false_eq_true,if_false,if_true];rw [if_neg uN];simp only [true_and];rw [if_pos ⟨hlen.symm,hm⟩]
  rw [h5,J6]
  refine hk _ _ ⟨.inr ⟨H.nx,by simp,?_⟩,fun h=>by simp at h⟩ ⟨Nat.le_succ _,fun id hl hn=>?_,fun id ⟨_,_,_,h⟩=>?_⟩
  .have:(H.set i .dead).nx=H.nx:=rfl;rw [<- this,CQ,Ep,Tj]
  .rw [zg (by exact hl),zf];intro e;subst e;exact hn ⟨_,_,_,rfl⟩
  .simp at h;omega
def I1 (fs:List Fact) (g:List Nat) (a:Nat):List Int:=(jS a).filter fun k=>g.contains (fs[k.toNat]!).a.toNat
theorem zqr (a:Nat):jS (a+1)=jS a++[(a:Int)]:=by
 unfold jS;rw [List.range_succ,List.map_append];rfl
theorem zn7 {fs:List Fact} {g:List Nat} {a:Nat} (h:a < fs.length):I1 fs g (a+1)=if g.contains fs[a].a.toNat then I1 fs g a++[(a:Int)] else I1 fs g a:=by
 unfold I1;rw [zqr,List.filter_append];simp only [List.filter_cons,List.filter_nil,Int.toNat_natCast];have e:fs[a]! = fs[a]:=getElem!_pos fs a h;simp only [e]
 split<;>simp
theorem zp4 (fs:List Fact) (g:List Nat) (a:Nat):(I1 fs g a).length<=a:=by
 have:=List.length_filter_le (fun k=>g.contains (fs[k.toNat]!).a.toNat) (jS a);rwa [Js] at this
theorem ja.grow {p:Problem} {gs:List (List Nat)} {k:Nat} (h:ja p gs k):IV p gs[k]! := by
 have hm:gs[k]! ∈ gs:=by rw [getElem!_pos gs k h.lt];exact List.getElem_mem h.lt
 have pY:=h.pos hm;obtain ⟨m,hc,vJ⟩:=h.cls;have Dk:=UJ m p.boxes.xs.length;rw [<- vJ] at Dk;exact ⟨h.ok,fun e=>by rw [e] at pY;simp at pY,(Dk.2 _ hm).2,by have:=(Dk.2 _ hm).1;have:=h.ok.nb;omega⟩
theorem zrt {H:Heap} {v:AV} {l:List Box} {ob bs:Nat} (h:bL Box.cells 4 H v l) (hn:∀ id,Names v id->id≠ob/\id < bs):ve H ob bs v l:=by
 rcases h with ⟨rfl,rfl⟩|⟨id,rfl,hg⟩
 .exact .inl ⟨.nil,rfl,rfl⟩
 .have:=hn id ⟨_,_,_,rfl⟩;exact .inr ⟨id,rfl,this.1,this.2,hg⟩
def wH (p:Problem) (gs:List (List Nat)) (k:Nat):List Node:=vL p gs[k]! (iq p.boxes.xs+1) p.boxes.xs
theorem znx (f mb ob pb gb:Nat) (p:Problem):EP [.func f (Av p mb ob pb gb)] [.func f (Av p mb ob pb gb)]=true:=by
 refine zkk ?_
 simp only [Av,all2];rw [Ri,Ri,Ri,Ri,zke];rfl
theorem sh39:G.shared 39=false:=by decide
theorem e39 (n:Nat) (p:Problem) (gs:List (List Nat)) (k:Nat) (h:ja p gs k) (nX:iq p.boxes.xs<=600) (bZ:(wH p gs k).length<=200000000000):zK G (n+640) 39 [.agg p.cells]=some ((Sl.of (wH p gs k)).pv Node.cells 4):=by
 refine zz (zy _) rfl g39 rfl ?_
 unfold wH at bZ ⊢;have XI:=h.grow;have ok:=h.ok;have nb:=ok.nb;have nf:=ok.nf;have IW:=vI ok;have Qw:=fun H=>ze (G:=G) (n:=n+639) (H:=H) (caps:=[]) (ps:=[.agg p.cells]) sh72 (e72 (n+587) p gs k h);have Rb:Hide (∀ f∈p.facts.xs,0<=f.a):=⟨fun f hf=>by have:=(CZ f _).1 (ok.fact f hf);omega⟩
 obtain ⟨g,hg⟩:∃ g,gs[k]! = g:=⟨_,rfl⟩
 rw [hg] at XI Qw bZ ⊢;obtain ⟨T,hT⟩:∃ T,vL p g (iq p.boxes.xs+1) p.boxes.xs=T:=⟨_,rfl⟩
 rw [hT] at bZ ⊢;obtain ⟨n',jD⟩:∃ n',n+639=n'+(iq p.boxes.xs+1)+10:=⟨n+639 - (iq p.boxes.xs+1) - 10,by omega⟩
 have hgc:=Hide.mk fun (mb ob pb gb bs:Nat) (hb:U5 mb ob pb gb bs) (M:AV) (H:Heap) (v:AV) (hv:ve H ob bs v p.boxes.xs) (hi:sU p g mb ob pb gb bs M H (.pure .nils) [])=>zkc XI hb (M:=M) (iq p.boxes.xs+1) n' H v p.boxes.xs (.pure .nils) [] (Nat.lt_succ_self _) (aP.refl _) IW hv (by rw [hT];simpa using bZ) hi;rw [<- jD,hT] at hgc;have IP:=XI.few;clear h jD hT hg XI;obtain ⟨bs,fs⟩:=p;have lT:bs.xs.length < 1000:=by have:bs.xs.length<=12:=nb;omega
 have pR:fs.xs.length<=60:=nf;simp only [Problem.cells,Jv g,List.map] at Qw;have MF:Hide (∀ (x:Int),0<=x->∀ H,zH (zu G (n+639)) H (.pure (.func 70 [])) [.pure ((Sl.mk false (zZ g)).pv aI 1),.pure (.int .i64 x)]=some (.val (.pure (.bool (g.contains x.toNat))))):=⟨fun x hx H=>by
  have:=ze (G:=G) (n:=n+639) (H:=H) (caps:=[]) (ps:=[(Sl.mk false (zZ g)).pv aI 1,.int .i64 x]) sh70 (e70 (n+637) (Sl.mk false (zZ g)) x (by rw [Sl.iW,Ez];omega));rw [Sl.iW,zfS hx] at this;exact this⟩
 clear nb nf ok IW;(repeat' first|simp [*,zb,c39,Problem.cells]|(apply za<;>intro _ h<;>try simp [-Nat.le_zero_eq] at h)|(show wpE 0 (zm ..) ..;refine zA ?_)|(refine zt fun v2 H2 fD aY aJ aK aL aM=>?_))
 refine zL [(5,6),(15,28)] (fun (a:Nat) env H=>env 15=.pure (.int .i64 a)/\a<=fs.xs.length/\2 < H.nx/\H.get 0=.cells true [.pure ((Sl.mk false (zZ g)).pv aI 1)]/\∃ M,H.get 2=.cells true [M]/\Hide (bL aI 1 H M (I1 fs.xs g a)/\∀ id,Names M id->id≠0/\id≠2)) (fun a=>fs.xs.length - a) 0 ?_ ?_ ?_ ?_
 .decide
 .refine ⟨by simp,by omega,by simp,by simp,.row 1 1 0 0,by simp,⟨.inr ⟨1,rfl,by simp [I1,jS,zq]⟩,fun id ⟨_,_,_,h⟩=>by simp at h;omega⟩⟩
 .simp only [zF];omega
 rintro a env H ⟨g15,ha,bX,h0,M,h2,hV⟩;have yo:=hV.h.1.one;have KU:=yo.1;have KW:=yo.2;have vS:0 < H.nx:=by omega
 have Ad:1 < H.nx:=by omega
 have XJ:(0:Nat)≠H.nx:=by omega
 have h2x:(2:Nat)≠H.nx:=by omega
 clear yo
 by_cases oK:a < fs.xs.length
 .have w2:IntKind.i64.wrap ((a:Int)+1)=(a+1:Nat):=by rw [wrap64 (by omega) (by omega)];omega
  have qh:(a:Int) < fs.xs.length:=by omega
  have fA:=zn7 (g:=g) oK;have hlen:=zp4 fs.xs g a;have Gs:=MF.h fs.xs[a].a (Rb.h _ (List.getElem_mem oK));obtain ⟨F,hF⟩:∃ F,fs.xs[a]=F:=⟨_,rfl⟩
  rw [hF] at fA Gs;obtain ⟨d1,d2,d3,da,db,dc,⟨d4,d5⟩,d6⟩:=F;simp only at Gs fA
  cases hq:g.contains da.toNat with
  | true =>
   rw [hq,if_pos rfl] at fA;rw [hq] at Gs;have wF:=Hide.mk fA;clear fA hq;(repeat' first|simp [*,zb,Fact.cells,Span.cells]|(apply za<;>intro _ h<;>try simp [-Nat.le_zero_eq] at h)|(show wpE 0 (zm ..) ..;refine zA ?_)|(refine zt fun v2 H2 fD aY aJ aK aL aM=>?_));have yU:∀ id,Names M id->id < H.nx:=fun id h=>hV.h.1.names_lt h
   refine zmw (f:=aI) (sz:=1) (l:=I1 fs.xs g a) (bL.alloc (hV.h.1.keep (H':=(H.alloc _).set H.nx _) fun id ⟨m,hm⟩=>by
    have:=yU id ⟨_,_,_,hm⟩;rw [zf (by omega),zg this]) _) (fun _=>rfl) (by decide) (fun _=>rfl) (by unfold zo;omega) ⟨(a:Int),by simp,?_⟩
   intro V4 H4 nK wG;have tY:∀ c,c < H.nx->¬ Names M c->H4.get c=H.get c:=fun c hc hn=>by rw [wG.get c (by rw [rC,mi,rC];omega) hn,zg (by rw [mi,rC];omega),zf (by omega),zg hc]
   have k0:H4.get 0=.cells true [.pure ((Sl.mk false (zZ g)).pv aI 1)]:=by rw [tY 0 vS (fun hn=>(hV.h.2 0 hn).1 rfl)];exact h0
   have k2:H4.get 2=.cells true [M]:=by rw [tY 2 bX (fun hn=>(hV.h.2 2 hn).2 rfl)];exact h2
   have gn:2 < H4.nx:=by have:=wG.nx;rw [rC,mi,rC] at this;omega
   have xh:Hide (bL aI 1 H4 V4 (I1 fs.xs g (a+1))/\∀ id,Names V4 id->H.nx < id):=⟨by rw [wF.h];exact nK.1,fun id hn=>by have:=wG.new id hn;rw [rC,mi,rC] at this;omega⟩
   have o4:=nK.1.one;have Q5:=o4.1;have Q7:=o4.2;clear nK wG o4 hV tY h0 h2;(repeat' first|simp [*,zb]|(apply za<;>intro _ h<;>try simp [-Nat.le_zero_eq] at h)|(show wpE 0 (zm ..) ..;refine zA ?_)|(refine zt fun v2 H2 fD aY aJ aK aL aM=>?_))
   refine ⟨a+1,by omega,by omega,by omega,⟨xh.h.1.keep fun id ⟨m,hm⟩=>?_,fun id hn=>by have:=xh.h.2 id hn;omega⟩⟩
   have h8:=xh.h.2 id ⟨_,_,_,hm⟩;exact zf (by omega)
  | false =>
   rw [hq,if_neg (by simp)] at fA;rw [hq] at Gs;have wF:=Hide.mk fA;have M5:Hide (∀ o1 o2,bL aI 1 ((H.alloc o1).set H.nx o2) M (I1 fs.xs g (a+1))):=⟨fun o1 o2=>by
    rw [wF.h];exact hV.h.1.keep fun id ⟨m,hm⟩=>by
     have:=hV.h.1.names_lt (⟨_,_,_,hm⟩:Names M id);rw [zf (by omega),zg this]⟩
   clear fA hq;(repeat' first|simp [*,zb,Fact.cells,Span.cells]|(apply za<;>intro _ h<;>try simp [-Nat.le_zero_eq] at h)|(show wpE 0 (zm ..) ..;refine zA ?_)|(refine zt fun v2 H2 fD aY aJ aK aL aM=>?_));exact ⟨a+1,by omega,by omega,by omega,by omega,⟨M5.h _ _,hV.h.2⟩⟩
 .have MW:a=fs.xs.length:=by omega
  subst MW;have hmU:I1 fs.xs g fs.xs.length=IJ fs.xs g:=rfl;rw [hmU] at hV;clear oK ha MF Rb hmU;(repeat' first|simp [*,zb]|(apply za<;>intro _ h<;>try simp [-Nat.le_zero_eq] at h)|(show wpE 0 (zm ..) ..;refine zA ?_)|(refine zt fun v2 H2 fD aY aJ aK aL aM=>?_))
  refine zka (ziT (n:=n+638) zg7 (zhs lT ?_))
  intro B H1 hB FN hnx1 ah aR;simp at hnx1;have ED:=ah (H.nx+1) (by simp);have wV:∀ j,j < H.nx->H1.get j=H.get j:=fun j h=>by
   rw [ah j (by simp;omega),zf (by omega),zg (by rw [rC];omega),zg h]
  have ko:H1.get H.nx=.cells true [.pure .nils]:=by rw [ah H.nx (by simp)];simp
  have kg:H1.get (H.nx+1)=.cells true [.func 73 (Av ⟨bs,fs⟩ 2 H.nx 0 (H.nx+1))]:=by rw [ED];simp [Av,Problem.cells]
  refine ⟨?_,?_⟩
  .unfold keeps;simp only;rw [ED,zn (by simp)];have:=znx 73 2 H.nx 0 (H.nx+1) ⟨bs,fs⟩;simp only [Av,Problem.cells] at this;simp [this]
  have gi:sU ⟨bs,fs⟩ g 2 H.nx 0 (H.nx+1) H1.nx M H1 (.pure .nils) [] :=
   ⟨by rw [wV 2 bX];exact h2,hV.h.1.keep fun id ⟨n,hn⟩=>wV id (hV.h.1.names_lt ⟨_,_,_,hn⟩),ko,aD.nil,by rw [wV 0 vS,Jv];exact h0,kg,fun id hn=>⟨by have:=hV.h.1.names_lt hn;omega,by have:=hV.h.1.names_lt hn;omega⟩,fun id ⟨_,_,_,h⟩=>by simp at h,Nat.le_refl _⟩
  have gb:U5 2 H.nx 0 (H.nx+1) H1.nx:=⟨by omega,by omega,by omega,by omega,by omega,by omega,by omega⟩
  have bg:ve H1 H.nx H1.nx B bs.xs:=zrt hB fun id h=>⟨by have:=aR id h;simp at this;omega,hB.names_lt h⟩
  have OW:=Hide.mk (hgc.h 2 H.nx 0 (H.nx+1) H1.nx gb M H1 B bg gi);have bG:=hB.one;have S9:=bG.1;have ho2:=bG.2;have SV:H.nx < H1.nx:=by omega
  clear hgc hB FN ah aR ED wV kg gi gb bg hV h0 h2 bG;(repeat' first|simp [*,zb]|(apply za<;>intro _ h<;>try simp [-Nat.le_zero_eq] at h)|(show wpE 0 (zm ..) ..;refine zA ?_)|(refine zt fun v2 H2 fD aY aJ aK aL aM=>?_))
  refine BI (n:=n+638) zlm (yl OW.h ?_)
  rintro H2 ⟨V2,o2⟩;have g2:=o2.at_;have Pq:=o2.gr;rw [List.nil_append] at Pq;have hn3:H.nx < H2.nx:=by have:=o2.same.nx;omega
  have bG:=Pq.1.one;have Ov:=bG.1;have ho4:=bG.2;obtain ⟨ids,jk⟩:=(Pq.res (n:=10) (fun _=>rfl))
  clear o2 OW Pq bG ko;(repeat' first|simp [*,zb]|(apply za<;>intro _ h<;>try simp [-Nat.le_zero_eq] at h)|(show wpE 0 (zm ..) ..;refine zA ?_)|(refine zt fun v2 H2 fD aY aJ aK aL aM=>?_));exact ⟨ids,jk⟩
end Go.Proofs.YtmmhnfghklppiaaGreat.Vm
