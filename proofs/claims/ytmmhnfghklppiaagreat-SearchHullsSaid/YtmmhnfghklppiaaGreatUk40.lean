/- search.fits: the walk through a tree, walked; CheckTree. search.fits and CheckTree: walked. search.refute: the tree of the guilty part, walked. Prove, CheckProof and CheckTree: the program's, walked. ref3.Fits, CheckTree, Against, Decide, CheckProof: walked. -/
import Derived.Test.YtmmhnfghklppiaaGreatUk25
import Derived.Test.YtmmhnfghklppiaaGreatUk28
import Derived.Test.YtmmhnfghklppiaaGreatUk26
import Derived.Test.YtmmhnfghklppiaaGreatUk31
import Derived.Test.YtmmhnfghklppiaaGreatUk17
import Derived.Test.YtmmhnfghklppiaaGreatUk38
import Derived.Test.YtmmhnfghklppiaaGreatUk39
import Derived.Test.YtmmhnfghklppiaaGreatUk30
import Derived.Test.YtmmhnfghklppiaaGreatUk37
namespace Go.Proofs.YtmmhnfghklppiaaGreat.Vm
open Go
set_option linter.unusedSimpArgs false
set_option linter.unusedVariables false
set_option maxHeartbeats 8000000
set_option maxRecDepth 4000
def JR (H:Heap) (nb:Nat) (v:AV) (l:List Box):Prop:=(∃ s:Sl Box,s.xs=l/\v=.pure (s.pv Box.cells 4))\/∃ id,v=.row id 4 0 l.length/\id≠nb/\H.get id=.cells true (zq Box.cells l)
def ny (nb wb:Nat) (p:Problem) (tree:Sl Node):List AV:=[.box nb 0,.pure (.ptr false [tree.pv Node.cells 4] 0),.pure (.ptr false p.cells 0),.box wb 0]
structure jH (nb:Nat) (H H':Heap) (a:Nat):Prop where
 nx:H.nx<=H'.nx
 get:∀ j,j < H.nx->j≠nb->H'.get j=H.get j
 at_:H'.get nb=.cells true [.pure (.int .i64 a)]
theorem jH.trans {nb:Nat} {H H1 H2:Heap} {a b:Nat} (h:jH nb H H1 a) (h':jH nb H1 H2 b):jH nb H H2 b :=
 ⟨Nat.le_trans h.nx h'.nx,fun j h1 h2=>(h'.get j (by have:=h.nx;omega) h2).trans (h.get j h1 h2),h'.at_⟩
theorem Nc:G.shared 94=true:=by decide
theorem zpq {p:Problem} (ok:ak p) {tree:Sl Node} (qx:tree.xs.length < 4000000000000000000) {nb wb m F:Nat} (hnw:nb < wb)
  (ih:∀ (H:Heap) (l:List Box) (a:Nat),iU l < m->aR l p.boxes.xs->Wf l->a<=tree.xs.length->H.get nb=.cells true [.pure (.int .i64 a)]->H.get wb=.cells true [.func 94 (ny nb wb p tree)] ->
   ∃ H',Vm.call G (F+6+2) (.fn 94) ([.pure ((Sl.mk false l).pv Box.cells 4)]++ny nb wb p tree) H=some (.pure (.bool (rX p.facts.xs tree.xs m l a).1),H')/\jH nb H H' (rX p.facts.xs tree.xs m l a).2)
  (H:Heap) (v:AV) (l:List Box) (a:Nat) (hm:iU l < m+1) (hs:aR l p.boxes.xs) (hw:Wf l) (hv:JR H nb v l) (ha:a<=tree.xs.length) (G7:H.get nb=.cells true [.pure (.int .i64 a)]) (uX:H.get wb=.cells true [.func 94 (ny nb wb p tree)]) :
  ∃ H',Vm.call G (F+6+2+1) (.fn 94) ([v]++ny nb wb p tree) H=some (.pure (.bool (rX p.facts.xs tree.xs (m+1) l a).1),H')/\jH nb H H' (rX p.facts.xs tree.xs (m+1) l a).2:=by
 have MV:=zo uX;have Tn:nb < H.nx:=by omega
 have Dw:nb≠H.nx:=by omega
 have JO:wb≠H.nx:=by omega
 have hnw2:nb≠wb:=by omega
 have Dh:l.length=p.boxes.xs.length:=hs.1;have WA:=ok.nb;have nf:=ok.nf;have main:∃ v' H',Vm.call G (F+6+2+1) (.fn 94) ([v]++ny nb wb p tree) H=some (v',H')/\(v'=.pure (.bool (rX p.facts.xs tree.xs (m+1) l a).1)/\jH nb H H' (rX p.facts.xs tree.xs (m+1) l a).2):=by
  refine F8 rfl g94 rfl ?_
  generalize hR:rX p.facts.xs tree.xs (m+1) l a=R;unfold rX at hR
  by_cases sw:a < tree.xs.length
  case neg =>
   have e:tree.xs[a]?=none:=List.getElem?_eq_none (by omega);rw [e] at hR;subst hR;have JE:¬ (a:Int) < tree.xs.length:=by omega
   have OB:(tree.xs.length:Int)<=a:=by omega
   have fU:jH nb H H a:=⟨Nat.le_refl _,fun _ _ _=>rfl,G7⟩
   clear ih;simp [*,zb,c94,ny]
  have e:tree.xs[a]?=some tree.xs[a]:=List.getElem?_eq_getElem sw;rw [e] at hR;simp only at hR;have JE:(a:Int) < tree.xs.length:=by omega
  have MW:¬ tree.xs.length<=a:=by omega
  have Nh:H.nx≠nb:=by omega
  have CQ:wb≠nb:=by omega
  have hwl2:H.nx≠wb:=by omega
  have w1:IntKind.i64.wrap ((a:Int)+1)=(a:Int)+1:=wrap64 (by omega) (by omega);obtain ⟨⟨df,dp,dx,dt⟩,hd⟩:∃ d,d=tree.xs[a]:=⟨_,rfl⟩
  have Js:=pR (k:=.i64) (f:=Node.cells) (sz:=4) (s:=tree) sw;rw [<- hd] at hR Js;simp only at hR;have w2:IntKind.i64.wrap ((p.facts.xs.length:Int) - 1)=(p.facts.xs.length:Int) - 1:=wrap64 (by omega) (by omega);have w3:IntKind.i64.wrap ((l.length:Int) - 1)=(l.length:Int) - 1:=wrap64 (by omega) (by omega);have hl12:l.length<=12:=by omega
  clear Dh WA;have iZ:∀ x y z H,zG (zt G (F+6+2)) H (.pure (.func 52 [])) [.pure (.int .i64 x),.pure (.int .i64 y),.pure (.int .i64 z)]=some (.val (.pure (.bool (nP x y z)))):=fun x y z H=>zf (G:=G) (n:=F+6+2) (H:=H) (caps:=[]) (ps:=[.int .i64 x,.int .i64 y,.int .i64 z]) sh52 (e52 (F+6+1) x y z);have fU:Hide (∀ o o',jH nb H (((H.alloc o).set H.nx o').set nb (.cells true [.pure (.int .i64 ((a:Int)+1))])) (a+1)):=⟨fun o o'=>⟨by simp,fun j h1 h2=>by rw [zg h2,zg (by omega),zi h1],zn (by simp;omega)⟩⟩
  by_cases Qa:df=-1
  case neg =>
   rw [if_pos Qa] at hR
   by_cases c1:0<=df/\df < p.facts.xs.length
   case neg =>
    have wK:nP df 0 ((p.facts.xs.length:Int) - 1)=false:=by
     unfold nP;rw [Bool.and_eq_false_iff,decide_eq_false_iff_not,decide_eq_false_iff_not];omega
    have jk:R=(false,a+1):=by
     rw [<- hR]
     by_cases c0:0<=df
     .have:¬ df < p.facts.xs.length:=fun h=>c1 ⟨c0,h⟩;simp [c0,this]
     .simp [c0]
    subst jk;have NP:=wK;rw [show (p.facts.xs.length:Int) - 1=(p.facts.xs.length:Int) - 1 from rfl] at NP;clear ih hR uX hv hd;(repeat' first|simp [*,zb,c94,ny,Problem.cells,Node.cells]|(apply za<;>intro _ h<;>try simp [-Nat.le_zero_eq] at h));exact fU.h _ _
   obtain ⟨k,rfl⟩:∃ k:Nat,df=k:=⟨df.toNat,by omega⟩
   have hk:k < p.facts.xs.length:=by omega
   have wK:nP (k:Int) 0 ((p.facts.xs.length:Int) - 1)=true:=by
    unfold nP;rw [Bool.and_eq_true,decide_eq_true_eq,decide_eq_true_eq];omega
   have l7:=pR (k:=.i64) (f:=Fact.cells) (sz:=9) (s:=p.facts) hk;rw [Int.toNat_natCast,getElem!_pos p.facts.xs k hk] at hR;have jk:R=(decide (dp=0)&&(decide (dx=0)&&(decide (dt=0)&&zD p.facts.xs[k] l)),a+1):=by
    rw [<- hR];simp [c1.1,c1.2]
   clear hR;have bQ:=Qk ok hs hw (List.getElem_mem hk)
   by_cases c2:dp=0
   case neg =>
    have Az:R=(false,a+1):=by rw [jk];simp [c2]
    subst Az;clear ih uX hv hd jk;(repeat' first|simp [*,zb,c94,ny,Problem.cells,Node.cells]|(apply za<;>intro _ h<;>try simp [-Nat.le_zero_eq] at h));exact fU.h _ _
   by_cases c3:dx=0
   case neg =>
    have Az:R=(false,a+1):=by rw [jk];simp [c3]
    subst Az;clear ih uX hv hd jk;(repeat' first|simp [*,zb,c94,ny,Problem.cells,Node.cells]|(apply za<;>intro _ h<;>try simp [-Nat.le_zero_eq] at h));exact fU.h _ _
   by_cases c4:dt=0
   case neg =>
    have Az:R=(false,a+1):=by rw [jk];simp [c4]
    subst Az;clear ih uX hv hd jk;(repeat' first|simp [*,zb,c94,ny,Problem.cells,Node.cells]|(apply za<;>intro _ h<;>try simp [-Nat.le_zero_eq] at h));exact fU.h _ _
   have Az:R=(zD p.facts.xs[k] l,a+1):=by rw [jk];simp [c2,c3,c4]
   subst Az;rcases hv with ⟨s,rfl,rfl⟩|⟨id,rfl,bC,hg⟩
   .have qd:=fun H=>zf (G:=G) (n:=F+6+2) (H:=H) (caps:=[]) (ps:=[.agg p.facts.xs[k].cells,s.pv Box.cells 4]) sh60 (e60 (F+3) p.facts.xs[k] s bQ);simp only [Fact.cells,Span.cells,List.map] at qd l7;clear ih uX hd jk bQ;generalize zD p.facts.xs[k] s.xs=B at *;(repeat' first|simp [*,zb,c94,ny,Problem.cells,Node.cells,Fact.cells,Span.cells]|(apply za<;>intro _ h<;>try simp [-Nat.le_zero_eq] at h));exact fU.h _ _
   .have qd:∀ H2:Heap,H2.get id=.cells true (zq Box.cells l)->zG (zt G (F+6+2)) H2 (.pure (.func 60 [])) [.pure (.agg p.facts.xs[k].cells),.row id 4 0 l.length]=some (.val (.pure (.bool (zD p.facts.xs[k] l)))):=fun H2 h=>by
     obtain ⟨s0,nU,BB⟩:=Ha (n:=10) (f:=Box.cells) (sz:=4) (fun _=>rfl) h rfl;subst nU;exact KH sh60 (.cons (.pure _) (.cons BB .nil)) (e60 (F+3) p.facts.xs[k] s0 bQ) rfl
    simp only [Fact.cells,Span.cells] at qd l7;have uw:=zo hg;have OM:id≠H.nx:=by omega
    clear ih uX hd jk bQ;generalize zD p.facts.xs[k] l=B at *;(repeat' first|simp [*,zb,c94,ny,Problem.cells,Node.cells,Fact.cells,Span.cells]|(apply za<;>intro _ h<;>try simp [-Nat.le_zero_eq] at h));exact fU.h _ _
  subst Qa;rw [if_neg (by simp)] at hR
  by_cases r0:0<=dp/\dp < l.length
  case neg =>
   have wK:nP dp 0 ((l.length:Int) - 1)=false:=by
    unfold nP;rw [Bool.and_eq_false_iff,decide_eq_false_iff_not,decide_eq_false_iff_not];omega
   rw [if_neg (fun h=>r0 ⟨h.1,h.2.1⟩)] at hR;subst hR;clear ih uX hd;rcases hv with ⟨s,rfl,rfl⟩|⟨id,rfl,bC,hg⟩
   ·(repeat' first|simp [*,zb,c94,ny,Problem.cells,Node.cells]|(apply za<;>intro _ h<;>try simp [-Nat.le_zero_eq] at h));exact fU.h _ _
   ·(repeat' first|simp [*,zb,c94,ny,Problem.cells,Node.cells]|(apply za<;>intro _ h<;>try simp [-Nat.le_zero_eq] at h));exact fU.h _ _
  have wK:nP dp 0 ((l.length:Int) - 1)=true:=by
   unfold nP;rw [Bool.and_eq_true,decide_eq_true_eq,decide_eq_true_eq];omega
  by_cases r1:0<=dx/\dx<=1
  case neg =>
   have G6:nP dx 0 1=false:=by
    unfold nP;rw [Bool.and_eq_false_iff,decide_eq_false_iff_not,decide_eq_false_iff_not];omega
   rw [if_neg (fun h=>r1 h.2.2)] at hR;subst hR;clear ih uX hd;rcases hv with ⟨s,rfl,rfl⟩|⟨id,rfl,bC,hg⟩
   ·(repeat' first|simp [*,zb,c94,ny,Problem.cells,Node.cells]|(apply za<;>intro _ h<;>try simp [-Nat.le_zero_eq] at h));exact fU.h _ _
   ·(repeat' first|simp [*,zb,c94,ny,Problem.cells,Node.cells]|(apply za<;>intro _ h<;>try simp [-Nat.le_zero_eq] at h));exact fU.h _ _
  have G6:nP dx 0 1=true:=by
   unfold nP;rw [Bool.and_eq_true,decide_eq_true_eq,decide_eq_true_eq];omega
  rw [if_pos ⟨r0.1,r0.2,r1.1,r1.2⟩] at hR;obtain ⟨i,rfl⟩:∃ i:Nat,dp=i:=⟨dp.toNat,by omega⟩
  obtain ⟨x,rfl⟩:∃ x:Nat,dx=x:=⟨dx.toNat,by omega⟩
  have hi:i < l.length:=by omega
  have rz:x < 2:=by omega
  rw [Int.toNat_natCast,Int.toNat_natCast,getElem!_pos l i hi] at hR;have xm:=aH.1 (Ed ok hs hw _ (List.getElem_mem hi));have wz:IntKind.i64.wrap 0=0:=by decide
  have wo:IntKind.i64.wrap 1=1:=by decide
  have hi20:nP 0 0 1=true:=by decide
  have hi21:nP 1 0 1=true:=by decide
  by_cases r2:(bA l[i] x).lo<=dt/\dt < (bA l[i] x).hi
  case neg =>
   rw [if_neg r2] at hR;subst hR;clear ih uX hd;have Aj:x=0\/x=1:=by omega
   rcases hv with ⟨s,rfl,rfl⟩|⟨id,rfl,bC,hg⟩
   .have ho:=GI (F+6+1);have Am:=pR (k:=.i64) (f:=Box.cells) (sz:=4) (s:=s) hi;rcases Aj with rfl|rfl
    .have r3:¬ (s.xs[i].x.lo<=dt/\dt < s.xs[i].x.hi):=r2
     by_cases r4:dt < s.xs[i].x.lo
     .clear r2 r3;(repeat' first|simp [*,zb,c94,ny,Problem.cells,Node.cells,Box.cells,Span.cells]|(apply za<;>intro _ h<;>try simp [-Nat.le_zero_eq] at h));exact fU.h _ _
     .have r5:s.xs[i].x.hi<=dt:=by omega
      clear r2 r3;(repeat' first|simp [*,zb,c94,ny,Problem.cells,Node.cells,Box.cells,Span.cells]|(apply za<;>intro _ h<;>try simp [-Nat.le_zero_eq] at h));exact fU.h _ _
    .have r3:¬ (s.xs[i].y.lo<=dt/\dt < s.xs[i].y.hi):=r2
     by_cases r4:dt < s.xs[i].y.lo
     .clear r2 r3;(repeat' first|simp [*,zb,c94,ny,Problem.cells,Node.cells,Box.cells,Span.cells]|(apply za<;>intro _ h<;>try simp [-Nat.le_zero_eq] at h));exact fU.h _ _
     .have r5:s.xs[i].y.hi<=dt:=by omega
      clear r2 r3;(repeat' first|simp [*,zb,c94,ny,Problem.cells,Node.cells,Box.cells,Span.cells]|(apply za<;>intro _ h<;>try simp [-Nat.le_zero_eq] at h));exact fU.h _ _
   .have ho:=Fq (F+6+1);have uw:=zo hg;have OM:id≠H.nx:=by omega
    have l0:=zC (own:=true) (f:=Box.cells) (sz:=4) (l:=l) (i:=i) (size:=1) (off:=0) (fun _=>rfl) hi (by decide);have l1:=zC (own:=true) (f:=Box.cells) (sz:=4) (l:=l) (i:=i) (size:=1) (off:=1) (fun _=>rfl) hi (by decide);have l2:=zC (own:=true) (f:=Box.cells) (sz:=4) (l:=l) (i:=i) (size:=1) (off:=2) (fun _=>rfl) hi (by decide);have l3:=zC (own:=true) (f:=Box.cells) (sz:=4) (l:=l) (i:=i) (size:=1) (off:=3) (fun _=>rfl) hi (by decide);rw [Nat.add_zero] at l0;have e3:i*4+2+1=i*4+3:=rfl;rcases Aj with rfl|rfl
    .have r3:¬ (l[i].x.lo<=dt/\dt < l[i].x.hi):=r2
     by_cases r4:dt < l[i].x.lo
     .clear r2 r3;(repeat' first|simp [*,zb,c94,ny,Problem.cells,Node.cells,Box.cells,Span.cells]|(apply za<;>intro _ h<;>try simp [-Nat.le_zero_eq] at h));exact fU.h _ _
     .have r5:l[i].x.hi<=dt:=by omega
      clear r2 r3;(repeat' first|simp [*,zb,c94,ny,Problem.cells,Node.cells,Box.cells,Span.cells]|(apply za<;>intro _ h<;>try simp [-Nat.le_zero_eq] at h));exact fU.h _ _
    .have r3:¬ (l[i].y.lo<=dt/\dt < l[i].y.hi):=r2
     by_cases r4:dt < l[i].y.lo
     .clear r2 r3;(repeat' first|simp [*,zb,c94,ny,Problem.cells,Node.cells,Box.cells,Span.cells]|(apply za<;>intro _ h<;>try simp [-Nat.le_zero_eq] at h));exact fU.h _ _
     .have r5:l[i].y.hi<=dt:=by omega
      clear r2 r3;(repeat' first|simp [*,zb,c94,ny,Problem.cells,Node.cells,Box.cells,Span.cells]|(apply za<;>intro _ h<;>try simp [-Nat.le_zero_eq] at h));exact fU.h _ _
  rw [if_pos r2] at hR;have hp:jE l i x dt:=⟨hi,rz,r2.1,r2.2⟩
  have m1:=U4 hp;have m2:=U5 hp;obtain ⟨z1,z2,z3,z4⟩:=Yt (hw _ (List.getElem_mem hi)) r2.1 r2.2;have k1:=(aR.refl l).set (i:=i) z3;have k2:=(aR.refl l).set (i:=i) z4;rw [List.set_getElem_self,<- He hi] at k1;rw [List.set_getElem_self,<- Hf hi] at k2;have j1:=hw.set (i:=i) z1;have j2:=hw.set (i:=i) z2;rw [<- He hi] at j1;rw [<- Hf hi] at j2;have i1:=Hide.mk fun (H:Heap)=>ih H (fM l i x dt) (a+1) (by omega) (k1.trans hs) j1 (by omega);have i2:=Hide.mk fun (H:Heap) (a':Nat)=>ih H (pV l i x dt) a' (by omega) (k2.trans hs) j2;have hle:=Wq p.facts.xs tree.xs m (fM l i x dt) (a+1) (by omega);have Le:pJ dt:=by
   have h1:=r2.1;have h2:=r2.2;clear hR i1 i2 hle;unfold pJ;unfold bA at h1 h2
   by_cases e:x=0
   .simp only [e,if_true] at h1 h2;omega
   .simp only [e,if_false] at h1 h2;omega
  have GX:(i:Int)=i:=rfl;obtain ⟨⟨b1,a1⟩,uV⟩:∃ r,rX p.facts.xs tree.xs m (fM l i x dt) (a+1)=r:=⟨_,rfl⟩
  rw [uV] at hR i1 hle;simp only at hR i1 hle;have CE:=hle.2;clear hle uV ih hp m1 m2 z1 z2 z3 z4 k1 k2 j1 j2;have CR:=uX;rcases hv with ⟨s,rfl,rfl⟩|⟨id,rfl,bC,hg⟩
  .have ho:=GI (F+6+1);have Am:=pR (k:=.i64) (f:=Box.cells) (sz:=4) (s:=s) hi;have M3:∀ H,zG (zt G (F+6+2)) H (.pure (.func 78 [])) [.pure (s.pv Box.cells 4),.pure (.int .i64 (i:Nat)),.pure (.int .i64 (x:Nat)),.pure (.int .i64 dt),.pure (.bool false)]=some (.val (.pure ((Sl.mk false (fM s.xs i x dt)).pv Box.cells 4))):=fun H=>zf (G:=G) (n:=F+6+2) (H:=H) (caps:=[]) (ps:=[s.pv Box.cells 4,.int .i64 i,.int .i64 x,.int .i64 dt,.bool false]) sh78 (e78 (F+6) s i x dt false hi rz (by omega) Le);have Xj:∀ H,zG (zt G (F+6+2)) H (.pure (.func 78 [])) [.pure (s.pv Box.cells 4),.pure (.int .i64 (i:Nat)),.pure (.int .i64 (x:Nat)),.pure (.int .i64 dt),.pure (.bool true)]=some (.val (.pure ((Sl.mk false (pV s.xs i x dt)).pv Box.cells 4))):=fun H=>zf (G:=G) (n:=F+6+2) (H:=H) (caps:=[]) (ps:=[s.pv Box.cells 4,.int .i64 i,.int .i64 x,.int .i64 dt,.bool true]) sh78 (e78 (F+6) s i x dt true hi rz (by omega) Le);generalize fM s.xs i x dt=L1 at *;generalize pV s.xs i x dt=L2 at *;have Aj:x=0\/x=1:=by omega
   clear rz r1;rcases Aj with rfl|rfl
   .have r3:s.xs[i].x.lo<=dt/\dt < s.xs[i].x.hi:=r2;have r4:¬ dt < s.xs[i].x.lo:=by omega
    have r5:¬ s.xs[i].x.hi<=dt:=by omega
    push_cast at M3 Xj
    clear r2 r3;(repeat' first|simp [*,zb,c94,ny,Problem.cells,Node.cells,Box.cells,Span.cells]|(apply za<;>intro _ h<;>try simp [-Nat.le_zero_eq] at h))
    refine Da (n:=F+6+1) Nc (AU (i1.h _ ?_ ?_) ?_)
    .rw [zn (by simp;omega)];push_cast;rfl
    .simp [uX,CQ,JO,MV]
    .intro H1 o1;have g1:=o1.at_;have gt:=o1.get H.nx (by simp) Nh;have gw:=o1.get wb (by simp;omega) CQ;have n1:=o1.nx;simp at n1;have f1:=(fU.h _ _).trans o1;have gt1:H1.get H.nx=.cells true [.pure (.int .i64 (-1)),.pure (.int .i64 i),.pure (.int .i64 0),.pure (.int .i64 dt)]:=by
      rw [gt,zg (by omega),zn (by simp)]
     have Es:H1.get wb=.cells true [.func 94 (ny nb wb p tree)]:=by
      rw [gw,zg (by omega),zg (by omega),zi MV];exact CR
     have vJ:H.nx < H1.nx:=by omega
     have Q8:nb < H1.nx:=by omega
     clear gt gw o1 uX CR G7 fU i1
     cases b1 with
     | false =>
      rw [if_neg (by simp)] at hR;subst hR;clear i2;simp [*,zb]
     | true =>
      rw [if_pos rfl] at hR;obtain ⟨R1,R2⟩:=R;have i3:=Hide.mk (i2.h H1 a1 CE g1 Es);rw [hR] at i3;clear i2 hR;(repeat' first|simp [*,zb]|(apply za<;>intro _ h<;>try simp [-Nat.le_zero_eq] at h))
      refine Da (n:=F+6+1) Nc (AU i3.h ?_)
      intro H2 o2;have f2:=f1.trans o2;clear o2 f1 i3;simp [*,zb]
   .have r3:s.xs[i].y.lo<=dt/\dt < s.xs[i].y.hi:=r2;have r4:¬ dt < s.xs[i].y.lo:=by omega
    have r5:¬ s.xs[i].y.hi<=dt:=by omega
    push_cast at M3 Xj
    clear r2 r3;(repeat' first|simp [*,zb,c94,ny,Problem.cells,Node.cells,Box.cells,Span.cells]|(apply za<;>intro _ h<;>try simp [-Nat.le_zero_eq] at h))
    refine Da (n:=F+6+1) Nc (AU (i1.h _ ?_ ?_) ?_)
    .rw [zn (by simp;omega)];push_cast;rfl
    .simp [uX,CQ,JO,MV]
    .intro H1 o1;have g1:=o1.at_;have gt:=o1.get H.nx (by simp) Nh;have gw:=o1.get wb (by simp;omega) CQ;have n1:=o1.nx;simp at n1;have f1:=(fU.h _ _).trans o1;have gt1:H1.get H.nx=.cells true [.pure (.int .i64 (-1)),.pure (.int .i64 i),.pure (.int .i64 1),.pure (.int .i64 dt)]:=by
      rw [gt,zg (by omega),zn (by simp)]
     have Es:H1.get wb=.cells true [.func 94 (ny nb wb p tree)]:=by
      rw [gw,zg (by omega),zg (by omega),zi MV];exact CR
     have vJ:H.nx < H1.nx:=by omega
     have Q8:nb < H1.nx:=by omega
     clear gt gw o1 uX CR G7 fU i1
     cases b1 with
     | false =>
      rw [if_neg (by simp)] at hR;subst hR;clear i2;simp [*,zb]
     | true =>
      rw [if_pos rfl] at hR;obtain ⟨R1,R2⟩:=R;have i3:=Hide.mk (i2.h H1 a1 CE g1 Es);rw [hR] at i3;clear i2 hR;(repeat' first|simp [*,zb]|(apply za<;>intro _ h<;>try simp [-Nat.le_zero_eq] at h))
      refine Da (n:=F+6+1) Nc (AU i3.h ?_)
      intro H2 o2;have f2:=f1.trans o2;clear o2 f1 i3;simp [*,zb]
  .have ho:=Fq (F+6+1);have uw:=zo hg;have OM:id≠H.nx:=by omega
   have M3:∀ H2:Heap,H2.get id=.cells true (zq Box.cells l)->zG (zt G (F+6+2)) H2 (.pure (.func 78 [])) [.row id 4 0 l.length,.pure (.int .i64 (i:Nat)),.pure (.int .i64 (x:Nat)),.pure (.int .i64 dt),.pure (.bool false)]=some (.val (.pure ((Sl.mk false (fM l i x dt)).pv Box.cells 4))):=fun H2 h=>by
    obtain ⟨s0,nU,BB⟩:=Ha (n:=10) (f:=Box.cells) (sz:=4) (fun _=>rfl) h rfl;subst nU;exact KH sh78 (.cons BB (.cons (.pure _) (.cons (.pure _) (.cons (.pure _) (.cons (.pure _) .nil))))) (e78 (F+6) s0 i x dt false hi rz (by omega) Le) (YY _)
   have Xj:∀ H2:Heap,H2.get id=.cells true (zq Box.cells l)->zG (zt G (F+6+2)) H2 (.pure (.func 78 [])) [.row id 4 0 l.length,.pure (.int .i64 (i:Nat)),.pure (.int .i64 (x:Nat)),.pure (.int .i64 dt),.pure (.bool true)]=some (.val (.pure ((Sl.mk false (pV l i x dt)).pv Box.cells 4))):=fun H2 h=>by
    obtain ⟨s0,nU,BB⟩:=Ha (n:=10) (f:=Box.cells) (sz:=4) (fun _=>rfl) h rfl;subst nU;exact KH sh78 (.cons BB (.cons (.pure _) (.cons (.pure _) (.cons (.pure _) (.cons (.pure _) .nil))))) (e78 (F+6) s0 i x dt true hi rz (by omega) Le) (YY _)
   have l0:=zC (own:=true) (f:=Box.cells) (sz:=4) (l:=l) (i:=i) (size:=1) (off:=0) (fun _=>rfl) hi (by decide);have l1:=zC (own:=true) (f:=Box.cells) (sz:=4) (l:=l) (i:=i) (size:=1) (off:=1) (fun _=>rfl) hi (by decide);have l2:=zC (own:=true) (f:=Box.cells) (sz:=4) (l:=l) (i:=i) (size:=1) (off:=2) (fun _=>rfl) hi (by decide);have l3:=zC (own:=true) (f:=Box.cells) (sz:=4) (l:=l) (i:=i) (size:=1) (off:=3) (fun _=>rfl) hi (by decide);rw [Nat.add_zero] at l0;have e3:i*4+2+1=i*4+3:=rfl;generalize fM l i x dt=L1 at *;generalize pV l i x dt=L2 at *;have Aj:x=0\/x=1:=by omega
   clear rz r1;rcases Aj with rfl|rfl
   .have r3:l[i].x.lo<=dt/\dt < l[i].x.hi:=r2;have r4:¬ dt < l[i].x.lo:=by omega
    have r5:¬ l[i].x.hi<=dt:=by omega
    push_cast at M3 Xj
    clear r2 r3;(repeat' first|simp [*,zb,c94,ny,Problem.cells,Node.cells,Box.cells,Span.cells]|(apply za<;>intro _ h<;>try simp [-Nat.le_zero_eq] at h))
    refine Da (n:=F+6+1) Nc (AU (i1.h _ ?_ ?_) ?_)
    .rw [zn (by simp;omega)];push_cast;rfl
    .simp [uX,CQ,JO,MV]
    .intro H1 o1;have g1:=o1.at_;have gt:=o1.get H.nx (by simp) Nh;have gw:=o1.get wb (by simp;omega) CQ;have n1:=o1.nx;simp at n1;have f1:=(fU.h _ _).trans o1;have gt1:H1.get H.nx=.cells true [.pure (.int .i64 (-1)),.pure (.int .i64 i),.pure (.int .i64 0),.pure (.int .i64 dt)]:=by
      rw [gt,zg (by omega),zn (by simp)]
     have Es:H1.get wb=.cells true [.func 94 (ny nb wb p tree)]:=by
      rw [gw,zg (by omega),zg (by omega),zi MV];exact CR
     have gi1:H1.get id=.cells true (zq Box.cells l):=by
      rw [o1.get id (by simp;omega) bC,zg (by omega),zg (by omega),zi uw];exact hg
     have Xk:id < H1.nx:=by omega
     have vJ:H.nx < H1.nx:=by omega
     have Q8:nb < H1.nx:=by omega
     clear gt gw o1 uX CR G7 fU i1 hg
     cases b1 with
     | false =>
      rw [if_neg (by simp)] at hR;subst hR;clear i2;simp [*,zb]
     | true =>
      rw [if_pos rfl] at hR;obtain ⟨R1,R2⟩:=R;have i3:=Hide.mk (i2.h H1 a1 CE g1 Es);rw [hR] at i3;clear i2 hR;(repeat' first|simp [*,zb]|(apply za<;>intro _ h<;>try simp [-Nat.le_zero_eq] at h))
      refine Da (n:=F+6+1) Nc (AU i3.h ?_)
      intro H2 o2;have f2:=f1.trans o2;clear o2 f1 i3;simp [*,zb]
   .have r3:l[i].y.lo<=dt/\dt < l[i].y.hi:=r2;have r4:¬ dt < l[i].y.lo:=by omega
    have r5:¬ l[i].y.hi<=dt:=by omega
    push_cast at M3 Xj
    clear r2 r3;(repeat' first|simp [*,zb,c94,ny,Problem.cells,Node.cells,Box.cells,Span.cells]|(apply za<;>intro _ h<;>try simp [-Nat.le_zero_eq] at h))
    refine Da (n:=F+6+1) Nc (AU (i1.h _ ?_ ?_) ?_)
    .rw [zn (by simp;omega)];push_cast;rfl
    .simp [uX,CQ,JO,MV]
    .intro H1 o1;have g1:=o1.at_;have gt:=o1.get H.nx (by simp) Nh;have gw:=o1.get wb (by simp;omega) CQ;have n1:=o1.nx;simp at n1;have f1:=(fU.h _ _).trans o1;have gt1:H1.get H.nx=.cells true [.pure (.int .i64 (-1)),.pure (.int .i64 i),.pure (.int .i64 1),.pure (.int .i64 dt)]:=by
      rw [gt,zg (by omega),zn (by simp)]
     have Es:H1.get wb=.cells true [.func 94 (ny nb wb p tree)]:=by
      rw [gw,zg (by omega),zg (by omega),zi MV];exact CR
     have gi1:H1.get id=.cells true (zq Box.cells l):=by
      rw [o1.get id (by simp;omega) bC,zg (by omega),zg (by omega),zi uw];exact hg
     have Xk:id < H1.nx:=by omega
     have vJ:H.nx < H1.nx:=by omega
     have Q8:nb < H1.nx:=by omega
     clear gt gw o1 uX CR G7 fU i1 hg
     cases b1 with
     | false =>
      rw [if_neg (by simp)] at hR;subst hR;clear i2;simp [*,zb]
     | true =>
      rw [if_pos rfl] at hR;obtain ⟨R1,R2⟩:=R;have i3:=Hide.mk (i2.h H1 a1 CE g1 Es);rw [hR] at i3;clear i2 hR;(repeat' first|simp [*,zb]|(apply za<;>intro _ h<;>try simp [-Nat.le_zero_eq] at h))
      refine Da (n:=F+6+1) Nc (AU i3.h ?_)
      intro H2 o2;have f2:=f1.trans o2;clear o2 f1 i3;simp [*,zb]
 obtain ⟨v',H',h1,rfl,h2⟩:=main;exact ⟨H',h1,h2⟩
theorem zkc {p:Problem} (ok:ak p) {tree:Sl Node} (qx:tree.xs.length < 4000000000000000000) {nb wb:Nat} (hnw:nb < wb):∀ (m n:Nat) (H:Heap) (v:AV) (l:List Box) (a:Nat),iU l < m->aR l p.boxes.xs->Wf l->JR H nb v l->a<=tree.xs.length->H.get nb=.cells true [.pure (.int .i64 a)]->H.get wb=.cells true [.func 94 (ny nb wb p tree)] ->
  ∃ H',Vm.call G (n+m+8) (.fn 94) ([v]++ny nb wb p tree) H=some (.pure (.bool (rX p.facts.xs tree.xs m l a).1),H')/\jH nb H H' (rX p.facts.xs tree.xs m l a).2
 | 0,n,H,v,l,a,hm,_,_,_,_,_,_=>absurd hm (Nat.not_lt_zero _)
 | m+1,n,H,v,l,a,hm,hs,hw,hv,ha,hn,hg=>by
  have:=zpq ok qx (m:=m) (F:=n+m) hnw (fun H l a hm hs hw ha hn hg=>zkc ok qx hnw m n H _ l a hm hs hw (.inl ⟨_,rfl,rfl⟩) ha hn hg) H v l a hm hs hw hv ha hn hg;exact this
theorem zkD {α:Type} {f:α->α->Bool}:∀ {l:List α},(∀ a∈l,f a a=true)->all2 f l l=true
 | [],_=>rfl
 | a::l,h=>by
  simp only [all2,Bool.and_eq_true];exact ⟨h a List.mem_cons_self,zkD fun b hb=>h b (List.mem_cons_of_mem _ hb)⟩
theorem zkY {α:Type} {f:α->List PV} {sz n:Nat} (hf:∀ a,all2 (PV.jm n) (f a) (f a)=true) (s:Sl α):PV.jm (n+1) (s.pv f sz) (s.pv f sz)=true:=by
 cases s with
 | nil=>rfl
 | mk h l =>
  simp only [Sl.pv,PV.jm,beq_self_eq_true,Bool.true_and]
  refine zkD fun e he=>?_
  obtain ⟨a,_,rfl⟩:=List.mem_map.1 he;exact hf a
theorem zrX (n:Nat) (b:Box):all2 (PV.jm (n+1)) b.cells b.cells=true:=by simp [Box.cells,Span.cells,all2,PV.jm,PV.jl]
theorem zpU (n:Nat) (b:Fact):all2 (PV.jm (n+1)) b.cells b.cells=true:=by simp [Fact.cells,Span.cells,all2,PV.jm,PV.jl]
theorem zpz (n:Nat) (b:Node):all2 (PV.jm (n+1)) b.cells b.cells=true:=by simp [Node.cells,all2,PV.jm,PV.jl]
theorem zrE {n:Nat} {h:Bool} {cs:List PV} {o:Nat} (hc:all2 (PV.jm n) cs cs=true):PV.jm (n+1) (.ptr h cs o) (.ptr h cs o)=true:=by simp [PV.jm,hc]
theorem zoY {h:Bool} {cs:List PV} {o:Nat} (hc:all2 (PV.jm 5) cs cs=true):AV.lX (.pure (.ptr h cs o)) (.pure (.ptr h cs o))=true:=zrE (n:=5) hc
theorem TG (i o:Nat):AV.lX (.box i o) (.box i o)=true:=by simp [AV.lX]
theorem zkf {f:Nat} {cs:List AV} (h:all2 AV.lX cs cs=true):FR [.func f cs] [.func f cs]=true:=by simp [FR,h]
theorem zjL (p:Problem):AV.lX (.pure (.ptr false p.cells 0)) (.pure (.ptr false p.cells 0))=true:=by
 have h2:=zkY (n:=4) (sz:=4) (zrX 3) p.boxes;have h3:=zkY (n:=4) (sz:=9) (zpU 3) p.facts
 refine zoY ?_
 simp only [Problem.cells,all2];rw [h2,h3];rfl
theorem zoy (f nb wb:Nat) (p:Problem) (tree:Sl Node):FR [.func f (ny nb wb p tree)] [.func f (ny nb wb p tree)]=true:=by
 have h1:=zkY (n:=4) (sz:=4) (zpz 3) tree
 refine zkf ?_
 simp only [ny,all2];rw [TG,TG,zjL,zoY (by simp only [all2];rw [h1];rfl)];rfl
@[simp] theorem zu3 (f i o:Nat) (l:List AV):KR f (.box i o::l)=.func f (.box i o::l):=rfl
theorem zhv {n:Nat} {H:Heap} {s:Sl Box} {k:AV->Heap->Prop} (hl:s.xs.length < 1000)
  (hk:∀ v' H',bP Box.cells 4 H' v' s.xs->isNil .slice v'=some s.isNil->H.nx<=H'.nx->(∀ id,id < H.nx->H'.get id=H.get id)->(∀ id,Names v' id->H.nx<=id)->k v' H') :
  ∃ v H',Vm.call G (n+1) (.fn 79) [.pure (s.pv Box.cells 4)] H=some (v,H')/\k v H':=by
 refine ziq (f:=Box.cells) (sz:=4) (bytes:=32) (l:=s.xs) (b:=s.isNil) (fun _=>rfl) g79 ?_ ?_ (fun h=>?_) (fun _=>rfl) (by decide) (fun _=>rfl) ?_ hk
 .exact J8 (f:=Box.cells) (sz:=4) (fun _=>rfl) _
 .simp
 .cases s with
  | nil=>rfl
  | mk h l=>simp [Sl.isNil] at h
 .simp only [zu];omega
theorem zrF {H:Heap} {v:AV} {l:List Box} {nb:Nat} (h:bP Box.cells 4 H v l) (hn:∀ id,Names v id->id≠nb):JR H nb v l:=by
 rcases h with ⟨rfl,rfl⟩|⟨id,rfl,hg⟩
 .exact .inl ⟨.nil,rfl,rfl⟩
 .exact .inr ⟨id,rfl,hn id ⟨_,_,_,rfl⟩,hg⟩
theorem sh46:G.shared 46=false:=by decide
theorem e46 (n:Nat) (p:Problem) (ok:ak p) (tree:Sl Node) (qx:tree.xs.length < 4000000000000000000) (J9:iU p.boxes.xs<=600):zF G (n+640) 46 [.agg p.cells,tree.pv Node.cells 4]=some (.bool (GD p.facts.xs p.boxes.xs tree.xs)):=by
 refine zy (zx _) rfl g46 rfl ?_
 have nb:=ok.nb;have JO:=xX ok;generalize hR:GD p.facts.xs p.boxes.xs tree.xs=R;have hH:=Hide.mk hR;have hl:p.boxes.xs.length < 1000:=by omega
 clear hR;obtain ⟨n',jc⟩:∃ n',n+639=n'+(iU p.boxes.xs+1)+8:=⟨n+639 - (iU p.boxes.xs+1) - 8,by omega⟩
 have Q9:=Hide.mk (fun (H:Heap) (v:AV) (nb wb:Nat) (h:nb < wb) (h1:JR H nb v p.boxes.xs)=>zkc ok qx h (iU p.boxes.xs+1) n' H v p.boxes.xs 0 (Nat.lt_succ_self _) (aR.refl _) JO h1 (Nat.zero_le _));rw [<- jc] at Q9;clear jc;(repeat' first|simp [*,zb,c46,Problem.cells]|(apply za<;>intro _ h<;>try simp [-Nat.le_zero_eq] at h))
 refine zka (ziT (n:=n+638) zg2 (zhv hl ?_))
 intro B H1 hB GN bU ah aS;have Ag:=ah 1 (by simp);have k0:H1.get 0=.cells true [.pure (.int .i64 0)]:=by rw [ah 0 (by simp)];simp
 have k1:H1.get 1=.cells true [.func 94 (ny 0 1 p tree)]:=by rw [Ag];simp [ny,Problem.cells]
 refine ⟨?_,?_⟩
 .unfold keeps;simp only;rw [Ag,zn (by simp)];have:=zoy 94 0 1 p tree;simp only [ny,Problem.cells] at this;simp [this]
 have KI:JR H1 0 B p.boxes.xs:=zrF hB fun id h=>by have:=aS id h;simp at this;omega
 have Ni:=Q9.h H1 B 0 1 (by decide) KI k0 k1;have nW:GD p.facts.xs p.boxes.xs tree.xs=R:=hH.h;unfold GD at nW;obtain ⟨⟨b1,a1⟩,uV⟩:∃ r,rX p.facts.xs tree.xs (iU p.boxes.xs+1) p.boxes.xs 0=r:=⟨_,rfl⟩
 rw [uV] at Ni nW;simp only at Ni nW;have vJ:1 < H1.nx:=by simp at bU;omega
 have bn:=hB.one;have UR:=bn.1;have ho2:=bn.2;have Xl:=Hide.mk Ni;clear Q9 Ni hB GN bU ah aS Ag KI uV hH;(repeat' first|simp [*,zb]|(apply za<;>intro _ h<;>try simp [-Nat.le_zero_eq] at h))
 refine Da (n:=n+638) Nc (AU Xl.h ?_)
 intro H2 o2;have g2:=o2.at_;have n2:=o2.nx;have IZ:0 < H2.nx:=by omega
 clear o2 Xl k0 k1
 cases b1 with
 | false =>
  have hR:R=false:=by rw [<- nW];rfl
  subst hR;simp [*,zb]
 | true =>
  have hR:R=decide (a1=tree.xs.length):=by rw [<- nW];rfl
  have Wx:decide ((a1:Int)=tree.xs.length)=decide (a1=tree.xs.length):=by rw [decide_eq_decide];omega
  subst hR;simp [*,zb]
theorem zlD {α:Type} {f:α->List PV} {sz bytes:Nat} {H:Heap} {v b:AV} {l:List α} {k:AV->Heap->Prop} {u} (hv:bP f sz H v l) (hf:∀ a,(f a).length=sz) (h0:0 < sz) (bn:∀ a,(f a).all PV.one=true)
  (hm:(l.length+1)*sz<=zu/\(l.length+1)*bytes<=zu)
  (hk:appG f (zM H sz b) (fun a=>∀ v' H',aC f sz H' v' (l++[a])->After v H v' H'->k v' H') .mk):wpE 0 (zh H sz bytes v b) H k u:=by
 obtain ⟨a,hb,hk⟩:=hk;have ho:=U0 _ (bn a);rcases hv with ⟨rfl,rfl⟩|⟨i,rfl,hg⟩
 .exact Fp aC.nil hf h0 bn hm ⟨a,hb,hk⟩
 .have hlen:=DX hf l;have vH:¬ (0*sz+(l.length+1)*sz<=(zq f l).length):=by rw [hlen,Nat.add_mul];omega
  have h5:zh H sz bytes (.row i sz 0 l.length) b=some (.upd (.row H.nx sz 0 (l.length+1)) ((H.set i .dead).alloc (.cells true (zq f l++(f a).map .pure)))):=by
   simp only [zh,hb,ho,hg];simp only [Bool.not_true,Bool.false_eq_true,if_false,if_true];rw [if_neg vH];simp only [true_and];rw [if_pos ⟨hlen.symm,hm⟩]
  rw [h5,Lp]
  refine hk _ _ ⟨.inr ⟨H.nx,by simp,?_⟩,fun h=>by simp at h⟩ ⟨Nat.le_succ _,fun id hl hn=>?_,fun id ⟨_,_,_,h⟩=>?_⟩
  .have:(H.set i .dead).nx=H.nx:=rfl;rw [<- this,F7,G9,UZ]
  .rw [zi (by exact hl),zg];intro e;subst e;exact hn ⟨_,_,_,rfl⟩
  .simp at h;omega
def JS (fs:List Fact) (g:List Nat) (a:Nat):List Int:=(jQ a).filter fun k=>g.contains (fs[k.toNat]!).a.toNat
theorem zqt (a:Nat):jQ (a+1)=jQ a++[(a:Int)]:=by
 unfold jQ;rw [List.range_succ,List.map_append];rfl
theorem znV {fs:List Fact} {g:List Nat} {a:Nat} (h:a < fs.length):JS fs g (a+1)=if g.contains fs[a].a.toNat then JS fs g a++[(a:Int)] else JS fs g a:=by
 unfold JS;rw [zqt,List.filter_append];simp only [List.filter_cons,List.filter_nil,Int.toNat_natCast];have e:fs[a]! = fs[a]:=getElem!_pos fs a h;simp only [e]
 split<;>simp
theorem zpl (fs:List Fact) (g:List Nat) (a:Nat):(JS fs g a).length<=a:=by
 have:=List.length_filter_le (fun k=>g.contains (fs[k.toNat]!).a.toNat) (jQ a);rwa [Ku] at this
theorem jX.grow {p:Problem} {gs:List (List Nat)} {k:Nat} (h:jX p gs k):JP p gs[k]! := by
 have hm:gs[k]! ∈ gs:=by rw [getElem!_pos gs k h.lt];exact List.getElem_mem h.lt
 have mg:=h.pos hm;obtain ⟨m,hc,wJ⟩:=h.cls;have rG:=HY m p.boxes.xs.length;rw [<- wJ] at rG;exact ⟨h.ok,fun e=>by rw [e] at mg;simp at mg,(rG.2 _ hm).2,by have:=(rG.2 _ hm).1;have:=h.ok.nb;omega⟩
theorem zro {H:Heap} {v:AV} {l:List Box} {ob bs:Nat} (h:bP Box.cells 4 H v l) (hn:∀ id,Names v id->id≠ob/\id < bs):wm H ob bs v l:=by
 rcases h with ⟨rfl,rfl⟩|⟨id,rfl,hg⟩
 .exact .inl ⟨.nil,rfl,rfl⟩
 .have:=hn id ⟨_,_,_,rfl⟩;exact .inr ⟨id,rfl,this.1,this.2,hg⟩
def OO (p:Problem) (gs:List (List Nat)) (k:Nat):List Node:=xk p gs[k]! (iU p.boxes.xs+1) p.boxes.xs
theorem zn9 (f mb ob pb gb:Nat) (p:Problem):FR [.func f (CP p mb ob pb gb)] [.func f (CP p mb ob pb gb)]=true:=by
 refine zkf ?_
 simp only [CP,all2];rw [TG,TG,TG,TG,zjL];rfl
theorem sh39:G.shared 39=false:=by decide
theorem e39 (n:Nat) (p:Problem) (gs:List (List Nat)) (k:Nat) (h:jX p gs k) (J9:iU p.boxes.xs<=600) (fF:(OO p gs k).length<=30000000):zF G (n+640) 39 [.agg p.cells]=some ((Sl.of (OO p gs k)).pv Node.cells 4):=by
 refine zy (zx _) rfl g39 rfl ?_
 unfold OO at fF ⊢;have ZG:=h.grow;have ok:=h.ok;have nb:=ok.nb;have nf:=ok.nf;have Ez:=xX ok;have R7:=fun H=>zf (G:=G) (n:=n+639) (H:=H) (caps:=[]) (ps:=[.agg p.cells]) sh72 (e72 (n+587) p gs k h);have TE:Hide (∀ f∈p.facts.xs,0<=f.a):=⟨fun f hf=>by have:=(vR f _).1 (ok.fact f hf);omega⟩
 obtain ⟨g,hg⟩:∃ g,gs[k]! = g:=⟨_,rfl⟩
 rw [hg] at ZG R7 fF ⊢;obtain ⟨T,hT⟩:∃ T,xk p g (iU p.boxes.xs+1) p.boxes.xs=T:=⟨_,rfl⟩
 rw [hT] at fF ⊢;obtain ⟨n',jc⟩:∃ n',n+639=n'+(iU p.boxes.xs+1)+10:=⟨n+639 - (iU p.boxes.xs+1) - 10,by omega⟩
 have hgc:=Hide.mk fun (mb ob pb gb bs:Nat) (hb:Xa mb ob pb gb bs) (M:AV) (H:Heap) (v:AV) (hv:wm H ob bs v p.boxes.xs) (hi:uu p g mb ob pb gb bs M H (.pure .nils) [])=>zj1 ZG hb (M:=M) (iU p.boxes.xs+1) n' H v p.boxes.xs (.pure .nils) [] (Nat.lt_succ_self _) (aR.refl _) Ez hv (by rw [hT];simpa using fF) hi;rw [<- jc,hT] at hgc;have JM:=ZG.few;clear h jc hT hg ZG;obtain ⟨bs,fs⟩:=p;have ES:bs.xs.length < 1000:=by have:bs.xs.length<=12:=nb;omega
 have qd:fs.xs.length<=60:=nf;simp only [Problem.cells,Kv g,List.map] at R7;have NQ:Hide (∀ (x:Int),0<=x->∀ H,zG (zt G (n+639)) H (.pure (.func 70 [])) [.pure ((Sl.mk false (zL g)).pv aF 1),.pure (.int .i64 x)]=some (.val (.pure (.bool (g.contains x.toNat))))):=⟨fun x hx H=>by
  have:=zf (G:=G) (n:=n+639) (H:=H) (caps:=[]) (ps:=[(Sl.mk false (zL g)).pv aF 1,.int .i64 x]) sh70 (e70 (n+637) (Sl.mk false (zL g)) x (by rw [Sl.bL,z8];omega));rw [Sl.bL,zfK hx] at this;exact this⟩
 clear nb nf ok Ez;(repeat' first|simp [*,zb,c39,Problem.cells]|(apply za<;>intro _ h<;>try simp [-Nat.le_zero_eq] at h)|(show wpE 0 (zh ..) ..;refine zm ?_)|(refine ze fun v2 H2 aV aD ae af ai aj=>?_))
 refine zA [(5,6),(15,28)] (fun (a:Nat) env H=>env 15=.pure (.int .i64 a)/\a<=fs.xs.length/\2 < H.nx/\H.get 0=.cells true [.pure ((Sl.mk false (zL g)).pv aF 1)]/\∃ M,H.get 2=.cells true [M]/\Hide (bP aF 1 H M (JS fs.xs g a)/\∀ id,Names M id->id≠0/\id≠2)) (fun a=>fs.xs.length - a) 0 ?_ ?_ ?_ ?_
 .decide
 .refine ⟨by simp,by omega,by simp,by simp,.row 1 1 0 0,by simp,⟨.inr ⟨1,rfl,by simp [JS,jQ,zq]⟩,fun id ⟨_,_,_,h⟩=>by simp at h;omega⟩⟩
 .simp only [zz];omega
 rintro a env H ⟨g15,ha,bU,h0,M,h2,hV⟩;have wL:=hV.h.1.one;have JA:=wL.1;have JB:=wL.2;have qU:0 < H.nx:=by omega
 have vJ:1 < H.nx:=by omega
 have ZH:(0:Nat)≠H.nx:=by omega
 have h2x:(2:Nat)≠H.nx:=by omega
 clear wL
 by_cases jT:a < fs.xs.length
 .have w2:IntKind.i64.wrap ((a:Int)+1)=(a+1:Nat):=by rw [wrap64 (by omega) (by omega)];omega
  have jM:(a:Int) < fs.xs.length:=by omega
  have bu:=znV (g:=g) jT;have hlen:=zpl fs.xs g a;have HZ:=NQ.h fs.xs[a].a (TE.h _ (List.getElem_mem jT));obtain ⟨F,hF⟩:∃ F,fs.xs[a]=F:=⟨_,rfl⟩
  rw [hF] at bu HZ;obtain ⟨d1,d2,d3,da,db,dc,⟨d4,d5⟩,d6⟩:=F;simp only at HZ bu
  cases hq:g.contains da.toNat with
  | true =>
   rw [hq,if_pos rfl] at bu;rw [hq] at HZ;have xy:=Hide.mk bu;clear bu hq;(repeat' first|simp [*,zb,Fact.cells,Span.cells]|(apply za<;>intro _ h<;>try simp [-Nat.le_zero_eq] at h)|(show wpE 0 (zh ..) ..;refine zm ?_)|(refine ze fun v2 H2 aV aD ae af ai aj=>?_));have Dw:∀ id,Names M id->id < H.nx:=fun id h=>hV.h.1.names_lt h
   refine zlD (f:=aF) (sz:=1) (l:=JS fs.xs g a) (bP.alloc (hV.h.1.keep (H':=(H.alloc _).set H.nx _) fun id ⟨m,hm⟩=>by
    have:=Dw id ⟨_,_,_,hm⟩;rw [zg (by omega),zi this]) _) (fun _=>rfl) (by decide) (fun _=>rfl) (by unfold zu;omega) ⟨(a:Int),by simp,?_⟩
   intro V4 H4 j5 xz;have uR:∀ c,c < H.nx->¬ Names M c->H4.get c=H.get c:=fun c hc hn=>by rw [xz.get c (by rw [qp,lM,qp];omega) hn,zi (by rw [lM,qp];omega),zg (by omega),zi hc]
   have k0:H4.get 0=.cells true [.pure ((Sl.mk false (zL g)).pv aF 1)]:=by rw [uR 0 qU (fun hn=>(hV.h.2 0 hn).1 rfl)];exact h0
   have k2:H4.get 2=.cells true [M]:=by rw [uR 2 bU (fun hn=>(hV.h.2 2 hn).2 rfl)];exact h2
   have gn:2 < H4.nx:=by have:=xz.nx;rw [qp,lM,qp] at this;omega
   have wM:Hide (bP aF 1 H4 V4 (JS fs.xs g (a+1))/\∀ id,Names V4 id->H.nx < id):=⟨by rw [xy.h];exact j5.1,fun id hn=>by have:=xz.new id hn;rw [qp,lM,qp] at this;omega⟩
   have o4:=j5.1.one;have Tq:=o4.1;have Tt:=o4.2;clear j5 xz o4 hV uR h0 h2;(repeat' first|simp [*,zb]|(apply za<;>intro _ h<;>try simp [-Nat.le_zero_eq] at h)|(show wpE 0 (zh ..) ..;refine zm ?_)|(refine ze fun v2 H2 aV aD ae af ai aj=>?_))
   refine ⟨a+1,by omega,by omega,by omega,⟨wM.h.1.keep fun id ⟨m,hm⟩=>?_,fun id hn=>by have:=wM.h.2 id hn;omega⟩⟩
   have h8:=wM.h.2 id ⟨_,_,_,hm⟩;exact zg (by omega)
  | false =>
   rw [hq,if_neg (by simp)] at bu;rw [hq] at HZ;have xy:=Hide.mk bu;have Og:Hide (∀ o1 o2,bP aF 1 ((H.alloc o1).set H.nx o2) M (JS fs.xs g (a+1))):=⟨fun o1 o2=>by
    rw [xy.h];exact hV.h.1.keep fun id ⟨m,hm⟩=>by
     have:=hV.h.1.names_lt (⟨_,_,_,hm⟩:Names M id);rw [zg (by omega),zi this]⟩
   clear bu hq;(repeat' first|simp [*,zb,Fact.cells,Span.cells]|(apply za<;>intro _ h<;>try simp [-Nat.le_zero_eq] at h)|(show wpE 0 (zh ..) ..;refine zm ?_)|(refine ze fun v2 H2 aV aD ae af ai aj=>?_));exact ⟨a+1,by omega,by omega,by omega,by omega,⟨Og.h _ _,hV.h.2⟩⟩
 .have Gp:a=fs.xs.length:=by omega
  subst Gp;have hmU:JS fs.xs g fs.xs.length=JD fs.xs g:=rfl;rw [hmU] at hV;clear jT ha NQ TE hmU;(repeat' first|simp [*,zb]|(apply za<;>intro _ h<;>try simp [-Nat.le_zero_eq] at h)|(show wpE 0 (zh ..) ..;refine zm ?_)|(refine ze fun v2 H2 aV aD ae af ai aj=>?_))
  refine zka (ziT (n:=n+638) zg2 (zhv ES ?_))
  intro B H1 hB GN hnx1 ah aS;simp at hnx1;have Ag:=ah (H.nx+1) (by simp);have xO:∀ j,j < H.nx->H1.get j=H.get j:=fun j h=>by
   rw [ah j (by simp;omega),zg (by omega),zi (by rw [qp];omega),zi h]
  have ko:H1.get H.nx=.cells true [.pure .nils]:=by rw [ah H.nx (by simp)];simp
  have kg:H1.get (H.nx+1)=.cells true [.func 73 (CP ⟨bs,fs⟩ 2 H.nx 0 (H.nx+1))]:=by rw [Ag];simp [CP,Problem.cells]
  refine ⟨?_,?_⟩
  .unfold keeps;simp only;rw [Ag,zn (by simp)];have:=zn9 73 2 H.nx 0 (H.nx+1) ⟨bs,fs⟩;simp only [CP,Problem.cells] at this;simp [this]
  have gi:uu ⟨bs,fs⟩ g 2 H.nx 0 (H.nx+1) H1.nx M H1 (.pure .nils) [] :=
   ⟨by rw [xO 2 bU];exact h2,hV.h.1.keep fun id ⟨n,hn⟩=>xO id (hV.h.1.names_lt ⟨_,_,_,hn⟩),ko,aC.nil,by rw [xO 0 qU,Kv];exact h0,kg,fun id hn=>⟨by have:=hV.h.1.names_lt hn;omega,by have:=hV.h.1.names_lt hn;omega⟩,fun id ⟨_,_,_,h⟩=>by simp at h,Nat.le_refl _⟩
  have gb:Xa 2 H.nx 0 (H.nx+1) H1.nx:=⟨by omega,by omega,by omega,by omega,by omega,by omega,by omega⟩
  have bg:wm H1 H.nx H1.nx B bs.xs:=zro hB fun id h=>⟨by have:=aS id h;simp at this;omega,hB.names_lt h⟩
  have KC:=Hide.mk (hgc.h 2 H.nx 0 (H.nx+1) H1.nx gb M H1 B bg gi);have bn:=hB.one;have UR:=bn.1;have ho2:=bn.2;have IZ:H.nx < H1.nx:=by omega
  clear hgc hB GN ah aS Ag xO kg gi gb bg hV h0 h2 bn;(repeat' first|simp [*,zb]|(apply za<;>intro _ h<;>try simp [-Nat.le_zero_eq] at h)|(show wpE 0 (zh ..) ..;refine zm ?_)|(refine ze fun v2 H2 aV aD ae af ai aj=>?_))
  refine Da (n:=n+638) zlq (AU KC.h ?_)
  rintro H2 ⟨V2,o2⟩;have g2:=o2.at_;have Q4:=o2.gr;rw [List.nil_append] at Q4;have hn3:H.nx < H2.nx:=by have:=o2.same.nx;omega
  have bn:=Q4.1.one;have Lm:=bn.1;have ho4:=bn.2;obtain ⟨ids,iw⟩:=(Q4.res (n:=10) (fun _=>rfl))
  clear o2 KC Q4 bn ko;(repeat' first|simp [*,zb]|(apply za<;>intro _ h<;>try simp [-Nat.le_zero_eq] at h)|(show wpE 0 (zh ..) ..;refine zm ?_)|(refine ze fun v2 H2 aV aD ae af ai aj=>?_));exact ⟨ids,iw⟩
theorem zjr {α:Type} {f:α->List PV} {sz bytes id:Nat} {H:Heap} {b:AV} {l m:List α} {k:AV->Heap->Prop} {u} (aB:H.get id=.cells true (zq f l)) (hf:∀ a,(f a).length=sz) (h0:0 < sz) (bn:∀ a,(f a).all PV.one=true)
  (hb:zM H sz b=some (zq f m,m.length)) (hm:(l.length+m.length)*sz<=zu/\(l.length+m.length)*bytes<=zu)
  (hk:∀ id' H',H'.get id'=.cells true (zq f (l++m))->H.nx<=H'.nx->(∀ i,i < H.nx->i≠id->H'.get i=H.get i)->(id'=id\/H.nx<=id')->k (.row id' sz 0 (l.length+m.length)) H'):wpE 0 (zh H sz bytes (.row id sz 0 l.length) b) H k u:=by
 have ho:=Ym bn m;have hlen:=DX hf l
 by_cases Iz:m.length=0
 .have hl:m=[]:=List.eq_nil_of_length_eq_zero Iz;subst hl;have:zh H sz bytes (.row id sz 0 l.length) b=some (.upd (.row id sz 0 l.length) (H.set id (.cells true (zq f l)))):=by
   simp only [zh,hb,ho,aB,Su];simp only [Bool.not_true,Bool.false_eq_true,if_false,if_true,List.all_nil,List.length_nil,Nat.add_zero,Nat.zero_mul,Nat.zero_add,List.append_nil];rw [if_pos (by rw [hlen];exact Nat.le_refl _),List.take_of_length_le (by rw [hlen];exact Nat.le_refl _),List.drop_eq_nil_of_le (by rw [hlen];exact Nat.le_refl _),List.append_nil]
  rw [this,Lp];exact hk id _ (by rw [Ns (zo aB),List.append_nil]) (Nat.le_refl _) (fun i hi hn=>zg hn) (.inl rfl)
 .have vH:¬ (0*sz+(l.length+m.length)*sz<=(zq f l).length):=by
   rw [hlen,Nat.add_mul];have:=Nat.mul_pos (Nat.pos_of_ne_zero Iz) h0;omega
  have:zh H sz bytes (.row id sz 0 l.length) b=some (.upd (.row H.nx sz 0 (l.length+m.length)) ((H.set id .dead).alloc (.cells true (zq f l++zq f m)))):=by
   simp only [zh,hb,ho,aB];simp only [Bool.not_true,Bool.false_eq_true,if_false,if_true];rw [if_neg vH];simp only [true_and];rw [if_pos ⟨hlen.symm,hm⟩]
  rw [this,Lp]
  refine hk H.nx _ ?_ (Nat.le_succ _) (fun i hi hn=>?_) (.inr (Nat.le_refl _))
  .have:(H.set id .dead).nx=H.nx:=rfl;rw [<- this,F7,G9]
  .rw [zi (by exact hi),zg hn]
theorem sh44:G.shared 44=false:=by decide
theorem e44 (n:Nat) (p:Problem) (ok:ak p) (tree:Sl Node) (qx:tree.xs.length < 4000000000000000000) (J9:iU p.boxes.xs<=600):zF G (n+640) 44 [.agg p.cells,tree.pv Node.cells 4]=some (.bool (GD p.facts.xs p.boxes.xs tree.xs)):=by
 refine zy (zx _) rfl g44 rfl ?_
 have nb:=ok.nb;have JO:=xX ok;generalize hR:GD p.facts.xs p.boxes.xs tree.xs=R;have hH:=Hide.mk hR;clear hR;obtain ⟨n',jc⟩:∃ n',n+639=n'+(iU p.boxes.xs+1)+8:=⟨n+639 - (iU p.boxes.xs+1) - 8,by omega⟩
 have Q9:=Hide.mk (fun (H:Heap) (lb:Nat) (h:0≠lb) (h1:H.get 0=qW p tree 0 true) (h2:H.get lb=.cells true (zq Box.cells p.boxes.xs))=>zi9 ok qx h rfl (iU p.boxes.xs+1) n' H p.boxes.xs 0 true (Nat.lt_succ_self _) (aR.refl _) JO (Nat.zero_le _) h1 h2);rw [<- jc] at Q9;clear jc;(repeat' first|simp [*,zb,c44,Problem.cells]|(apply za<;>intro _ h<;>try simp [-Nat.le_zero_eq] at h))
 refine zjr (f:=Box.cells) (sz:=4) (id:=1) (l:=[]) (m:=p.boxes.xs) ?_ (fun _=>rfl) (by decide) (fun _=>rfl) ?_ ?_ ?_
 .simp [zq]
 .exact J8 (f:=Box.cells) (sz:=4) (fun _=>rfl) _
 .simp only [zu,List.length_nil];omega
 intro lb H1 Zi bU ah aB;simp only [List.nil_append] at Zi;simp at bU;have k0:H1.get 0=qW p tree 0 true:=by
  rw [ah 0 (by simp) (by decide)];simp [qW]
 have hlb0:0≠lb:=by
  rcases aB with h|h
  .omega
  .simp at h;omega
 have Lh:=Hide.mk (Q9.h H1 lb hlb0 k0 Zi);have nW:GD p.facts.xs p.boxes.xs tree.xs=R:=hH.h;unfold GD at nW;obtain ⟨⟨b1,a1⟩,uV⟩:∃ r,rX p.facts.xs tree.xs (iU p.boxes.xs+1) p.boxes.xs 0=r:=⟨_,rfl⟩
 have hrw:Ia p tree (iU p.boxes.xs+1) p.boxes.xs 0 true=(b1,a1):=by unfold Ia;rw [if_pos rfl];exact uV
 rw [hrw] at Lh;rw [uV] at nW;simp only at nW;clear Q9 ah aB uV hrw hH k0 Zi;(repeat' first|simp [*,zb]|(apply za<;>intro _ h<;>try simp [-Nat.le_zero_eq] at h))
 refine LB Wz (AU Lh.h ?_)
 intro H2 o2;have g2:=o2.at_;have n2:=o2.same.nx;have IZ:0 < H2.nx:=by omega
 unfold qW at g2;simp only at g2;clear o2 Lh
 cases b1 with
 | false =>
  have hR:R=false:=by rw [<- nW];rfl
  subst hR;simp [*,zb]
 | true =>
  have hR:R=decide (a1=tree.xs.length):=by rw [<- nW];rfl
  have Wx:decide ((a1:Int)=tree.xs.length)=decide (a1=tree.xs.length):=by rw [decide_eq_decide];omega
  subst hR;simp [*,zb]
end Go.Proofs.YtmmhnfghklppiaaGreat.Vm
