/- (*ref3.walk).fits: walked. -/
import Derived.Test.YtmmhnfghklppiaaGreatVk25
import Derived.Test.YtmmhnfghklppiaaGreatVk26
import Derived.Test.YtmmhnfghklppiaaGreatVk27
import Derived.Test.YtmmhnfghklppiaaGreatVk28
import Derived.Test.YtmmhnfghklppiaaGreatVk29
namespace Go.Proofs.YtmmhnfghklppiaaGreat.Vm
open Go
set_option linter.unusedSimpArgs false
set_option linter.unusedVariables false
set_option maxHeartbeats 8000000
set_option maxRecDepth 4000
theorem R6:G.shared 90=true:=by decide
def ou (p:Problem) (tree:Sl Node) (a:Nat) (b:Bool):aR:=.cells true [.pure (p.boxes.pv Box.cells 4),.pure (p.facts.pv Fact.cells 9),.pure (tree.pv Node.cells 4),.pure (.int .i64 a),.pure (.bool b)]
structure Ce (p:Problem) (tree:Sl Node) (wb:Nat) (H H':Heap) (r:Bool×Nat):Prop where
 same:Sm (·=wb) H H'
 at_:H'.get wb=ou p tree r.2 r.1
def Ee (p:Problem) (tree:Sl Node) (m:Nat) (l:List Box) (a:Nat) (b:Bool):Bool×Nat:=if b=true then pg p.facts.xs tree.xs m l a else (false,a)
theorem zm0 {p:Problem} (ok:af p) {tree:Sl Node} (vw:tree.xs.length < 4000000000000000000) {wb lb m F N:Nat} (bL:wb≠lb) (hN:N=p.boxes.xs.length)
  (ih:∀ (H:Heap) (l:List Box) (a:Nat) (b:Bool),fU l < m->aL l p.boxes.xs->Wf l->a<=tree.xs.length->H.get wb=ou p tree a b->H.get lb=.cells true (zm Box.cells l) ->
   ∃ H',Vm.call G (F+8) (.fn 90) [.box wb 0,.row lb 4 0 N] H=some (.aM [],H')/\Ce p tree wb H H' (Ee p tree m l a b))
  (H:Heap) (l:List Box) (a:Nat) (b:Bool) (hm:fU l < m+1) (hs:aL l p.boxes.xs) (hw:Wf l) (ha:a<=tree.xs.length) (ry:H.get wb=ou p tree a b) (mF:H.get lb=.cells true (zm Box.cells l)) :
  ∃ H',Vm.call G (F+8+1) (.fn 90) [.box wb 0,.row lb 4 0 N] H=some (.aM [],H')/\Ce p tree wb H H' (Ee p tree (m+1) l a b):=by
 have I7:=zu ry;have hln:=zu mF;have Ed:l.length=N:=by rw [hN];exact hs.1
 have R7:N<=12:=by rw [hN];exact ok.nb
 clear hN;have nf:=ok.nf;have main:∃ v' H',Vm.call G (F+8+1) (.fn 90) [.box wb 0,.row lb 4 0 N] H=some (v',H')/\(v'=.aM []/\Ce p tree wb H H' (Ee p tree (m+1) l a b)):=by
  refine Gq rfl g90 rfl ?_
  generalize hR:Ee p tree (m+1) l a b=R;unfold Ee at hR;unfold ou at ry
  cases b with
  | false =>
   rw [if_neg (by simp)] at hR;subst hR;clear ih
   by_cases wu:a < tree.xs.length
   .have FN:(a:Int) < tree.xs.length:=by omega
    have I8:¬ tree.xs.length<=a:=by omega
    (repeat' first|simp [*,za,c90]|(apply zb<;>intro _ h<;>try simp [-Nat.le_zero_eq] at h));exact ⟨(by repeat (first|exact Sm.refl _ _|refine Sm.alloc ?_|refine Sm.set ?_ (by first|exact .inl rfl|exact .inr (by first|omega|simp|(simp;omega))))),(by rw [zo (by first|omega|(simp;omega))];unfold ou;push_cast;rfl)⟩
   .have FN:¬ (a:Int) < tree.xs.length:=by omega
    have KI:(tree.xs.length:Int)<=a:=by omega
    have I8:tree.xs.length<=a:=by omega
    (repeat' first|simp [*,za,c90]|(apply zb<;>intro _ h<;>try simp [-Nat.le_zero_eq] at h));exact ⟨(by repeat (first|exact Sm.refl _ _|refine Sm.alloc ?_|refine Sm.set ?_ (by first|exact .inl rfl|exact .inr (by first|omega|simp|(simp;omega))))),(by rw [zo (by first|omega|(simp;omega))];unfold ou;push_cast;rfl)⟩
  | true =>
   rw [if_pos rfl] at hR;unfold pg at hR
   by_cases wu:a < tree.xs.length
   case neg =>
    have e:tree.xs[a]?=none:=List.getElem?_eq_none (by omega);rw [e] at hR;subst hR;have FN:¬ (a:Int) < tree.xs.length:=by omega
    have KI:(tree.xs.length:Int)<=a:=by omega
    have I8:tree.xs.length<=a:=by omega
    clear ih;(repeat' first|simp [*,za,c90]|(apply zb<;>intro _ h<;>try simp [-Nat.le_zero_eq] at h));exact ⟨(by repeat (first|exact Sm.refl _ _|refine Sm.alloc ?_|refine Sm.set ?_ (by first|exact .inl rfl|exact .inr (by first|omega|simp|(simp;omega))))),(by rw [zo (by first|omega|(simp;omega))];unfold ou;push_cast;rfl)⟩
   have e:tree.xs[a]?=some tree.xs[a]:=List.getElem?_eq_getElem wu;rw [e] at hR;simp only at hR;have FN:(a:Int) < tree.xs.length:=by omega
   have I8:¬ tree.xs.length<=a:=by omega
   have w1:IntKind.i64.wrap ((a:Int)+1)=(a:Int)+1:=wrap64 (by omega) (by omega);obtain ⟨⟨df,dp,dx,dt⟩,hd⟩:∃ d,d=tree.xs[a]:=⟨_,rfl⟩
   have Kr:=vM (k:=.i64) (f:=Node.cells) (sz:=4) (s:=tree) wu;rw [<- hd] at hR Kr;simp only at hR;have I9:wb≠H.nx:=by omega
   have qE:H.nx≠wb:=by omega
   have xV:lb≠H.nx:=by omega
   have tQ:H.nx≠lb:=by omega
   have qH:lb≠wb:=fun e=>bL e.symm;have wY:wb < H.nx+1:=by omega
   have wZ:wb≠H.nx+1:=by omega
   have qJ:H.nx+1≠wb:=by omega
   have w9:wb < H.nx+1+1:=by omega
   have xc:wb≠H.nx+1+1:=by omega
   have xe:H.nx+1+1≠wb:=by omega
   have xg:wb < H.nx+1+1+1:=by omega
   have xh:wb≠H.nx+1+1+1:=by omega
   have tV:H.nx+1+1+1≠wb:=by omega
   have xk:wb < H.nx+1+1+1+1:=by omega
   have xm:wb≠H.nx+1+1+1+1:=by omega
   have xn:H.nx+1+1+1+1≠wb:=by omega
   have xq:wb < H.nx+1+1+1+1+1:=by omega
   have xu:lb < H.nx+1:=by omega
   have xx:lb≠H.nx+1:=by omega
   have tX:H.nx+1≠lb:=by omega
   have xy:lb < H.nx+1+1:=by omega
   have xz:lb≠H.nx+1+1:=by omega
   have xA:H.nx+1+1≠lb:=by omega
   have xB:lb < H.nx+1+1+1:=by omega
   have xC:lb≠H.nx+1+1+1:=by omega
   have xD:H.nx+1+1+1≠lb:=by omega
   have xE:lb < H.nx+1+1+1+1:=by omega
   have xG:lb≠H.nx+1+1+1+1:=by omega
   have xH:H.nx+1+1+1+1≠lb:=by omega
   have xI:lb < H.nx+1+1+1+1+1:=by omega
   by_cases L6:df=-1
   case neg =>
    rw [if_pos L6] at hR
    by_cases c0:0<=df
    case neg =>
     have iL:R=(false,a+1):=by rw [<- hR];simp [c0]
     subst iL;clear ih hR hd;(repeat' first|simp [*,za,c90,Node.cells]|(apply zb<;>intro _ h<;>try simp [-Nat.le_zero_eq] at h));exact ⟨(by repeat (first|exact Sm.refl _ _|refine Sm.alloc ?_|refine Sm.set ?_ (by first|exact .inl rfl|exact .inr (by first|omega|simp|(simp;omega))))),(by rw [zo (by first|omega|(simp;omega))];unfold ou;push_cast;rfl)⟩
    by_cases c1:df < p.facts.xs.length
    case neg =>
     have iL:R=(false,a+1):=by rw [<- hR];simp [c1]
     subst iL;clear ih hR hd;(repeat' first|simp [*,za,c90,Node.cells]|(apply zb<;>intro _ h<;>try simp [-Nat.le_zero_eq] at h));exact ⟨(by repeat (first|exact Sm.refl _ _|refine Sm.alloc ?_|refine Sm.set ?_ (by first|exact .inl rfl|exact .inr (by first|omega|simp|(simp;omega))))),(by rw [zo (by first|omega|(simp;omega))];unfold ou;push_cast;rfl)⟩
    obtain ⟨k,rfl⟩:∃ k:Nat,df=k:=⟨df.toNat,by omega⟩
    have hk:k < p.facts.xs.length:=by omega
    have Va:=vM (k:=.i64) (f:=Fact.cells) (sz:=9) (s:=p.facts) hk;rw [Int.toNat_natCast,getElem!_pos p.facts.xs k hk] at hR;have iL:R=(decide (dp=0)&&(decide (dx=0)&&(decide (dt=0)&&zJ p.facts.xs[k] l)),a+1):=by
     rw [<- hR];simp [c0,c1]
    clear hR
    by_cases c2:dp=0
    case neg =>
     have vL:R=(false,a+1):=by rw [iL];simp [c2]
     subst vL;clear ih hd iL;(repeat' first|simp [*,za,c90,Node.cells]|(apply zb<;>intro _ h<;>try simp [-Nat.le_zero_eq] at h));exact ⟨(by repeat (first|exact Sm.refl _ _|refine Sm.alloc ?_|refine Sm.set ?_ (by first|exact .inl rfl|exact .inr (by first|omega|simp|(simp;omega))))),(by rw [zo (by first|omega|(simp;omega))];unfold ou;push_cast;rfl)⟩
    by_cases c3:dx=0
    case neg =>
     have vL:R=(false,a+1):=by rw [iL];simp [c3]
     subst vL;clear ih hd iL;(repeat' first|simp [*,za,c90,Node.cells]|(apply zb<;>intro _ h<;>try simp [-Nat.le_zero_eq] at h));exact ⟨(by repeat (first|exact Sm.refl _ _|refine Sm.alloc ?_|refine Sm.set ?_ (by first|exact .inl rfl|exact .inr (by first|omega|simp|(simp;omega))))),(by rw [zo (by first|omega|(simp;omega))];unfold ou;push_cast;rfl)⟩
    by_cases c4:dt=0
    case neg =>
     have vL:R=(false,a+1):=by rw [iL];simp [c4]
     subst vL;clear ih hd iL;(repeat' first|simp [*,za,c90,Node.cells]|(apply zb<;>intro _ h<;>try simp [-Nat.le_zero_eq] at h));exact ⟨(by repeat (first|exact Sm.refl _ _|refine Sm.alloc ?_|refine Sm.set ?_ (by first|exact .inl rfl|exact .inr (by first|omega|simp|(simp;omega))))),(by rw [zo (by first|omega|(simp;omega))];unfold ou;push_cast;rfl)⟩
    have vL:R=(zJ p.facts.xs[k] l,a+1):=by rw [iL];simp [c2,c3,c4]
    subst vL;have bG:=OE ok hs hw (List.getElem_mem hk);have hq:=(Au _ _).1 (ok.fact _ (List.getElem_mem hk));have R8:p.facts.xs[k].kind=3->0<=p.facts.xs[k].quarter/\p.facts.xs[k].quarter<=3:=fun h3=>by
     have:=(hq.2.2.2.2.2.2 (by omega)).2.2.2.2.2 h3;omega
    have nI:∀ H2:Heap,H2.get lb=.cells true (zm Box.cells l)->zD (zn G (F+8)) H2 (.pure (.func 102 [])) [.pure (.agg p.facts.xs[k].cells),.row lb 4 0 N]=some (.val (.pure (.bool (zJ p.facts.xs[k] l)))):=fun H2 h=>by
     obtain ⟨s0,nE,wQ⟩:=Gs (n:=10) (f:=Box.cells) (sz:=4) (fun _=>rfl) h Ed;subst nE;exact GL zur (.cons (.pure _) (.cons wQ .nil)) (e102 (F+1) p.facts.xs[k] s0 bG R8) rfl
    simp only [Fact.cells,Span.cells] at nI Va;clear ih hd iL bG hq R8;generalize zJ p.facts.xs[k] l=B at *;(repeat' first|simp [*,za,c90,Node.cells,Fact.cells,Span.cells]|(apply zb<;>intro _ h<;>try simp [-Nat.le_zero_eq] at h));exact ⟨(by repeat (first|exact Sm.refl _ _|refine Sm.alloc ?_|refine Sm.set ?_ (by first|exact .inl rfl|exact .inr (by first|omega|simp|(simp;omega))))),(by rw [zo (by first|omega|(simp;omega))];unfold ou;push_cast;rfl)⟩
   subst L6;rw [if_neg (by simp)] at hR
   by_cases p0:0<=dp
   case neg =>
    have q0:dp < 0:=by omega
    rw [if_neg (fun h=>p0 h.1)] at hR;subst hR;clear ih hd;(repeat' first|simp [*,za,c90,Node.cells]|(apply zb<;>intro _ h<;>try simp [-Nat.le_zero_eq] at h));exact ⟨(by repeat (first|exact Sm.refl _ _|refine Sm.alloc ?_|refine Sm.set ?_ (by first|exact .inl rfl|exact .inr (by first|omega|simp|(simp;omega))))),(by rw [zo (by first|omega|(simp;omega))];unfold ou;push_cast;rfl)⟩
   have q0:¬ dp < 0:=by omega
   by_cases p1:dp < N
   case neg =>
    have q1:(N:Int)<=dp:=by omega
    rw [if_neg (fun h=>p1 (by rw [<- Ed];exact h.2.1))] at hR;subst hR;clear ih hd;(repeat' first|simp [*,za,c90,Node.cells]|(apply zb<;>intro _ h<;>try simp [-Nat.le_zero_eq] at h));exact ⟨(by repeat (first|exact Sm.refl _ _|refine Sm.alloc ?_|refine Sm.set ?_ (by first|exact .inl rfl|exact .inr (by first|omega|simp|(simp;omega))))),(by rw [zo (by first|omega|(simp;omega))];unfold ou;push_cast;rfl)⟩
   have q1:¬ (N:Int)<=dp:=by omega
   by_cases x0:0<=dx
   case neg =>
    have q2:dx < 0:=by omega
    rw [if_neg (fun h=>x0 h.2.2.1)] at hR;subst hR;clear ih hd;(repeat' first|simp [*,za,c90,Node.cells]|(apply zb<;>intro _ h<;>try simp [-Nat.le_zero_eq] at h));exact ⟨(by repeat (first|exact Sm.refl _ _|refine Sm.alloc ?_|refine Sm.set ?_ (by first|exact .inl rfl|exact .inr (by first|omega|simp|(simp;omega))))),(by rw [zo (by first|omega|(simp;omega))];unfold ou;push_cast;rfl)⟩
   have q2:¬ dx < 0:=by omega
   by_cases x1:dx<=1
   case neg =>
    have x1':1 < dx:=by omega
    rw [if_neg (fun h=>x1 h.2.2.2)] at hR;subst hR;clear ih hd;(repeat' first|simp [*,za,c90,Node.cells]|(apply zb<;>intro _ h<;>try simp [-Nat.le_zero_eq] at h));exact ⟨(by repeat (first|exact Sm.refl _ _|refine Sm.alloc ?_|refine Sm.set ?_ (by first|exact .inl rfl|exact .inr (by first|omega|simp|(simp;omega))))),(by rw [zo (by first|omega|(simp;omega))];unfold ou;push_cast;rfl)⟩
   have q3:¬ 1 < dx:=by omega
   rw [if_pos ⟨p0,by rw [Ed];exact p1,x0,x1⟩] at hR;obtain ⟨i,rfl⟩:∃ i:Nat,dp=i:=⟨dp.toNat,by omega⟩
   obtain ⟨x,rfl⟩:∃ x:Nat,dx=x:=⟨dx.toNat,by omega⟩
   have wL:i < N:=by omega
   have hi:i < l.length:=by omega
   have sM:x < 2:=by omega
   rw [Int.toNat_natCast,Int.toNat_natCast,getElem!_pos l i hi] at hR;have Dr:=aJ.1 (Iu ok hs hw _ (List.getElem_mem hi));have vE:x=0\/x=1:=by omega
   by_cases r2:(bK l[i] x).lo<=dt/\dt < (bK l[i] x).hi
   case neg =>
    rw [if_neg r2] at hR;subst hR;clear ih hd;rcases vE with rfl|rfl
    .have r3:¬ (l[i].x.lo<=dt/\dt < l[i].x.hi):=r2
     by_cases r4:dt < l[i].x.lo
     .clear r2 r3;(repeat' first|simp [*,za,c90,Node.cells,Box.cells,Span.cells]|(apply zb<;>intro _ h<;>try simp [-Nat.le_zero_eq] at h));exact ⟨(by repeat (first|exact Sm.refl _ _|refine Sm.alloc ?_|refine Sm.set ?_ (by first|exact .inl rfl|exact .inr (by first|omega|simp|(simp;omega))))),(by rw [zo (by first|omega|(simp;omega))];unfold ou;push_cast;rfl)⟩
     .have r5:l[i].x.hi<=dt:=by omega
      clear r2 r3;(repeat' first|simp [*,za,c90,Node.cells,Box.cells,Span.cells]|(apply zb<;>intro _ h<;>try simp [-Nat.le_zero_eq] at h));exact ⟨(by repeat (first|exact Sm.refl _ _|refine Sm.alloc ?_|refine Sm.set ?_ (by first|exact .inl rfl|exact .inr (by first|omega|simp|(simp;omega))))),(by rw [zo (by first|omega|(simp;omega))];unfold ou;push_cast;rfl)⟩
    .have r3:¬ (l[i].y.lo<=dt/\dt < l[i].y.hi):=r2
     by_cases r4:dt < l[i].y.lo
     .clear r2 r3;(repeat' first|simp [*,za,c90,Node.cells,Box.cells,Span.cells]|(apply zb<;>intro _ h<;>try simp [-Nat.le_zero_eq] at h));exact ⟨(by repeat (first|exact Sm.refl _ _|refine Sm.alloc ?_|refine Sm.set ?_ (by first|exact .inl rfl|exact .inr (by first|omega|simp|(simp;omega))))),(by rw [zo (by first|omega|(simp;omega))];unfold ou;push_cast;rfl)⟩
     .have r5:l[i].y.hi<=dt:=by omega
      clear r2 r3;(repeat' first|simp [*,za,c90,Node.cells,Box.cells,Span.cells]|(apply zb<;>intro _ h<;>try simp [-Nat.le_zero_eq] at h));exact ⟨(by repeat (first|exact Sm.refl _ _|refine Sm.alloc ?_|refine Sm.set ?_ (by first|exact .inl rfl|exact .inr (by first|omega|simp|(simp;omega))))),(by rw [zo (by first|omega|(simp;omega))];unfold ou;push_cast;rfl)⟩
   rw [if_pos r2] at hR;have hp:iU l i x dt:=⟨hi,sM,r2.1,r2.2⟩
   have m1:=QD hp;have m2:=QE hp;obtain ⟨z1,z2,z3,z4⟩:=Us (hw _ (List.getElem_mem hi)) r2.1 r2.2;have k1:=(aL.refl l).set (i:=i) z3;have k2:=(aL.refl l).set (i:=i) z4;rw [List.set_getElem_self,<- DX hi] at k1;rw [List.set_getElem_self,<- DY hi] at k2;have j1:=hw.set (i:=i) z1;have j2:=hw.set (i:=i) z2;rw [<- DX hi] at j1;rw [<- DY hi] at j2;have i1:=Hide.mk fun (H:Heap)=>ih H (bV l i x dt) (a+1) true (by omega) (k1.trans hs) j1 (by omega);have i2:=Hide.mk fun (H:Heap) (a':Nat) (b':Bool)=>ih H (nk l i x dt) a' b' (by omega) (k2.trans hs) j2;have hle:=RX p.facts.xs tree.xs m (bV l i x dt) (a+1) (by omega);have p1':=Ia (f:=Box.cells) (sz:=4) (l:=l) (i:=i) (a:=ni l[i] x dt) (fun _=>rfl) (fun _=>rfl) (by decide) hi;have R9:=Ia (f:=Box.cells) (sz:=4) (l:=l.set i (ni l[i] x dt)) (i:=i) (a:=x8 l[i] x dt) (fun _=>rfl) (fun _=>rfl) (by decide) (by simpa using hi);have Sd:=Ia (f:=Box.cells) (sz:=4) (l:=l.set i (x8 l[i] x dt)) (i:=i) (a:=l[i]) (fun _=>rfl) (fun _=>rfl) (by decide) (by simpa using hi);rw [List.set_set] at R9 Sd;rw [List.set_getElem_self] at Sd;rw [<- DX hi] at p1' R9;rw [<- DY hi] at R9 Sd;have w2:IntKind.i64.wrap (dt+1)=dt+1:=by
    have h1:=r2.1;have h2:=r2.2
    refine wrap64 ?_ ?_<;>(unfold bK at h1 h2;by_cases e:x=0<;>simp only [e,if_true,if_false] at h1 h2<;>omega)
   obtain ⟨⟨b1,a1⟩,yj⟩:∃ r,pg p.facts.xs tree.xs m (bV l i x dt) (a+1)=r:=⟨_,rfl⟩
   have IP:Ee p tree m (bV l i x dt) (a+1) true=(b1,a1):=by unfold Ee;rw [if_pos rfl];exact yj
   rw [yj] at hR hle;rw [IP] at i1;simp only at hR hle;have iL:Ee p tree m (nk l i x dt) a1 b1=R:=by unfold Ee;exact hR
   have AZ:=hle.2;have Fq:=Hide.mk (i2.h);clear hle yj IP hR ih hp m1 m2 z1 z2 z3 z4 k1 k2 j1 j2 i2 hd hm hs hw;generalize bV l i x dt=L1 at *;generalize nk l i x dt=L2 at *;rcases vE with rfl|rfl
   .have r3:l[i].x.lo<=dt/\dt < l[i].x.hi:=r2;have r4:¬ dt < l[i].x.lo:=by omega
    have r5:¬ l[i].x.hi<=dt:=by omega
    simp only [ni,x8,tK,bK,Box.cells,Span.cells,if_true,if_false,Nat.one_ne_zero,List.map] at p1' R9 Sd;clear r2 r3;(repeat' first|simp [*,za,c90,Node.cells,Box.cells,Span.cells]|(apply zb<;>intro _ h<;>try simp [-Nat.le_zero_eq] at h))
    refine Ol R6 (vQ (i1.h _ ?_ ?_) ?_)
    .unfold ou;simp [I9,qE,xV,tQ,bL,qH,wY,wZ,qJ,w9,xc,xe,xg,xh,tV,xk,xm,xn,xq,xu,xx,tX,xy,xz,xA,xB,xC,xD,xE,xG,xH,xI]
    .rw [zo (by simp [I9,qE,xV,tQ,bL,qH,wY,wZ,qJ,w9,xc,xe,xg,xh,tV,xk,xm,xn,xq,xu,xx,tX,xy,xz,xA,xB,xC,xD,xE,xG,xH,xI])]
    .intro H1 o1;have e0:=o1.same.get H.nx (by simp) qE;have e1:=o1.same.get (H.nx+1) (by simp) qJ;have e3:=o1.same.get (H.nx+1+1+1) (by simp) tV;have el:=o1.same.get lb (by simp [I9,qE,xV,tQ,bL,qH,wY,wZ,qJ,w9,xc,xe,xg,xh,tV,xk,xm,xn,xq,xu,xx,tX,xy,xz,xA,xB,xC,xD,xE,xG,xH,xI]) qH;have n1:=o1.same.nx;have A7:=o1.at_;have s1:Sm (fun j=>j=wb\/j=lb) H H1:=Sm.trans (by repeat (first|exact Sm.refl _ _|refine Sm.alloc ?_|refine Sm.set ?_ (by first|exact .inl (.inl rfl)|exact .inl (.inr rfl)|exact .inr (by first|omega|simp|(simp;omega))))) o1.same (fun j _ h=>.inl h);simp [I9,qE,xV,tQ,bL,qH,wY,wZ,qJ,w9,xc,xe,xg,xh,tV,xk,xm,xn,xq,xu,xx,tX,xy,xz,xA,xB,xC,xD,xE,xG,xH,xI] at e0 e1 e3 el n1;unfold ou at A7;simp only at A7;have OQ:H.nx < H1.nx:=by omega
     have hA1:H.nx+1 < H1.nx:=by omega
     have hA3:H.nx+1+1+1 < H1.nx:=by omega
     have M6:lb < H1.nx:=by omega
     have hAw:wb < H1.nx:=by omega
     have FO:=Hide.mk o1.at_;clear o1 i1 n1 ry Kr;(repeat' first|simp [*,za]|(apply zb<;>intro _ h<;>try simp [-Nat.le_zero_eq] at h))
     refine Ol R6 (vQ (Fq.h _ a1 b1 AZ ?_ ?_) ?_)
     .rw [zh bL];exact FO.h
     .rw [zo M6]
     .intro H2 o2;have f0:=o2.same.get H.nx (by rw [mE];exact OQ) qE;have f1:=o2.same.get (H.nx+1) (by rw [mE];exact hA1) qJ;have fl:=o2.same.get lb (by rw [mE];exact M6) qH;rw [zh tQ,e0] at f0;rw [zh tX,e1] at f1;rw [zo M6] at fl;have n2:=o2.same.nx;rw [mE] at n2;have s2:Sm (fun j=>j=wb\/j=lb) H H2:=Sm.trans (s1.set (.inl (.inr rfl))) o2.same (fun j _ h=>.inl h);have at2:=o2.at_;rw [iL] at at2;have Y4:H.nx < H2.nx:=by omega
      have hB1:H.nx+1 < H2.nx:=by omega
      have hBl:lb < H2.nx:=by omega
      have M7:=Hide.mk at2;have Si:=Hide.mk s2;clear o2 Fq e0 e1 e3 el A7 at2 s1 s2 FO iL;(repeat' first|simp [*,za]|(apply zb<;>intro _ h<;>try simp [-Nat.le_zero_eq] at h))
      refine ⟨⟨by rw [mE];exact Si.h.nx,fun j h1 h2=>?_⟩,by rw [zh bL];exact M7.h⟩
      by_cases hj:j=lb
      .rw [hj,zo hBl];exact mF.symm
      .rw [zh hj]
       refine Si.h.get j h1 fun h=>?_
       rcases h with h|h
       .exact h2 h
       .exact hj h
   .have r3:l[i].y.lo<=dt/\dt < l[i].y.hi:=r2;have r4:¬ dt < l[i].y.lo:=by omega
    have r5:¬ l[i].y.hi<=dt:=by omega
    simp only [ni,x8,tK,bK,Box.cells,Span.cells,if_true,if_false,Nat.one_ne_zero,List.map] at p1' R9 Sd;clear r2 r3;(repeat' first|simp [*,za,c90,Node.cells,Box.cells,Span.cells]|(apply zb<;>intro _ h<;>try simp [-Nat.le_zero_eq] at h))
    refine Ol R6 (vQ (i1.h _ ?_ ?_) ?_)
    .unfold ou;simp [I9,qE,xV,tQ,bL,qH,wY,wZ,qJ,w9,xc,xe,xg,xh,tV,xk,xm,xn,xq,xu,xx,tX,xy,xz,xA,xB,xC,xD,xE,xG,xH,xI]
    .rw [zo (by simp [I9,qE,xV,tQ,bL,qH,wY,wZ,qJ,w9,xc,xe,xg,xh,tV,xk,xm,xn,xq,xu,xx,tX,xy,xz,xA,xB,xC,xD,xE,xG,xH,xI])]
    .intro H1 o1;have e0:=o1.same.get H.nx (by simp) qE;have e1:=o1.same.get (H.nx+1) (by simp) qJ;have e3:=o1.same.get (H.nx+1+1+1) (by simp) tV;have el:=o1.same.get lb (by simp [I9,qE,xV,tQ,bL,qH,wY,wZ,qJ,w9,xc,xe,xg,xh,tV,xk,xm,xn,xq,xu,xx,tX,xy,xz,xA,xB,xC,xD,xE,xG,xH,xI]) qH;have n1:=o1.same.nx;have A7:=o1.at_;have s1:Sm (fun j=>j=wb\/j=lb) H H1:=Sm.trans (by repeat (first|exact Sm.refl _ _|refine Sm.alloc ?_|refine Sm.set ?_ (by first|exact .inl (.inl rfl)|exact .inl (.inr rfl)|exact .inr (by first|omega|simp|(simp;omega))))) o1.same (fun j _ h=>.inl h);simp [I9,qE,xV,tQ,bL,qH,wY,wZ,qJ,w9,xc,xe,xg,xh,tV,xk,xm,xn,xq,xu,xx,tX,xy,xz,xA,xB,xC,xD,xE,xG,xH,xI] at e0 e1 e3 el n1;unfold ou at A7;simp only at A7;have OQ:H.nx < H1.nx:=by omega
     have hA1:H.nx+1 < H1.nx:=by omega
     have hA3:H.nx+1+1+1 < H1.nx:=by omega
     have M6:lb < H1.nx:=by omega
     have hAw:wb < H1.nx:=by omega
     have FO:=Hide.mk o1.at_;clear o1 i1 n1 ry Kr;(repeat' first|simp [*,za]|(apply zb<;>intro _ h<;>try simp [-Nat.le_zero_eq] at h))
     refine Ol R6 (vQ (Fq.h _ a1 b1 AZ ?_ ?_) ?_)
     .rw [zh bL];exact FO.h
     .rw [zo M6]
     .intro H2 o2;have f0:=o2.same.get H.nx (by rw [mE];exact OQ) qE;have f1:=o2.same.get (H.nx+1) (by rw [mE];exact hA1) qJ;have fl:=o2.same.get lb (by rw [mE];exact M6) qH;rw [zh tQ,e0] at f0;rw [zh tX,e1] at f1;rw [zo M6] at fl;have n2:=o2.same.nx;rw [mE] at n2;have s2:Sm (fun j=>j=wb\/j=lb) H H2:=Sm.trans (s1.set (.inl (.inr rfl))) o2.same (fun j _ h=>.inl h);have at2:=o2.at_;rw [iL] at at2;have Y4:H.nx < H2.nx:=by omega
      have hB1:H.nx+1 < H2.nx:=by omega
      have hBl:lb < H2.nx:=by omega
      have M7:=Hide.mk at2;have Si:=Hide.mk s2;clear o2 Fq e0 e1 e3 el A7 at2 s1 s2 FO iL;(repeat' first|simp [*,za]|(apply zb<;>intro _ h<;>try simp [-Nat.le_zero_eq] at h))
      refine ⟨⟨by rw [mE];exact Si.h.nx,fun j h1 h2=>?_⟩,by rw [zh bL];exact M7.h⟩
      by_cases hj:j=lb
      .rw [hj,zo hBl];exact mF.symm
      .rw [zh hj]
       refine Si.h.get j h1 fun h=>?_
       rcases h with h|h
       .exact h2 h
       .exact hj h
 obtain ⟨v',H',h1,rfl,h2⟩:=main;exact ⟨H',h1,h2⟩
theorem ziv {p:Problem} (ok:af p) {tree:Sl Node} (vw:tree.xs.length < 4000000000000000000) {wb lb N:Nat} (bL:wb≠lb) (hN:N=p.boxes.xs.length):∀ (m n:Nat) (H:Heap) (l:List Box) (a:Nat) (b:Bool),fU l < m->aL l p.boxes.xs->Wf l->a<=tree.xs.length->H.get wb=ou p tree a b->H.get lb=.cells true (zm Box.cells l) ->
  ∃ H',Vm.call G (n+m+8) (.fn 90) [.box wb 0,.row lb 4 0 N] H=some (.aM [],H')/\Ce p tree wb H H' (Ee p tree m l a b)
 | 0,n,H,l,a,b,hm,_,_,_,_,_=>absurd hm (Nat.not_lt_zero _)
 | m+1,n,H,l,a,b,hm,hs,hw,ha,hn,hg=>by
  have:=zm0 ok vw (m:=m) (F:=n+m) bL hN (fun H l a b hm hs hw ha hn hg=>ziv ok vw bL hN m n H l a b hm hs hw ha hn hg) H l a b hm hs hw ha hn hg;exact this
end Go.Proofs.YtmmhnfghklppiaaGreat.Vm
