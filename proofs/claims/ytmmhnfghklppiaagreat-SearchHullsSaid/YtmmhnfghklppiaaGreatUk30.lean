/- (*ref3.walk).fits: walked. -/
import Derived.Test.YtmmhnfghklppiaaGreatUk25
import Derived.Test.YtmmhnfghklppiaaGreatUk26
import Derived.Test.YtmmhnfghklppiaaGreatUk27
import Derived.Test.YtmmhnfghklppiaaGreatUk28
import Derived.Test.YtmmhnfghklppiaaGreatUk29
namespace Go.Proofs.YtmmhnfghklppiaaGreat.Vm
open Go
set_option linter.unusedSimpArgs false
set_option linter.unusedVariables false
set_option maxHeartbeats 8000000
set_option maxRecDepth 4000
theorem Wz:G.shared 90=true:=by decide
def qW (p:Problem) (tree:Sl Node) (a:Nat) (b:Bool):aP:=.cells true [.pure (p.boxes.pv Box.cells 4),.pure (p.facts.pv Fact.cells 9),.pure (tree.pv Node.cells 4),.pure (.int .i64 a),.pure (.bool b)]
structure FJ (p:Problem) (tree:Sl Node) (wb:Nat) (H H':Heap) (r:Bool×Nat):Prop where
 same:Sm (·=wb) H H'
 at_:H'.get wb=qW p tree r.2 r.1
def Ia (p:Problem) (tree:Sl Node) (m:Nat) (l:List Box) (a:Nat) (b:Bool):Bool×Nat:=if b=true then rX p.facts.xs tree.xs m l a else (false,a)
theorem zn8 {p:Problem} (ok:ak p) {tree:Sl Node} (qx:tree.xs.length < 4000000000000000000) {wb lb m F N:Nat} (bC:wb≠lb) (hN:N=p.boxes.xs.length)
  (ih:∀ (H:Heap) (l:List Box) (a:Nat) (b:Bool),iU l < m->aR l p.boxes.xs->Wf l->a<=tree.xs.length->H.get wb=qW p tree a b->H.get lb=.cells true (zq Box.cells l) ->
   ∃ H',Vm.call G (F+8) (.fn 90) [.box wb 0,.row lb 4 0 N] H=some (.aQ [],H')/\FJ p tree wb H H' (Ia p tree m l a b))
  (H:Heap) (l:List Box) (a:Nat) (b:Bool) (hm:iU l < m+1) (hs:aR l p.boxes.xs) (hw:Wf l) (ha:a<=tree.xs.length) (uX:H.get wb=qW p tree a b) (ou:H.get lb=.cells true (zq Box.cells l)) :
  ∃ H',Vm.call G (F+8+1) (.fn 90) [.box wb 0,.row lb 4 0 N] H=some (.aQ [],H')/\FJ p tree wb H H' (Ia p tree (m+1) l a b):=by
 have MV:=zo uX;have hln:=zo ou;have Dh:l.length=N:=by rw [hN];exact hs.1
 have WA:N<=12:=by rw [hN];exact ok.nb
 clear hN;have nf:=ok.nf;have main:∃ v' H',Vm.call G (F+8+1) (.fn 90) [.box wb 0,.row lb 4 0 N] H=some (v',H')/\(v'=.aQ []/\FJ p tree wb H H' (Ia p tree (m+1) l a b)):=by
  refine F8 rfl g90 rfl ?_
  generalize hR:Ia p tree (m+1) l a b=R;unfold Ia at hR;unfold qW at uX
  cases b with
  | false =>
   rw [if_neg (by simp)] at hR;subst hR;clear ih
   by_cases sw:a < tree.xs.length
   .have JE:(a:Int) < tree.xs.length:=by omega
    have MW:¬ tree.xs.length<=a:=by omega
    (repeat' first|simp [*,zb,c90]|(apply za<;>intro _ h<;>try simp [-Nat.le_zero_eq] at h));exact ⟨(by repeat (first|exact Sm.refl _ _|refine Sm.alloc ?_|refine Sm.set ?_ (by first|exact .inl rfl|exact .inr (by first|omega|simp|(simp;omega))))),(by rw [zn (by first|omega|(simp;omega))];unfold qW;push_cast;rfl)⟩
   .have JE:¬ (a:Int) < tree.xs.length:=by omega
    have OB:(tree.xs.length:Int)<=a:=by omega
    have MW:tree.xs.length<=a:=by omega
    (repeat' first|simp [*,zb,c90]|(apply za<;>intro _ h<;>try simp [-Nat.le_zero_eq] at h));exact ⟨(by repeat (first|exact Sm.refl _ _|refine Sm.alloc ?_|refine Sm.set ?_ (by first|exact .inl rfl|exact .inr (by first|omega|simp|(simp;omega))))),(by rw [zn (by first|omega|(simp;omega))];unfold qW;push_cast;rfl)⟩
  | true =>
   rw [if_pos rfl] at hR;unfold rX at hR
   by_cases sw:a < tree.xs.length
   case neg =>
    have e:tree.xs[a]?=none:=List.getElem?_eq_none (by omega);rw [e] at hR;subst hR;have JE:¬ (a:Int) < tree.xs.length:=by omega
    have OB:(tree.xs.length:Int)<=a:=by omega
    have MW:tree.xs.length<=a:=by omega
    clear ih;(repeat' first|simp [*,zb,c90]|(apply za<;>intro _ h<;>try simp [-Nat.le_zero_eq] at h));exact ⟨(by repeat (first|exact Sm.refl _ _|refine Sm.alloc ?_|refine Sm.set ?_ (by first|exact .inl rfl|exact .inr (by first|omega|simp|(simp;omega))))),(by rw [zn (by first|omega|(simp;omega))];unfold qW;push_cast;rfl)⟩
   have e:tree.xs[a]?=some tree.xs[a]:=List.getElem?_eq_getElem sw;rw [e] at hR;simp only at hR;have JE:(a:Int) < tree.xs.length:=by omega
   have MW:¬ tree.xs.length<=a:=by omega
   have w1:IntKind.i64.wrap ((a:Int)+1)=(a:Int)+1:=wrap64 (by omega) (by omega);obtain ⟨⟨df,dp,dx,dt⟩,hd⟩:∃ d,d=tree.xs[a]:=⟨_,rfl⟩
   have Js:=pR (k:=.i64) (f:=Node.cells) (sz:=4) (s:=tree) sw;rw [<- hd] at hR Js;simp only at hR;have MX:wb≠H.nx:=by omega
   have uo:H.nx≠wb:=by omega
   have CU:lb≠H.nx:=by omega
   have xn:H.nx≠lb:=by omega
   have oh:lb≠wb:=fun e=>bC e.symm;have BI:wb < H.nx+1:=by omega
   have BJ:wb≠H.nx+1:=by omega
   have uq:H.nx+1≠wb:=by omega
   have BK:wb < H.nx+1+1:=by omega
   have BL:wb≠H.nx+1+1:=by omega
   have BM:H.nx+1+1≠wb:=by omega
   have BN:wb < H.nx+1+1+1:=by omega
   have BO:wb≠H.nx+1+1+1:=by omega
   have xq:H.nx+1+1+1≠wb:=by omega
   have BP:wb < H.nx+1+1+1+1:=by omega
   have BQ:wb≠H.nx+1+1+1+1:=by omega
   have BR:H.nx+1+1+1+1≠wb:=by omega
   have BS:wb < H.nx+1+1+1+1+1:=by omega
   have BU:lb < H.nx+1:=by omega
   have BV:lb≠H.nx+1:=by omega
   have xu:H.nx+1≠lb:=by omega
   have BX:lb < H.nx+1+1:=by omega
   have BZ:lb≠H.nx+1+1:=by omega
   have Cb:H.nx+1+1≠lb:=by omega
   have Cc:lb < H.nx+1+1+1:=by omega
   have Ce:lb≠H.nx+1+1+1:=by omega
   have Cf:H.nx+1+1+1≠lb:=by omega
   have Ci:lb < H.nx+1+1+1+1:=by omega
   have Cj:lb≠H.nx+1+1+1+1:=by omega
   have Cm:H.nx+1+1+1+1≠lb:=by omega
   have CB:lb < H.nx+1+1+1+1+1:=by omega
   by_cases Qa:df=-1
   case neg =>
    rw [if_pos Qa] at hR
    by_cases c0:0<=df
    case neg =>
     have jk:R=(false,a+1):=by rw [<- hR];simp [c0]
     subst jk;clear ih hR hd;(repeat' first|simp [*,zb,c90,Node.cells]|(apply za<;>intro _ h<;>try simp [-Nat.le_zero_eq] at h));exact ⟨(by repeat (first|exact Sm.refl _ _|refine Sm.alloc ?_|refine Sm.set ?_ (by first|exact .inl rfl|exact .inr (by first|omega|simp|(simp;omega))))),(by rw [zn (by first|omega|(simp;omega))];unfold qW;push_cast;rfl)⟩
    by_cases c1:df < p.facts.xs.length
    case neg =>
     have jk:R=(false,a+1):=by rw [<- hR];simp [c1]
     subst jk;clear ih hR hd;(repeat' first|simp [*,zb,c90,Node.cells]|(apply za<;>intro _ h<;>try simp [-Nat.le_zero_eq] at h));exact ⟨(by repeat (first|exact Sm.refl _ _|refine Sm.alloc ?_|refine Sm.set ?_ (by first|exact .inl rfl|exact .inr (by first|omega|simp|(simp;omega))))),(by rw [zn (by first|omega|(simp;omega))];unfold qW;push_cast;rfl)⟩
    obtain ⟨k,rfl⟩:∃ k:Nat,df=k:=⟨df.toNat,by omega⟩
    have hk:k < p.facts.xs.length:=by omega
    have l7:=pR (k:=.i64) (f:=Fact.cells) (sz:=9) (s:=p.facts) hk;rw [Int.toNat_natCast,getElem!_pos p.facts.xs k hk] at hR;have jk:R=(decide (dp=0)&&(decide (dx=0)&&(decide (dt=0)&&zD p.facts.xs[k] l)),a+1):=by
     rw [<- hR];simp [c0,c1]
    clear hR
    by_cases c2:dp=0
    case neg =>
     have Az:R=(false,a+1):=by rw [jk];simp [c2]
     subst Az;clear ih hd jk;(repeat' first|simp [*,zb,c90,Node.cells]|(apply za<;>intro _ h<;>try simp [-Nat.le_zero_eq] at h));exact ⟨(by repeat (first|exact Sm.refl _ _|refine Sm.alloc ?_|refine Sm.set ?_ (by first|exact .inl rfl|exact .inr (by first|omega|simp|(simp;omega))))),(by rw [zn (by first|omega|(simp;omega))];unfold qW;push_cast;rfl)⟩
    by_cases c3:dx=0
    case neg =>
     have Az:R=(false,a+1):=by rw [jk];simp [c3]
     subst Az;clear ih hd jk;(repeat' first|simp [*,zb,c90,Node.cells]|(apply za<;>intro _ h<;>try simp [-Nat.le_zero_eq] at h));exact ⟨(by repeat (first|exact Sm.refl _ _|refine Sm.alloc ?_|refine Sm.set ?_ (by first|exact .inl rfl|exact .inr (by first|omega|simp|(simp;omega))))),(by rw [zn (by first|omega|(simp;omega))];unfold qW;push_cast;rfl)⟩
    by_cases c4:dt=0
    case neg =>
     have Az:R=(false,a+1):=by rw [jk];simp [c4]
     subst Az;clear ih hd jk;(repeat' first|simp [*,zb,c90,Node.cells]|(apply za<;>intro _ h<;>try simp [-Nat.le_zero_eq] at h));exact ⟨(by repeat (first|exact Sm.refl _ _|refine Sm.alloc ?_|refine Sm.set ?_ (by first|exact .inl rfl|exact .inr (by first|omega|simp|(simp;omega))))),(by rw [zn (by first|omega|(simp;omega))];unfold qW;push_cast;rfl)⟩
    have Az:R=(zD p.facts.xs[k] l,a+1):=by rw [jk];simp [c2,c3,c4]
    subst Az;have bQ:=Qk ok hs hw (List.getElem_mem hk);have hq:=(vR _ _).1 (ok.fact _ (List.getElem_mem hk));have hq3:p.facts.xs[k].kind=3->0<=p.facts.xs[k].quarter/\p.facts.xs[k].quarter<=3:=fun h3=>by
     have:=(hq.2.2.2.2.2.2 (by omega)).2.2.2.2.2 h3;omega
    have qd:∀ H2:Heap,H2.get lb=.cells true (zq Box.cells l)->zG (zt G (F+8)) H2 (.pure (.func 102 [])) [.pure (.agg p.facts.xs[k].cells),.row lb 4 0 N]=some (.val (.pure (.bool (zD p.facts.xs[k] l)))):=fun H2 h=>by
     obtain ⟨s0,nU,BB⟩:=Ha (n:=10) (f:=Box.cells) (sz:=4) (fun _=>rfl) h Dh;subst nU;exact KH zr4 (.cons (.pure _) (.cons BB .nil)) (e102 (F+1) p.facts.xs[k] s0 bQ hq3) rfl
    simp only [Fact.cells,Span.cells] at qd l7;clear ih hd jk bQ hq hq3;generalize zD p.facts.xs[k] l=B at *;(repeat' first|simp [*,zb,c90,Node.cells,Fact.cells,Span.cells]|(apply za<;>intro _ h<;>try simp [-Nat.le_zero_eq] at h));exact ⟨(by repeat (first|exact Sm.refl _ _|refine Sm.alloc ?_|refine Sm.set ?_ (by first|exact .inl rfl|exact .inr (by first|omega|simp|(simp;omega))))),(by rw [zn (by first|omega|(simp;omega))];unfold qW;push_cast;rfl)⟩
   subst Qa;rw [if_neg (by simp)] at hR
   by_cases p0:0<=dp
   case neg =>
    have q0:dp < 0:=by omega
    rw [if_neg (fun h=>p0 h.1)] at hR;subst hR;clear ih hd;(repeat' first|simp [*,zb,c90,Node.cells]|(apply za<;>intro _ h<;>try simp [-Nat.le_zero_eq] at h));exact ⟨(by repeat (first|exact Sm.refl _ _|refine Sm.alloc ?_|refine Sm.set ?_ (by first|exact .inl rfl|exact .inr (by first|omega|simp|(simp;omega))))),(by rw [zn (by first|omega|(simp;omega))];unfold qW;push_cast;rfl)⟩
   have q0:¬ dp < 0:=by omega
   by_cases p1:dp < N
   case neg =>
    have q1:(N:Int)<=dp:=by omega
    rw [if_neg (fun h=>p1 (by rw [<- Dh];exact h.2.1))] at hR;subst hR;clear ih hd;(repeat' first|simp [*,zb,c90,Node.cells]|(apply za<;>intro _ h<;>try simp [-Nat.le_zero_eq] at h));exact ⟨(by repeat (first|exact Sm.refl _ _|refine Sm.alloc ?_|refine Sm.set ?_ (by first|exact .inl rfl|exact .inr (by first|omega|simp|(simp;omega))))),(by rw [zn (by first|omega|(simp;omega))];unfold qW;push_cast;rfl)⟩
   have q1:¬ (N:Int)<=dp:=by omega
   by_cases x0:0<=dx
   case neg =>
    have q2:dx < 0:=by omega
    rw [if_neg (fun h=>x0 h.2.2.1)] at hR;subst hR;clear ih hd;(repeat' first|simp [*,zb,c90,Node.cells]|(apply za<;>intro _ h<;>try simp [-Nat.le_zero_eq] at h));exact ⟨(by repeat (first|exact Sm.refl _ _|refine Sm.alloc ?_|refine Sm.set ?_ (by first|exact .inl rfl|exact .inr (by first|omega|simp|(simp;omega))))),(by rw [zn (by first|omega|(simp;omega))];unfold qW;push_cast;rfl)⟩
   have q2:¬ dx < 0:=by omega
   by_cases x1:dx<=1
   case neg =>
    have x1':1 < dx:=by omega
    rw [if_neg (fun h=>x1 h.2.2.2)] at hR;subst hR;clear ih hd;(repeat' first|simp [*,zb,c90,Node.cells]|(apply za<;>intro _ h<;>try simp [-Nat.le_zero_eq] at h));exact ⟨(by repeat (first|exact Sm.refl _ _|refine Sm.alloc ?_|refine Sm.set ?_ (by first|exact .inl rfl|exact .inr (by first|omega|simp|(simp;omega))))),(by rw [zn (by first|omega|(simp;omega))];unfold qW;push_cast;rfl)⟩
   have q3:¬ 1 < dx:=by omega
   rw [if_pos ⟨p0,by rw [Dh];exact p1,x0,x1⟩] at hR;obtain ⟨i,rfl⟩:∃ i:Nat,dp=i:=⟨dp.toNat,by omega⟩
   obtain ⟨x,rfl⟩:∃ x:Nat,dx=x:=⟨dx.toNat,by omega⟩
   have qy:i < N:=by omega
   have hi:i < l.length:=by omega
   have rz:x < 2:=by omega
   rw [Int.toNat_natCast,Int.toNat_natCast,getElem!_pos l i hi] at hR;have xm:=aH.1 (Ed ok hs hw _ (List.getElem_mem hi));have Aj:x=0\/x=1:=by omega
   by_cases r2:(bA l[i] x).lo<=dt/\dt < (bA l[i] x).hi
   case neg =>
    rw [if_neg r2] at hR;subst hR;clear ih hd;rcases Aj with rfl|rfl
    .have r3:¬ (l[i].x.lo<=dt/\dt < l[i].x.hi):=r2
     by_cases r4:dt < l[i].x.lo
     .clear r2 r3;(repeat' first|simp [*,zb,c90,Node.cells,Box.cells,Span.cells]|(apply za<;>intro _ h<;>try simp [-Nat.le_zero_eq] at h));exact ⟨(by repeat (first|exact Sm.refl _ _|refine Sm.alloc ?_|refine Sm.set ?_ (by first|exact .inl rfl|exact .inr (by first|omega|simp|(simp;omega))))),(by rw [zn (by first|omega|(simp;omega))];unfold qW;push_cast;rfl)⟩
     .have r5:l[i].x.hi<=dt:=by omega
      clear r2 r3;(repeat' first|simp [*,zb,c90,Node.cells,Box.cells,Span.cells]|(apply za<;>intro _ h<;>try simp [-Nat.le_zero_eq] at h));exact ⟨(by repeat (first|exact Sm.refl _ _|refine Sm.alloc ?_|refine Sm.set ?_ (by first|exact .inl rfl|exact .inr (by first|omega|simp|(simp;omega))))),(by rw [zn (by first|omega|(simp;omega))];unfold qW;push_cast;rfl)⟩
    .have r3:¬ (l[i].y.lo<=dt/\dt < l[i].y.hi):=r2
     by_cases r4:dt < l[i].y.lo
     .clear r2 r3;(repeat' first|simp [*,zb,c90,Node.cells,Box.cells,Span.cells]|(apply za<;>intro _ h<;>try simp [-Nat.le_zero_eq] at h));exact ⟨(by repeat (first|exact Sm.refl _ _|refine Sm.alloc ?_|refine Sm.set ?_ (by first|exact .inl rfl|exact .inr (by first|omega|simp|(simp;omega))))),(by rw [zn (by first|omega|(simp;omega))];unfold qW;push_cast;rfl)⟩
     .have r5:l[i].y.hi<=dt:=by omega
      clear r2 r3;(repeat' first|simp [*,zb,c90,Node.cells,Box.cells,Span.cells]|(apply za<;>intro _ h<;>try simp [-Nat.le_zero_eq] at h));exact ⟨(by repeat (first|exact Sm.refl _ _|refine Sm.alloc ?_|refine Sm.set ?_ (by first|exact .inl rfl|exact .inr (by first|omega|simp|(simp;omega))))),(by rw [zn (by first|omega|(simp;omega))];unfold qW;push_cast;rfl)⟩
   rw [if_pos r2] at hR;have hp:jE l i x dt:=⟨hi,rz,r2.1,r2.2⟩
   have m1:=U4 hp;have m2:=U5 hp;obtain ⟨z1,z2,z3,z4⟩:=Yt (hw _ (List.getElem_mem hi)) r2.1 r2.2;have k1:=(aR.refl l).set (i:=i) z3;have k2:=(aR.refl l).set (i:=i) z4;rw [List.set_getElem_self,<- He hi] at k1;rw [List.set_getElem_self,<- Hf hi] at k2;have j1:=hw.set (i:=i) z1;have j2:=hw.set (i:=i) z2;rw [<- He hi] at j1;rw [<- Hf hi] at j2;have i1:=Hide.mk fun (H:Heap)=>ih H (fM l i x dt) (a+1) true (by omega) (k1.trans hs) j1 (by omega);have i2:=Hide.mk fun (H:Heap) (a':Nat) (b':Bool)=>ih H (pV l i x dt) a' b' (by omega) (k2.trans hs) j2;have hle:=Wq p.facts.xs tree.xs m (fM l i x dt) (a+1) (by omega);have p1':=Fj (f:=Box.cells) (sz:=4) (l:=l) (i:=i) (a:=pU l[i] x dt) (fun _=>rfl) (fun _=>rfl) (by decide) hi;have WB:=Fj (f:=Box.cells) (sz:=4) (l:=l.set i (pU l[i] x dt)) (i:=i) (a:=CZ l[i] x dt) (fun _=>rfl) (fun _=>rfl) (by decide) (by simpa using hi);have WC:=Fj (f:=Box.cells) (sz:=4) (l:=l.set i (CZ l[i] x dt)) (i:=i) (a:=l[i]) (fun _=>rfl) (fun _=>rfl) (by decide) (by simpa using hi);rw [List.set_set] at WB WC;rw [List.set_getElem_self] at WC;rw [<- He hi] at p1' WB;rw [<- Hf hi] at WB WC;have w2:IntKind.i64.wrap (dt+1)=dt+1:=by
    have h1:=r2.1;have h2:=r2.2
    refine wrap64 ?_ ?_<;>(unfold bA at h1 h2;by_cases e:x=0<;>simp only [e,if_true,if_false] at h1 h2<;>omega)
   obtain ⟨⟨b1,a1⟩,uV⟩:∃ r,rX p.facts.xs tree.xs m (fM l i x dt) (a+1)=r:=⟨_,rfl⟩
   have wK:Ia p tree m (fM l i x dt) (a+1) true=(b1,a1):=by unfold Ia;rw [if_pos rfl];exact uV
   rw [uV] at hR hle;rw [wK] at i1;simp only at hR hle;have jk:Ia p tree m (pV l i x dt) a1 b1=R:=by unfold Ia;exact hR
   have CE:=hle.2;have Jk:=Hide.mk (i2.h);clear hle uV wK hR ih hp m1 m2 z1 z2 z3 z4 k1 k2 j1 j2 i2 hd hm hs hw;generalize fM l i x dt=L1 at *;generalize pV l i x dt=L2 at *;rcases Aj with rfl|rfl
   .have r3:l[i].x.lo<=dt/\dt < l[i].x.hi:=r2;have r4:¬ dt < l[i].x.lo:=by omega
    have r5:¬ l[i].x.hi<=dt:=by omega
    simp only [pU,CZ,mr,bA,Box.cells,Span.cells,if_true,if_false,Nat.one_ne_zero,List.map] at p1' WB WC;clear r2 r3;(repeat' first|simp [*,zb,c90,Node.cells,Box.cells,Span.cells]|(apply za<;>intro _ h<;>try simp [-Nat.le_zero_eq] at h))
    refine LB Wz (AU (i1.h _ ?_ ?_) ?_)
    .unfold qW;simp [MX,uo,CU,xn,bC,oh,BI,BJ,uq,BK,BL,BM,BN,BO,xq,BP,BQ,BR,BS,BU,BV,xu,BX,BZ,Cb,Cc,Ce,Cf,Ci,Cj,Cm,CB]
    .rw [zn (by simp [MX,uo,CU,xn,bC,oh,BI,BJ,uq,BK,BL,BM,BN,BO,xq,BP,BQ,BR,BS,BU,BV,xu,BX,BZ,Cb,Cc,Ce,Cf,Ci,Cj,Cm,CB])]
    .intro H1 o1;have e0:=o1.same.get H.nx (by simp) uo;have e1:=o1.same.get (H.nx+1) (by simp) uq;have e3:=o1.same.get (H.nx+1+1+1) (by simp) xq;have el:=o1.same.get lb (by simp [MX,uo,CU,xn,bC,oh,BI,BJ,uq,BK,BL,BM,BN,BO,xq,BP,BQ,BR,BS,BU,BV,xu,BX,BZ,Cb,Cc,Ce,Cf,Ci,Cj,Cm,CB]) oh;have n1:=o1.same.nx;have Es:=o1.at_;have s1:Sm (fun j=>j=wb\/j=lb) H H1:=Sm.trans (by repeat (first|exact Sm.refl _ _|refine Sm.alloc ?_|refine Sm.set ?_ (by first|exact .inl (.inl rfl)|exact .inl (.inr rfl)|exact .inr (by first|omega|simp|(simp;omega))))) o1.same (fun j _ h=>.inl h);simp [MX,uo,CU,xn,bC,oh,BI,BJ,uq,BK,BL,BM,BN,BO,xq,BP,BQ,BR,BS,BU,BV,xu,BX,BZ,Cb,Cc,Ce,Cf,Ci,Cj,Cm,CB] at e0 e1 e3 el n1;unfold qW at Es;simp only at Es;have Tv:H.nx < H1.nx:=by omega
     have hA1:H.nx+1 < H1.nx:=by omega
     have hA3:H.nx+1+1+1 < H1.nx:=by omega
     have QI:lb < H1.nx:=by omega
     have hAw:wb < H1.nx:=by omega
     have JF:=Hide.mk o1.at_;clear o1 i1 n1 uX Js;(repeat' first|simp [*,zb]|(apply za<;>intro _ h<;>try simp [-Nat.le_zero_eq] at h))
     refine LB Wz (AU (Jk.h _ a1 b1 CE ?_ ?_) ?_)
     .rw [zg bC];exact JF.h
     .rw [zn QI]
     .intro H2 o2;have f0:=o2.same.get H.nx (by rw [lM];exact Tv) uo;have f1:=o2.same.get (H.nx+1) (by rw [lM];exact hA1) uq;have fl:=o2.same.get lb (by rw [lM];exact QI) oh;rw [zg xn,e0] at f0;rw [zg xu,e1] at f1;rw [zn QI] at fl;have n2:=o2.same.nx;rw [lM] at n2;have s2:Sm (fun j=>j=wb\/j=lb) H H2:=Sm.trans (s1.set (.inl (.inr rfl))) o2.same (fun j _ h=>.inl h);have at2:=o2.at_;rw [jk] at at2;have hB0:H.nx < H2.nx:=by omega
      have GJ:H.nx+1 < H2.nx:=by omega
      have hBl:lb < H2.nx:=by omega
      have QJ:=Hide.mk at2;have WE:=Hide.mk s2;clear o2 Jk e0 e1 e3 el Es at2 s1 s2 JF jk;(repeat' first|simp [*,zb]|(apply za<;>intro _ h<;>try simp [-Nat.le_zero_eq] at h))
      refine ⟨⟨by rw [lM];exact WE.h.nx,fun j h1 h2=>?_⟩,by rw [zg bC];exact QJ.h⟩
      by_cases hj:j=lb
      .rw [hj,zn hBl];exact ou.symm
      .rw [zg hj]
       refine WE.h.get j h1 fun h=>?_
       rcases h with h|h
       .exact h2 h
       .exact hj h
   .have r3:l[i].y.lo<=dt/\dt < l[i].y.hi:=r2;have r4:¬ dt < l[i].y.lo:=by omega
    have r5:¬ l[i].y.hi<=dt:=by omega
    simp only [pU,CZ,mr,bA,Box.cells,Span.cells,if_true,if_false,Nat.one_ne_zero,List.map] at p1' WB WC;clear r2 r3;(repeat' first|simp [*,zb,c90,Node.cells,Box.cells,Span.cells]|(apply za<;>intro _ h<;>try simp [-Nat.le_zero_eq] at h))
    refine LB Wz (AU (i1.h _ ?_ ?_) ?_)
    .unfold qW;simp [MX,uo,CU,xn,bC,oh,BI,BJ,uq,BK,BL,BM,BN,BO,xq,BP,BQ,BR,BS,BU,BV,xu,BX,BZ,Cb,Cc,Ce,Cf,Ci,Cj,Cm,CB]
    .rw [zn (by simp [MX,uo,CU,xn,bC,oh,BI,BJ,uq,BK,BL,BM,BN,BO,xq,BP,BQ,BR,BS,BU,BV,xu,BX,BZ,Cb,Cc,Ce,Cf,Ci,Cj,Cm,CB])]
    .intro H1 o1;have e0:=o1.same.get H.nx (by simp) uo;have e1:=o1.same.get (H.nx+1) (by simp) uq;have e3:=o1.same.get (H.nx+1+1+1) (by simp) xq;have el:=o1.same.get lb (by simp [MX,uo,CU,xn,bC,oh,BI,BJ,uq,BK,BL,BM,BN,BO,xq,BP,BQ,BR,BS,BU,BV,xu,BX,BZ,Cb,Cc,Ce,Cf,Ci,Cj,Cm,CB]) oh;have n1:=o1.same.nx;have Es:=o1.at_;have s1:Sm (fun j=>j=wb\/j=lb) H H1:=Sm.trans (by repeat (first|exact Sm.refl _ _|refine Sm.alloc ?_|refine Sm.set ?_ (by first|exact .inl (.inl rfl)|exact .inl (.inr rfl)|exact .inr (by first|omega|simp|(simp;omega))))) o1.same (fun j _ h=>.inl h);simp [MX,uo,CU,xn,bC,oh,BI,BJ,uq,BK,BL,BM,BN,BO,xq,BP,BQ,BR,BS,BU,BV,xu,BX,BZ,Cb,Cc,Ce,Cf,Ci,Cj,Cm,CB] at e0 e1 e3 el n1;unfold qW at Es;simp only at Es;have Tv:H.nx < H1.nx:=by omega
     have hA1:H.nx+1 < H1.nx:=by omega
     have hA3:H.nx+1+1+1 < H1.nx:=by omega
     have QI:lb < H1.nx:=by omega
     have hAw:wb < H1.nx:=by omega
     have JF:=Hide.mk o1.at_;clear o1 i1 n1 uX Js;(repeat' first|simp [*,zb]|(apply za<;>intro _ h<;>try simp [-Nat.le_zero_eq] at h))
     refine LB Wz (AU (Jk.h _ a1 b1 CE ?_ ?_) ?_)
     .rw [zg bC];exact JF.h
     .rw [zn QI]
     .intro H2 o2;have f0:=o2.same.get H.nx (by rw [lM];exact Tv) uo;have f1:=o2.same.get (H.nx+1) (by rw [lM];exact hA1) uq;have fl:=o2.same.get lb (by rw [lM];exact QI) oh;rw [zg xn,e0] at f0;rw [zg xu,e1] at f1;rw [zn QI] at fl;have n2:=o2.same.nx;rw [lM] at n2;have s2:Sm (fun j=>j=wb\/j=lb) H H2:=Sm.trans (s1.set (.inl (.inr rfl))) o2.same (fun j _ h=>.inl h);have at2:=o2.at_;rw [jk] at at2;have hB0:H.nx < H2.nx:=by omega
      have GJ:H.nx+1 < H2.nx:=by omega
      have hBl:lb < H2.nx:=by omega
      have QJ:=Hide.mk at2;have WE:=Hide.mk s2;clear o2 Jk e0 e1 e3 el Es at2 s1 s2 JF jk;(repeat' first|simp [*,zb]|(apply za<;>intro _ h<;>try simp [-Nat.le_zero_eq] at h))
      refine ⟨⟨by rw [lM];exact WE.h.nx,fun j h1 h2=>?_⟩,by rw [zg bC];exact QJ.h⟩
      by_cases hj:j=lb
      .rw [hj,zn hBl];exact ou.symm
      .rw [zg hj]
       refine WE.h.get j h1 fun h=>?_
       rcases h with h|h
       .exact h2 h
       .exact hj h
 obtain ⟨v',H',h1,rfl,h2⟩:=main;exact ⟨H',h1,h2⟩
theorem zi9 {p:Problem} (ok:ak p) {tree:Sl Node} (qx:tree.xs.length < 4000000000000000000) {wb lb N:Nat} (bC:wb≠lb) (hN:N=p.boxes.xs.length):∀ (m n:Nat) (H:Heap) (l:List Box) (a:Nat) (b:Bool),iU l < m->aR l p.boxes.xs->Wf l->a<=tree.xs.length->H.get wb=qW p tree a b->H.get lb=.cells true (zq Box.cells l) ->
  ∃ H',Vm.call G (n+m+8) (.fn 90) [.box wb 0,.row lb 4 0 N] H=some (.aQ [],H')/\FJ p tree wb H H' (Ia p tree m l a b)
 | 0,n,H,l,a,b,hm,_,_,_,_,_=>absurd hm (Nat.not_lt_zero _)
 | m+1,n,H,l,a,b,hm,hs,hw,ha,hn,hg=>by
  have:=zn8 ok qx (m:=m) (F:=n+m) bC hN (fun H l a b hm hs hw ha hn hg=>zi9 ok qx bC hN m n H l a b hm hs hw ha hn hg) H l a b hm hs hw ha hn hg;exact this
end Go.Proofs.YtmmhnfghklppiaaGreat.Vm
