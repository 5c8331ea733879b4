/- (*ref3.walk).fits: walked. -/
import Derived.Test.YtmmhnfghklppiaaGreatPk26
import Derived.Test.YtmmhnfghklppiaaGreatPk27
import Derived.Test.YtmmhnfghklppiaaGreatPk28
import Derived.Test.YtmmhnfghklppiaaGreatPk29
import Derived.Test.YtmmhnfghklppiaaGreatPk30
namespace Go.Proofs.YtmmhnfghklppiaaGreat.Vm
open Go
set_option linter.unusedSimpArgs false
set_option linter.unusedVariables false
set_option maxHeartbeats 8000000
set_option maxRecDepth 4000
theorem ze0:G.shared 90=true:=by decide
def wkC (p:Problem) (tree:Sl Node) (a:Nat) (b:Bool):AObj:=.cells true [.pure (p.boxes.pv Box.cells 4),.pure (p.facts.pv Fact.cells 9),.pure (tree.pv Node.cells 4),.pure (.int .i64 a),.pure (.bool b)]
structure RwOut (p:Problem) (tree:Sl Node) (wb:Nat) (H H':Heap) (r:Bool×Nat):Prop where
 same:Sm (·=wb) H H'
 at_:H'.get wb=wkC p tree r.2 r.1
def rwF (p:Problem) (tree:Sl Node) (m:Nat) (l:List Box) (a:Nat) (b:Bool):Bool×Nat:=if b=true then zbk p.facts.xs tree.xs m l a else (false,a)
theorem zol {p:Problem} (ok:CheckOk p) {tree:Sl Node} (htl:tree.xs.length < 4000000000000000000) {wb lb m F N:Nat} (hne:wb≠lb) (hN:N=p.boxes.xs.length)
  (ih:∀ (H:Heap) (l:List Box) (a:Nat) (b:Bool),muL l < m->SubL l p.boxes.xs->Wf l->a<=tree.xs.length->H.get wb=wkC p tree a b->H.get lb=.cells true (zn Box.cells l) ->
   ∃ H',Vm.call G (F+8) (.fn 90) [.box wb 0,.row lb 4 0 N] H=some (.tup [],H')/\RwOut p tree wb H H' (rwF p tree m l a b))
  (H:Heap) (l:List Box) (a:Nat) (b:Bool) (hm:muL l < m+1) (hs:SubL l p.boxes.xs) (hw:Wf l) (ha:a<=tree.xs.length) (hgw:H.get wb=wkC p tree a b) (hgl:H.get lb=.cells true (zn Box.cells l)) :
  ∃ H',Vm.call G (F+8+1) (.fn 90) [.box wb 0,.row lb 4 0 N] H=some (.tup [],H')/\RwOut p tree wb H H' (rwF p tree (m+1) l a b):=by
 have hwn:=zo hgw;have hln:=zo hgl;have hll:l.length=N:=by rw [hN];exact hs.1
 have nb12:N<=12:=by rw [hN];exact ok.nb
 clear hN;have nf:=ok.nf;have main:∃ v' H',Vm.call G (F+8+1) (.fn 90) [.box wb 0,.row lb 4 0 N] H=some (v',H')/\(v'=.tup []/\RwOut p tree wb H H' (rwF p tree (m+1) l a b)):=by
  refine zbY rfl g90 rfl ?_
  generalize hR:rwF p tree (m+1) l a b=R;unfold rwF at hR;unfold wkC at hgw
  cases b with
  | false =>
   rw [if_neg (by simp)] at hR;subst hR;clear ih
   by_cases hat:a < tree.xs.length
   ·have hatI:(a:Int) < tree.xs.length:=by omega
    have hatN:¬ tree.xs.length<=a:=by omega
    (repeat' first|simp [*,za,c90]|(apply zb<;>intro _ h<;>try simp [-Nat.le_zero_eq] at h));exact ⟨(by repeat (first|exact Sm.refl _ _|refine Sm.alloc ?_|refine Sm.set ?_ (by first|exact .inl rfl|exact .inr (by first|omega|simp|(simp;omega))))),(by rw [zq (by first|omega|(simp;omega))];unfold wkC;push_cast;rfl)⟩
   ·have hatI:¬ (a:Int) < tree.xs.length:=by omega
    have hatI2:(tree.xs.length:Int)<=a:=by omega
    have hatN:tree.xs.length<=a:=by omega
    (repeat' first|simp [*,za,c90]|(apply zb<;>intro _ h<;>try simp [-Nat.le_zero_eq] at h));exact ⟨(by repeat (first|exact Sm.refl _ _|refine Sm.alloc ?_|refine Sm.set ?_ (by first|exact .inl rfl|exact .inr (by first|omega|simp|(simp;omega))))),(by rw [zq (by first|omega|(simp;omega))];unfold wkC;push_cast;rfl)⟩
  | true =>
   rw [if_pos rfl] at hR;unfold zbk at hR
   by_cases hat:a < tree.xs.length
   case neg =>
    have e:tree.xs[a]?=none:=List.getElem?_eq_none (by omega);rw [e] at hR;subst hR;have hatI:¬ (a:Int) < tree.xs.length:=by omega
    have hatI2:(tree.xs.length:Int)<=a:=by omega
    have hatN:tree.xs.length<=a:=by omega
    clear ih;(repeat' first|simp [*,za,c90]|(apply zb<;>intro _ h<;>try simp [-Nat.le_zero_eq] at h));exact ⟨(by repeat (first|exact Sm.refl _ _|refine Sm.alloc ?_|refine Sm.set ?_ (by first|exact .inl rfl|exact .inr (by first|omega|simp|(simp;omega))))),(by rw [zq (by first|omega|(simp;omega))];unfold wkC;push_cast;rfl)⟩
   have e:tree.xs[a]?=some tree.xs[a]:=List.getElem?_eq_getElem hat;rw [e] at hR;simp only at hR;have hatI:(a:Int) < tree.xs.length:=by omega
   have hatN:¬ tree.xs.length<=a:=by omega
   have w1:IntKind.i64.wrap ((a:Int)+1)=(a:Int)+1:=wrap64 (by omega) (by omega);obtain ⟨⟨df,dp,dx,dt⟩,hd⟩:∃ d,d=tree.xs[a]:=⟨_,rfl⟩
   have had:=zax (k:=.i64) (f:=Node.cells) (sz:=4) (s:=tree) hat;rw [<- hd] at hR had;simp only at hR;have hwx:wb≠H.nx:=by omega
   have hwx2:H.nx≠wb:=by omega
   have hlx:lb≠H.nx:=by omega
   have hlx2:H.nx≠lb:=by omega
   have hne2:lb≠wb:=fun e=>hne e.symm;have hwn1:wb < H.nx+1:=by omega
   have hwx3:wb≠H.nx+1:=by omega
   have hwy3:H.nx+1≠wb:=by omega
   have hwn2:wb < H.nx+1+1:=by omega
   have hwx4:wb≠H.nx+1+1:=by omega
   have hwy4:H.nx+1+1≠wb:=by omega
   have hwn3:wb < H.nx+1+1+1:=by omega
   have hwx5:wb≠H.nx+1+1+1:=by omega
   have hwy5:H.nx+1+1+1≠wb:=by omega
   have hwn4:wb < H.nx+1+1+1+1:=by omega
   have hwx6:wb≠H.nx+1+1+1+1:=by omega
   have hwy6:H.nx+1+1+1+1≠wb:=by omega
   have hwn5:wb < H.nx+1+1+1+1+1:=by omega
   have hln1:lb < H.nx+1:=by omega
   have hlx3:lb≠H.nx+1:=by omega
   have hly3:H.nx+1≠lb:=by omega
   have hln2:lb < H.nx+1+1:=by omega
   have hlx4:lb≠H.nx+1+1:=by omega
   have hly4:H.nx+1+1≠lb:=by omega
   have hln3:lb < H.nx+1+1+1:=by omega
   have hlx5:lb≠H.nx+1+1+1:=by omega
   have hly5:H.nx+1+1+1≠lb:=by omega
   have hln4:lb < H.nx+1+1+1+1:=by omega
   have hlx6:lb≠H.nx+1+1+1+1:=by omega
   have hly6:H.nx+1+1+1+1≠lb:=by omega
   have hln5:lb < H.nx+1+1+1+1+1:=by omega
   by_cases hdf:df=-1
   case neg =>
    rw [if_pos hdf] at hR
    by_cases c0:0<=df
    case neg =>
     have hR2:R=(false,a+1):=by rw [<- hR];simp [c0]
     subst hR2;clear ih hR hd;(repeat' first|simp [*,za,c90,Node.cells]|(apply zb<;>intro _ h<;>try simp [-Nat.le_zero_eq] at h));exact ⟨(by repeat (first|exact Sm.refl _ _|refine Sm.alloc ?_|refine Sm.set ?_ (by first|exact .inl rfl|exact .inr (by first|omega|simp|(simp;omega))))),(by rw [zq (by first|omega|(simp;omega))];unfold wkC;push_cast;rfl)⟩
    by_cases c1:df < p.facts.xs.length
    case neg =>
     have hR2:R=(false,a+1):=by rw [<- hR];simp [c1]
     subst hR2;clear ih hR hd;(repeat' first|simp [*,za,c90,Node.cells]|(apply zb<;>intro _ h<;>try simp [-Nat.le_zero_eq] at h));exact ⟨(by repeat (first|exact Sm.refl _ _|refine Sm.alloc ?_|refine Sm.set ?_ (by first|exact .inl rfl|exact .inr (by first|omega|simp|(simp;omega))))),(by rw [zq (by first|omega|(simp;omega))];unfold wkC;push_cast;rfl)⟩
    obtain ⟨k,rfl⟩:∃ k:Nat,df=k:=⟨df.toNat,by omega⟩
    have hk:k < p.facts.xs.length:=by omega
    have hfk:=zax (k:=.i64) (f:=Fact.cells) (sz:=9) (s:=p.facts) hk;rw [Int.toNat_natCast,getElem!_pos p.facts.xs k hk] at hR;have hR2:R=(decide (dp=0)&&(decide (dx=0)&&(decide (dt=0)&&zJ p.facts.xs[k] l)),a+1):=by
     rw [<- hR];simp [c0,c1]
    clear hR
    by_cases c2:dp=0
    case neg =>
     have hR3:R=(false,a+1):=by rw [hR2];simp [c2]
     subst hR3;clear ih hd hR2;(repeat' first|simp [*,za,c90,Node.cells]|(apply zb<;>intro _ h<;>try simp [-Nat.le_zero_eq] at h));exact ⟨(by repeat (first|exact Sm.refl _ _|refine Sm.alloc ?_|refine Sm.set ?_ (by first|exact .inl rfl|exact .inr (by first|omega|simp|(simp;omega))))),(by rw [zq (by first|omega|(simp;omega))];unfold wkC;push_cast;rfl)⟩
    by_cases c3:dx=0
    case neg =>
     have hR3:R=(false,a+1):=by rw [hR2];simp [c3]
     subst hR3;clear ih hd hR2;(repeat' first|simp [*,za,c90,Node.cells]|(apply zb<;>intro _ h<;>try simp [-Nat.le_zero_eq] at h));exact ⟨(by repeat (first|exact Sm.refl _ _|refine Sm.alloc ?_|refine Sm.set ?_ (by first|exact .inl rfl|exact .inr (by first|omega|simp|(simp;omega))))),(by rw [zq (by first|omega|(simp;omega))];unfold wkC;push_cast;rfl)⟩
    by_cases c4:dt=0
    case neg =>
     have hR3:R=(false,a+1):=by rw [hR2];simp [c4]
     subst hR3;clear ih hd hR2;(repeat' first|simp [*,za,c90,Node.cells]|(apply zb<;>intro _ h<;>try simp [-Nat.le_zero_eq] at h));exact ⟨(by repeat (first|exact Sm.refl _ _|refine Sm.alloc ?_|refine Sm.set ?_ (by first|exact .inl rfl|exact .inr (by first|omega|simp|(simp;omega))))),(by rw [zq (by first|omega|(simp;omega))];unfold wkC;push_cast;rfl)⟩
    have hR3:R=(zJ p.facts.xs[k] l,a+1):=by rw [hR2];simp [c2,c3,c4]
    subst hR3;have hok:=zeG ok hs hw (List.getElem_mem hk);have hq:=(z8 _ _).1 (ok.fact _ (List.getElem_mem hk));have hq3:p.facts.xs[k].kind=3->0<=p.facts.xs[k].quarter/\p.facts.xs[k].quarter<=3:=fun h3=>by
     have:=(hq.2.2.2.2.2.2 (by omega)).2.2.2.2.2 h3;omega
    have hfl:∀ H2:Heap,H2.get lb=.cells true (zn Box.cells l)->zG (zt G (F+8)) H2 (.pure (.func 102 [])) [.pure (.agg p.facts.xs[k].cells),.row lb 4 0 N]=some (.val (.pure (.bool (zJ p.facts.xs[k] l)))):=fun H2 h=>by
     obtain ⟨s0,hs0,hf0⟩:=zcX (n:=10) (f:=Box.cells) (sz:=4) (fun _=>rfl) h hll;subst hs0;exact zb6 ztI (.cons (.pure _) (.cons hf0 .nil)) (e102 (F+1) p.facts.xs[k] s0 hok hq3) rfl
    simp only [Fact.cells,Span.cells] at hfl hfk;clear ih hd hR2 hok hq hq3;generalize zJ p.facts.xs[k] l=B at *;(repeat' first|simp [*,za,c90,Node.cells,Fact.cells,Span.cells]|(apply zb<;>intro _ h<;>try simp [-Nat.le_zero_eq] at h));exact ⟨(by repeat (first|exact Sm.refl _ _|refine Sm.alloc ?_|refine Sm.set ?_ (by first|exact .inl rfl|exact .inr (by first|omega|simp|(simp;omega))))),(by rw [zq (by first|omega|(simp;omega))];unfold wkC;push_cast;rfl)⟩
   subst hdf;rw [if_neg (by simp)] at hR
   by_cases p0:0<=dp
   case neg =>
    have q0:dp < 0:=by omega
    rw [if_neg (fun h=>p0 h.1)] at hR;subst hR;clear ih hd;(repeat' first|simp [*,za,c90,Node.cells]|(apply zb<;>intro _ h<;>try simp [-Nat.le_zero_eq] at h));exact ⟨(by repeat (first|exact Sm.refl _ _|refine Sm.alloc ?_|refine Sm.set ?_ (by first|exact .inl rfl|exact .inr (by first|omega|simp|(simp;omega))))),(by rw [zq (by first|omega|(simp;omega))];unfold wkC;push_cast;rfl)⟩
   have q0:¬ dp < 0:=by omega
   by_cases p1:dp < N
   case neg =>
    have q1:(N:Int)<=dp:=by omega
    rw [if_neg (fun h=>p1 (by rw [<- hll];exact h.2.1))] at hR;subst hR;clear ih hd;(repeat' first|simp [*,za,c90,Node.cells]|(apply zb<;>intro _ h<;>try simp [-Nat.le_zero_eq] at h));exact ⟨(by repeat (first|exact Sm.refl _ _|refine Sm.alloc ?_|refine Sm.set ?_ (by first|exact .inl rfl|exact .inr (by first|omega|simp|(simp;omega))))),(by rw [zq (by first|omega|(simp;omega))];unfold wkC;push_cast;rfl)⟩
   have q1:¬ (N:Int)<=dp:=by omega
   by_cases x0:0<=dx
   case neg =>
    have q2:dx < 0:=by omega
    rw [if_neg (fun h=>x0 h.2.2.1)] at hR;subst hR;clear ih hd;(repeat' first|simp [*,za,c90,Node.cells]|(apply zb<;>intro _ h<;>try simp [-Nat.le_zero_eq] at h));exact ⟨(by repeat (first|exact Sm.refl _ _|refine Sm.alloc ?_|refine Sm.set ?_ (by first|exact .inl rfl|exact .inr (by first|omega|simp|(simp;omega))))),(by rw [zq (by first|omega|(simp;omega))];unfold wkC;push_cast;rfl)⟩
   have q2:¬ dx < 0:=by omega
   by_cases x1:dx<=1
   case neg =>
    have x1':1 < dx:=by omega
    rw [if_neg (fun h=>x1 h.2.2.2)] at hR;subst hR;clear ih hd;(repeat' first|simp [*,za,c90,Node.cells]|(apply zb<;>intro _ h<;>try simp [-Nat.le_zero_eq] at h));exact ⟨(by repeat (first|exact Sm.refl _ _|refine Sm.alloc ?_|refine Sm.set ?_ (by first|exact .inl rfl|exact .inr (by first|omega|simp|(simp;omega))))),(by rw [zq (by first|omega|(simp;omega))];unfold wkC;push_cast;rfl)⟩
   have q3:¬ 1 < dx:=by omega
   rw [if_pos ⟨p0,by rw [hll];exact p1,x0,x1⟩] at hR;obtain ⟨i,rfl⟩:∃ i:Nat,dp=i:=⟨dp.toNat,by omega⟩
   obtain ⟨x,rfl⟩:∃ x:Nat,dx=x:=⟨dx.toNat,by omega⟩
   have hiN:i < N:=by omega
   have hi:i < l.length:=by omega
   have hx2:x < 2:=by omega
   rw [Int.toNat_natCast,Int.toNat_natCast,getElem!_pos l i hi] at hR;have hbx:=valid_iff.1 (zaQ ok hs hw _ (List.getElem_mem hi));have hx01:x=0\/x=1:=by omega
   by_cases r2:(axS l[i] x).lo<=dt/\dt < (axS l[i] x).hi
   case neg =>
    rw [if_neg r2] at hR;subst hR;clear ih hd;rcases hx01 with rfl|rfl
    ·have r3:¬ (l[i].x.lo<=dt/\dt < l[i].x.hi):=r2
     by_cases r4:dt < l[i].x.lo
     ·clear r2 r3;(repeat' first|simp [*,za,c90,Node.cells,Box.cells,Span.cells]|(apply zb<;>intro _ h<;>try simp [-Nat.le_zero_eq] at h));exact ⟨(by repeat (first|exact Sm.refl _ _|refine Sm.alloc ?_|refine Sm.set ?_ (by first|exact .inl rfl|exact .inr (by first|omega|simp|(simp;omega))))),(by rw [zq (by first|omega|(simp;omega))];unfold wkC;push_cast;rfl)⟩
     ·have r5:l[i].x.hi<=dt:=by omega
      clear r2 r3;(repeat' first|simp [*,za,c90,Node.cells,Box.cells,Span.cells]|(apply zb<;>intro _ h<;>try simp [-Nat.le_zero_eq] at h));exact ⟨(by repeat (first|exact Sm.refl _ _|refine Sm.alloc ?_|refine Sm.set ?_ (by first|exact .inl rfl|exact .inr (by first|omega|simp|(simp;omega))))),(by rw [zq (by first|omega|(simp;omega))];unfold wkC;push_cast;rfl)⟩
    ·have r3:¬ (l[i].y.lo<=dt/\dt < l[i].y.hi):=r2
     by_cases r4:dt < l[i].y.lo
     ·clear r2 r3;(repeat' first|simp [*,za,c90,Node.cells,Box.cells,Span.cells]|(apply zb<;>intro _ h<;>try simp [-Nat.le_zero_eq] at h));exact ⟨(by repeat (first|exact Sm.refl _ _|refine Sm.alloc ?_|refine Sm.set ?_ (by first|exact .inl rfl|exact .inr (by first|omega|simp|(simp;omega))))),(by rw [zq (by first|omega|(simp;omega))];unfold wkC;push_cast;rfl)⟩
     ·have r5:l[i].y.hi<=dt:=by omega
      clear r2 r3;(repeat' first|simp [*,za,c90,Node.cells,Box.cells,Span.cells]|(apply zb<;>intro _ h<;>try simp [-Nat.le_zero_eq] at h));exact ⟨(by repeat (first|exact Sm.refl _ _|refine Sm.alloc ?_|refine Sm.set ?_ (by first|exact .inl rfl|exact .inr (by first|omega|simp|(simp;omega))))),(by rw [zq (by first|omega|(simp;omega))];unfold wkC;push_cast;rfl)⟩
   rw [if_pos r2] at hR;have hp:Proper l i x dt:=⟨hi,hx2,r2.1,r2.2⟩
   have m1:=zhJ hp;have m2:=zgc hp;obtain ⟨z1,z2,z3,z4⟩:=zkT (hw _ (List.getElem_mem hi)) r2.1 r2.2;have k1:=(SubL.refl l).set (i:=i) z3;have k2:=(SubL.refl l).set (i:=i) z4;rw [List.set_getElem_self,<- zca hi] at k1;rw [List.set_getElem_self,<- zbD hi] at k2;have j1:=hw.set (i:=i) z1;have j2:=hw.set (i:=i) z2;rw [<- zca hi] at j1;rw [<- zbD hi] at j2;have i1:=Hide.mk fun (H:Heap)=>ih H (lowL l i x dt) (a+1) true (by omega) (k1.trans hs) j1 (by omega);have i2:=Hide.mk fun (H:Heap) (a':Nat) (b':Bool)=>ih H (za2 l i x dt) a' b' (by omega) (k2.trans hs) j2;have hle:=zgo p.facts.xs tree.xs m (lowL l i x dt) (a+1) (by omega);have p1':=za0 (f:=Box.cells) (sz:=4) (l:=l) (i:=i) (a:=lowS l[i] x dt) (fun _=>rfl) (fun _=>rfl) (by decide) hi;have p2':=za0 (f:=Box.cells) (sz:=4) (l:=l.set i (lowS l[i] x dt)) (i:=i) (a:=zc6 l[i] x dt) (fun _=>rfl) (fun _=>rfl) (by decide) (by simpa using hi);have p3':=za0 (f:=Box.cells) (sz:=4) (l:=l.set i (zc6 l[i] x dt)) (i:=i) (a:=l[i]) (fun _=>rfl) (fun _=>rfl) (by decide) (by simpa using hi);rw [List.set_set] at p2' p3';rw [List.set_getElem_self] at p3';rw [<- zca hi] at p1' p2';rw [<- zbD hi] at p2' p3';have w2:IntKind.i64.wrap (dt+1)=dt+1:=by
    have h1:=r2.1;have h2:=r2.2
    refine wrap64 ?_ ?_<;>(unfold axS at h1 h2;by_cases e:x=0<;>simp only [e,if_true,if_false] at h1 h2<;>omega)
   obtain ⟨⟨b1,a1⟩,hr1⟩:∃ r,zbk p.facts.xs tree.xs m (lowL l i x dt) (a+1)=r:=⟨_,rfl⟩
   have hi1:rwF p tree m (lowL l i x dt) (a+1) true=(b1,a1):=by unfold rwF;rw [if_pos rfl];exact hr1
   rw [hr1] at hR hle;rw [hi1] at i1;simp only at hR hle;have hR2:rwF p tree m (za2 l i x dt) a1 b1=R:=by unfold rwF;exact hR
   have hle2:=hle.2;have hsH:=Hide.mk (i2.h);clear hle hr1 hi1 hR ih hp m1 m2 z1 z2 z3 z4 k1 k2 j1 j2 i2 hd hm hs hw;generalize lowL l i x dt=L1 at *;generalize za2 l i x dt=L2 at *;rcases hx01 with rfl|rfl
   ·have r3:l[i].x.lo<=dt/\dt < l[i].x.hi:=r2;have r4:¬ dt < l[i].x.lo:=by omega
    have r5:¬ l[i].x.hi<=dt:=by omega
    simp only [lowS,zc6,putS,axS,Box.cells,Span.cells,if_true,if_false,Nat.one_ne_zero,List.map_cons,List.map_nil] at p1' p2' p3';clear r2 r3;(repeat' first|simp [*,za,c90,Node.cells,Box.cells,Span.cells]|(apply zb<;>intro _ h<;>try simp [-Nat.le_zero_eq] at h))
    refine zdj ze0 (zbI (i1.h _ ?_ ?_) ?_)
    ·unfold wkC;simp [hwx,hwx2,hlx,hlx2,hne,hne2,hwn1,hwx3,hwy3,hwn2,hwx4,hwy4,hwn3,hwx5,hwy5,hwn4,hwx6,hwy6,hwn5,hln1,hlx3,hly3,hln2,hlx4,hly4,hln3,hlx5,hly5,hln4,hlx6,hly6,hln5]
    ·rw [zq (by simp [hwx,hwx2,hlx,hlx2,hne,hne2,hwn1,hwx3,hwy3,hwn2,hwx4,hwy4,hwn3,hwx5,hwy5,hwn4,hwx6,hwy6,hwn5,hln1,hlx3,hly3,hln2,hlx4,hly4,hln3,hlx5,hly5,hln4,hlx6,hly6,hln5])]
    ·intro H1 o1;have e0:=o1.same.get H.nx (by simp) hwx2;have e1:=o1.same.get (H.nx+1) (by simp) hwy3;have e3:=o1.same.get (H.nx+1+1+1) (by simp) hwy5;have el:=o1.same.get lb (by simp [hwx,hwx2,hlx,hlx2,hne,hne2,hwn1,hwx3,hwy3,hwn2,hwx4,hwy4,hwn3,hwx5,hwy5,hwn4,hwx6,hwy6,hwn5,hln1,hlx3,hly3,hln2,hlx4,hly4,hln3,hlx5,hly5,hln4,hlx6,hly6,hln5]) hne2;have n1:=o1.same.nx;have gw1:=o1.at_;have s1:Sm (fun j=>j=wb\/j=lb) H H1:=Sm.trans (by repeat (first|exact Sm.refl _ _|refine Sm.alloc ?_|refine Sm.set ?_ (by first|exact .inl (.inl rfl)|exact .inl (.inr rfl)|exact .inr (by first|omega|simp|(simp;omega))))) o1.same (fun j _ h=>.inl h);simp [hwx,hwx2,hlx,hlx2,hne,hne2,hwn1,hwx3,hwy3,hwn2,hwx4,hwy4,hwn3,hwx5,hwy5,hwn4,hwx6,hwy6,hwn5,hln1,hlx3,hly3,hln2,hlx4,hly4,hln3,hlx5,hly5,hln4,hlx6,hly6,hln5] at e0 e1 e3 el n1;unfold wkC at gw1;simp only at gw1;have hA0:H.nx < H1.nx:=by omega
     have hA1:H.nx+1 < H1.nx:=by omega
     have hA3:H.nx+1+1+1 < H1.nx:=by omega
     have hAl:lb < H1.nx:=by omega
     have hAw:wb < H1.nx:=by omega
     have hgw1:=Hide.mk o1.at_;clear o1 i1 n1 hgw had;(repeat' first|simp [*,za]|(apply zb<;>intro _ h<;>try simp [-Nat.le_zero_eq] at h))
     refine zdj ze0 (zbI (hsH.h _ a1 b1 hle2 ?_ ?_) ?_)
     ·rw [ze hne];exact hgw1.h
     ·rw [zq hAl]
     ·intro H2 o2;have f0:=o2.same.get H.nx (by rw [zaw];exact hA0) hwx2;have f1:=o2.same.get (H.nx+1) (by rw [zaw];exact hA1) hwy3;have fl:=o2.same.get lb (by rw [zaw];exact hAl) hne2;rw [ze hlx2,e0] at f0;rw [ze hly3,e1] at f1;rw [zq hAl] at fl;have n2:=o2.same.nx;rw [zaw] at n2;have s2:Sm (fun j=>j=wb\/j=lb) H H2:=Sm.trans (s1.set (.inl (.inr rfl))) o2.same (fun j _ h=>.inl h);have at2:=o2.at_;rw [hR2] at at2;have hB0:H.nx < H2.nx:=by omega
      have hB1:H.nx+1 < H2.nx:=by omega
      have hBl:lb < H2.nx:=by omega
      have at2H:=Hide.mk at2;have s2H:=Hide.mk s2;clear o2 hsH e0 e1 e3 el gw1 at2 s1 s2 hgw1 hR2;(repeat' first|simp [*,za]|(apply zb<;>intro _ h<;>try simp [-Nat.le_zero_eq] at h))
      refine ⟨⟨by rw [zaw];exact s2H.h.nx,fun j h1 h2=>?_⟩,by rw [ze hne];exact at2H.h⟩
      by_cases hj:j=lb
      ·rw [hj,zq hBl];exact hgl.symm
      ·rw [ze hj]
       refine s2H.h.get j h1 fun h=>?_
       rcases h with h|h
       ·exact h2 h
       ·exact hj h
   ·have r3:l[i].y.lo<=dt/\dt < l[i].y.hi:=r2;have r4:¬ dt < l[i].y.lo:=by omega
    have r5:¬ l[i].y.hi<=dt:=by omega
    simp only [lowS,zc6,putS,axS,Box.cells,Span.cells,if_true,if_false,Nat.one_ne_zero,List.map_cons,List.map_nil] at p1' p2' p3';clear r2 r3;(repeat' first|simp [*,za,c90,Node.cells,Box.cells,Span.cells]|(apply zb<;>intro _ h<;>try simp [-Nat.le_zero_eq] at h))
    refine zdj ze0 (zbI (i1.h _ ?_ ?_) ?_)
    ·unfold wkC;simp [hwx,hwx2,hlx,hlx2,hne,hne2,hwn1,hwx3,hwy3,hwn2,hwx4,hwy4,hwn3,hwx5,hwy5,hwn4,hwx6,hwy6,hwn5,hln1,hlx3,hly3,hln2,hlx4,hly4,hln3,hlx5,hly5,hln4,hlx6,hly6,hln5]
    ·rw [zq (by simp [hwx,hwx2,hlx,hlx2,hne,hne2,hwn1,hwx3,hwy3,hwn2,hwx4,hwy4,hwn3,hwx5,hwy5,hwn4,hwx6,hwy6,hwn5,hln1,hlx3,hly3,hln2,hlx4,hly4,hln3,hlx5,hly5,hln4,hlx6,hly6,hln5])]
    ·intro H1 o1;have e0:=o1.same.get H.nx (by simp) hwx2;have e1:=o1.same.get (H.nx+1) (by simp) hwy3;have e3:=o1.same.get (H.nx+1+1+1) (by simp) hwy5;have el:=o1.same.get lb (by simp [hwx,hwx2,hlx,hlx2,hne,hne2,hwn1,hwx3,hwy3,hwn2,hwx4,hwy4,hwn3,hwx5,hwy5,hwn4,hwx6,hwy6,hwn5,hln1,hlx3,hly3,hln2,hlx4,hly4,hln3,hlx5,hly5,hln4,hlx6,hly6,hln5]) hne2;have n1:=o1.same.nx;have gw1:=o1.at_;have s1:Sm (fun j=>j=wb\/j=lb) H H1:=Sm.trans (by repeat (first|exact Sm.refl _ _|refine Sm.alloc ?_|refine Sm.set ?_ (by first|exact .inl (.inl rfl)|exact .inl (.inr rfl)|exact .inr (by first|omega|simp|(simp;omega))))) o1.same (fun j _ h=>.inl h);simp [hwx,hwx2,hlx,hlx2,hne,hne2,hwn1,hwx3,hwy3,hwn2,hwx4,hwy4,hwn3,hwx5,hwy5,hwn4,hwx6,hwy6,hwn5,hln1,hlx3,hly3,hln2,hlx4,hly4,hln3,hlx5,hly5,hln4,hlx6,hly6,hln5] at e0 e1 e3 el n1;unfold wkC at gw1;simp only at gw1;have hA0:H.nx < H1.nx:=by omega
     have hA1:H.nx+1 < H1.nx:=by omega
     have hA3:H.nx+1+1+1 < H1.nx:=by omega
     have hAl:lb < H1.nx:=by omega
     have hAw:wb < H1.nx:=by omega
     have hgw1:=Hide.mk o1.at_;clear o1 i1 n1 hgw had;(repeat' first|simp [*,za]|(apply zb<;>intro _ h<;>try simp [-Nat.le_zero_eq] at h))
     refine zdj ze0 (zbI (hsH.h _ a1 b1 hle2 ?_ ?_) ?_)
     ·rw [ze hne];exact hgw1.h
     ·rw [zq hAl]
     ·intro H2 o2;have f0:=o2.same.get H.nx (by rw [zaw];exact hA0) hwx2;have f1:=o2.same.get (H.nx+1) (by rw [zaw];exact hA1) hwy3;have fl:=o2.same.get lb (by rw [zaw];exact hAl) hne2;rw [ze hlx2,e0] at f0;rw [ze hly3,e1] at f1;rw [zq hAl] at fl;have n2:=o2.same.nx;rw [zaw] at n2;have s2:Sm (fun j=>j=wb\/j=lb) H H2:=Sm.trans (s1.set (.inl (.inr rfl))) o2.same (fun j _ h=>.inl h);have at2:=o2.at_;rw [hR2] at at2;have hB0:H.nx < H2.nx:=by omega
      have hB1:H.nx+1 < H2.nx:=by omega
      have hBl:lb < H2.nx:=by omega
      have at2H:=Hide.mk at2;have s2H:=Hide.mk s2;clear o2 hsH e0 e1 e3 el gw1 at2 s1 s2 hgw1 hR2;(repeat' first|simp [*,za]|(apply zb<;>intro _ h<;>try simp [-Nat.le_zero_eq] at h))
      refine ⟨⟨by rw [zaw];exact s2H.h.nx,fun j h1 h2=>?_⟩,by rw [ze hne];exact at2H.h⟩
      by_cases hj:j=lb
      ·rw [hj,zq hBl];exact hgl.symm
      ·rw [ze hj]
       refine s2H.h.get j h1 fun h=>?_
       rcases h with h|h
       ·exact h2 h
       ·exact hj h
 obtain ⟨v',H',h1,rfl,h2⟩:=main;exact ⟨H',h1,h2⟩
theorem zhR {p:Problem} (ok:CheckOk p) {tree:Sl Node} (htl:tree.xs.length < 4000000000000000000) {wb lb N:Nat} (hne:wb≠lb) (hN:N=p.boxes.xs.length):∀ (m n:Nat) (H:Heap) (l:List Box) (a:Nat) (b:Bool),muL l < m->SubL l p.boxes.xs->Wf l->a<=tree.xs.length->H.get wb=wkC p tree a b->H.get lb=.cells true (zn Box.cells l) ->
  ∃ H',Vm.call G (n+m+8) (.fn 90) [.box wb 0,.row lb 4 0 N] H=some (.tup [],H')/\RwOut p tree wb H H' (rwF p tree m l a b)
 | 0,n,H,l,a,b,hm,_,_,_,_,_=>absurd hm (Nat.not_lt_zero _)
 | m+1,n,H,l,a,b,hm,hs,hw,ha,hn,hg=>by
  have:=zol ok htl (m:=m) (F:=n+m) hne hN (fun H l a b hm hs hw ha hn hg=>zhR ok htl hne hN m n H l a b hm hs hw ha hn hg) H l a b hm hs hw ha hn hg;exact this
end Go.Proofs.YtmmhnfghklppiaaGreat.Vm
