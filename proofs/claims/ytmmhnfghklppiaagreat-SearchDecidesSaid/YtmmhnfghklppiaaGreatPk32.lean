/- with, further and Decide: the program's, walked. Few, boxes, ints, With and lies of the laws, walked. -/
import Derived.Test.YtmmhnfghklppiaaGreatPk26
import Derived.Test.YtmmhnfghklppiaaGreatPk18
namespace Go.Proofs.YtmmhnfghklppiaaGreat.Vm
open Go
set_option linter.unusedSimpArgs false
set_option linter.unusedVariables false
set_option maxHeartbeats 4000000
set_option maxRecDepth 4000
def zcx (f:Fact) (t:Bool):Fact:={ f with nt:=f.nt != t }
def zad (p:Problem) (f:Fact) (t:Bool):Problem:=⟨p.boxes,.mk false (p.facts.xs++[zcx f t])⟩
theorem zpq:G.shared 98=true:=by decide
theorem zlI {n:Nat} {H:Heap} {s:Sl Fact} {k:AV->Heap->Prop} (hl:s.xs.length < 1000)
  (hk:∀ v' H',OwnV Fact.cells 9 H' v' s.xs->isNil .slice v'=some s.isNil->H.nx<=H'.nx->(∀ id,id < H.nx->H'.get id=H.get id)->(∀ id,Names v' id->H.nx<=id)->k v' H') :
  ∃ v H',Vm.call G (n+1) (.fn 98) [.pure (s.pv Fact.cells 9)] H=some (v,H')/\k v H':=by
 refine zfG (f:=Fact.cells) (sz:=9) (bytes:=72) (l:=s.xs) (b:=s.isNil) (fun _=>rfl) g98 ?_ ?_ (fun h=>?_) (fun _=>rfl) (by decide) (fun _=>rfl) ?_ hk
 ·exact zaV (f:=Fact.cells) (sz:=9) (fun _=>rfl) _
 ·simp
 ·cases s with
  | nil=>rfl
  | mk h l=>simp [Sl.isNil] at h
 ·simp only [zu];omega
theorem zgZ {r:Option Eff} {H:Heap} {x:AV} {k:AV->Heap->Prop} {u} (h:∃ v H',r=some (.upd v H')/\keeps H H' x=true/\k v H'):wpE 0 (match (generalizing:=false) r with
  | some (.upd v H2)=>if keeps H H2 x=true then some (.upd v H2) else none
  | _=>none) H k u:=by
 obtain ⟨v,H',rfl,h2,h3⟩:=h;simp only [h2,if_true,zde];exact h3
theorem zf0 {n f:Nat} {H:Heap} {args:List AV} {P:AV->Heap->Prop} (hs:G.shared f=true) (h:∃ v H',Vm.call G (n+1) (.fn f) args H=some (v,H')/\P v H'):∃ v H',zG (zt G (n+1)) H (.pure (.func f [])) args=some (.upd v H')/\P v H':=by
 obtain ⟨v,H',h1,h2⟩:=h
 refine ⟨v,H',?_,h2⟩
 have hs':(zt G (n+1)).shared f=true:=hs;have h1':(zt G (n+1)).run f args H=some (v,H'):=h1;simp only [zG,List.map_nil,List.append_nil,hs',if_true,h1']
theorem sh49:G.shared 49=false:=by decide
theorem e49 (n:Nat) (p:Problem) (f:Fact) (t:Bool) (hl:p.facts.xs.length < 900):zH G (n+2) 49 [.agg p.cells,.agg f.cells,.bool t]=some (.agg (zad p f t).cells):=by
 refine zy (zx _) rfl g49 rfl ?_
 obtain ⟨bs,fs⟩:=p;obtain ⟨d1,d2,d3,da,db,dc,⟨d4,d5⟩,d6⟩:=f;have hl':fs.xs.length < 900:=hl;clear hl;(repeat' first|simp [*,za,c49,Problem.cells,Fact.cells,Span.cells,zjJ,chunks]|(apply zb<;>intro _ h<;>try simp [-Nat.le_zero_eq] at h))
 refine zgZ (zf0 (n:=n) zpq (zlI (s:=fs) (by omega) ?_))
 intro v H' hv hvn hnx hsame hnew;have hsm:=hsame 1 (by simp);have k0:H'.get 0=.cells true [.pure (bs.pv Box.cells 4),.pure (fs.pv Fact.cells 9)]:=by
  rw [hsame 0 (by simp)];simp
 have k2:H'.get 2=.cells true [.pure .nils,.pure .nils]:=by
  rw [hsame 2 (by simp)];simp
 refine ⟨?_,?_⟩
 ·unfold keeps;simp only;rw [hsm,zq (by simp)];simp [zaX,PV.plainEq]
 have n3:2 < H'.nx:=by simp at hnx;omega
 have hnw:∀ id,Names v id->2 < id:=fun id h=>by have:=hnew id h;simp at this;omega
 have hvo:=hv.one;have hvo1:=hvo.1;have hvo2:=hvo.2;have hnwH:=Hide.mk hnw;clear hnx hsame hnew hsm hnw;(repeat' first|simp [*,za]|(apply zb<;>intro _ h<;>try simp [-Nat.le_zero_eq] at h))
 refine zcl (f:=Fact.cells) (sz:=9) (l:=fs.xs) (m:=[⟨d1,d2,d3 != t,da,db,dc,⟨d4,d5⟩,d6⟩]) hv (fun _=>rfl) (by decide) (fun _=>rfl) ?_ (by simp [zu];omega) ?_
 ·simp [zL,zn,Fact.cells,Span.cells,bne]
 intro v4 H4 hv4 hnx4 hs4 hn4;have g0:H4.get 0=.cells true [.pure (bs.pv Box.cells 4),.pure (fs.pv Fact.cells 9)]:=by
  rw [hs4 0 (by omega) (fun h=>by have:=hnwH.h 0 h;omega)];exact k0
 have g2:H4.get 2=.cells true [.pure .nils,.pure .nils]:=by
  rw [hs4 2 (by omega) (fun h=>by have:=hnwH.h 2 h;omega)];exact k2
 have gn:2 < H4.nx:=by omega
 have gn0:0 < H4.nx:=by omega
 have o4:=hv4.one;have o4a:=o4.1;have o4b:=o4.2;have hlow:∀ id,Names v4 id->2 < id:=fun id h=>by
  rcases hn4 id h with h|h
  ·exact hnwH.h id h
  ·omega
 have hres:∀ o o2,FrzK ((H4.set 0 o).set 2 o2) false 11 v4 ((Sl.mk false (fs.xs++[⟨d1,d2,d3 != t,da,db,dc,⟨d4,d5⟩,d6⟩])).pv Fact.cells 9):=fun o o2=>by
  refine OwnV.mkRes (n:=9) (hv4.keep fun id ⟨n,hn⟩=>?_) (fun _=>rfl) (by simp)
  have:=hlow id ⟨_,_,_,hn⟩;rw [ze (by omega),ze (by omega)]
 obtain ⟨ids,hids⟩:=FrzK.aggV (n:=11) (FrzL.cons (FrzK.pure (bs.pv Box.cells 4)) (.cons (hres (.cells true [.pure (bs.pv Box.cells 4),v4]) (.cells true [.pure (bs.pv Box.cells 4),v4])) .nil));have hw:zad ⟨bs,fs⟩ ⟨d1,d2,d3,da,db,dc,⟨d4,d5⟩,d6⟩ t=⟨bs,.mk false (fs.xs++[⟨d1,d2,d3 != t,da,db,dc,⟨d4,d5⟩,d6⟩])⟩:=rfl;clear hv4 hres hs4 hn4 hlow hv hvn hnwH k0 k2 o4;generalize (Sl.mk false (fs.xs++[⟨d1,d2,d3 != t,da,db,dc,⟨d4,d5⟩,d6⟩]))=S at *;(repeat' first|simp [*,za]|(apply zb<;>intro _ h<;>try simp [-Nat.le_zero_eq] at h));exact ⟨ids,hids⟩
def zD (p:Problem) (f:Fact):Int:=if zac p≠0 then zac p else if zaa f p.boxes.xs.length=true then (if p.facts.xs.length ≥ 60 then 2 else 0) else 1
theorem sh47:G.shared 47=false:=by decide
theorem e47 (n:Nat) (p:Problem) (f:Fact):zH G (n+4) 47 [.agg p.cells,.agg f.cells]=some (.int .i64 (zD p f)):=by
 refine zy (zx _) rfl g47 rfl ?_
 have hc:=fun H=>zf (G:=G) (n:=n+3) (H:=H) (caps:=[]) (ps:=[.agg p.cells]) sh45 (e45 n p);simp only [Problem.cells,List.map_cons,List.map_nil] at hc
 by_cases h0:zac p=0
 case neg =>
  have hr:zD p f=zac p:=by unfold zD;rw [if_pos h0]
  rw [hr];generalize zac p=c at *;clear hr;(repeat' first|simp [*,za,c47,Problem.cells,Fact.cells,Span.cells]|(apply zb<;>intro _ h<;>try simp [-Nat.le_zero_eq] at h))
 case pos =>
  have ok:=check_ok.1 h0;have nb:=ok.nb;have nf:=ok.nf;have hf:=fun H=>zf (G:=G) (n:=n+3) (H:=H) (caps:=[]) (ps:=[.agg f.cells,.int .i64 p.boxes.xs.length]) sh93 (e93 (n+1) f p.boxes.xs.length (by omega));have hr:zD p f=if zaa f p.boxes.xs.length=true then (if p.facts.xs.length ≥ 60 then 2 else 0) else 1:=by unfold zD;rw [if_neg (by simp [h0])]
  rw [hr];rw [h0] at hc;simp only [Fact.cells,Span.cells,List.map_cons,List.map_nil] at hf;clear hr h0 ok
  cases hb:zaa f p.boxes.xs.length with
  | false =>
   rw [hb] at hf;clear hb;(repeat' first|simp [*,za,c47,Problem.cells,Fact.cells,Span.cells]|(apply zb<;>intro _ h<;>try simp [-Nat.le_zero_eq] at h))
  | true =>
   rw [hb] at hf;clear hb
   by_cases h60:p.facts.xs.length ≥ 60
   ·have h6:(60:Int)<=p.facts.xs.length:=by omega
    (repeat' first|simp [*,za,c47,Problem.cells,Fact.cells,Span.cells]|(apply zb<;>intro _ h<;>try simp [-Nat.le_zero_eq] at h))
   ·have h6:¬ (60:Int)<=p.facts.xs.length:=by omega
    (repeat' first|simp [*,za,c47,Problem.cells,Fact.cells,Span.cells]|(apply zb<;>intro _ h<;>try simp [-Nat.le_zero_eq] at h))
def za9 (e0:Int) (D1:FoundD) (e1:Int) (D2:FoundD) (e2:Int) (D3:FoundD) (e3:Int):Int×Int :=
 if e0≠0 then (0,e0) else if e1≠0\/e2≠0\/e3≠0 then (0,2) else if D1.empty=true then (0,9) else if D3.empty=true then (2,0) else if D2.empty=true then (1,0) else (3,0)
theorem zmc {f:Fact} {t:Bool} {n:Nat} (h:zaa f n=true):zaa (zcx f t) n=true:=by
 rw [z8] at *;exact h
theorem zcb {p:Problem} {f:Fact} {t:Bool} (h:zD p f=0):CheckOk p/\CheckOk (zad p f t)/\zaa f p.boxes.xs.length=true:=by
 unfold zD at h
 split at h
 ·omega
 ·rename_i h0;have ok:=check_ok.1 (by omega:zac p=0)
  split at h
  ·rename_i hb
   split at h
   ·simp at h
   ·rename_i h60
    refine ⟨ok,⟨ok.nb,?_,ok.box,fun g hg=>?_⟩,hb⟩
    ·show (p.facts.xs++[zcx f t]).length<=60;simp;omega
    ·have hg':g∈p.facts.xs++[zcx f t]:=hg;rcases List.mem_append.1 hg' with hg|hg
     ·exact ok.fact g hg
     ·simp at hg;subst hg;exact zmc hb
  ·simp at h
theorem sh15:G.shared 15=false:=by decide
theorem e15 (n:Nat) (p:Problem) (f:Fact) (D1 D2 D3:FoundD) (e1 e2 e3:Int) (h:zD p f=0->FindOut p D1 e1/\FindOut (zad p f false) D2 e2/\FindOut (zad p f true) D3 e3):zH G (n+52) 15 [.agg p.cells,.agg f.cells]=some (.tup [.int .i64 (za9 (zD p f) D1 e1 D2 e2 D3 e3).1,.int .i64 (za9 (zD p f) D1 e1 D2 e2 D3 e3).2]):=by
 refine zy (zx _) rfl g15 rfl ?_
 have hc:=fun H=>zf (G:=G) (n:=n+51) (H:=H) (caps:=[]) (ps:=[.agg p.cells,.agg f.cells]) sh47 (e47 (n+47) p f);simp only [Problem.cells,Fact.cells,Span.cells,List.map_cons,List.map_nil] at hc
 by_cases h0:zD p f=0
 case neg =>
  have hr:za9 (zD p f) D1 e1 D2 e2 D3 e3=(0,zD p f):=by unfold za9;rw [if_pos h0]
  rw [hr];generalize zD p f=c at *;clear hr h;(repeat' first|simp [*,za,c15,Problem.cells,Fact.cells,Span.cells]|(apply zb<;>intro _ h<;>try simp [-Nat.le_zero_eq] at h))
 case pos =>
  obtain ⟨f1,f2,f3⟩:=h h0;obtain ⟨ok,ok2,hb⟩:=zcb (t:=false) h0;obtain ⟨_,ok3,_⟩:=zcb (t:=true) h0;have nf:=ok.nf;have b1:=fun H=>zf (G:=G) (n:=n+51) (H:=H) (caps:=[]) (ps:=[.agg p.cells]) sh48 (e48 n p ok D1 e1 f1);have b2:=fun H=>zf (G:=G) (n:=n+51) (H:=H) (caps:=[]) (ps:=[.agg (zad p f false).cells]) sh48 (e48 n (zad p f false) ok2 D2 e2 f2);have b3:=fun H=>zf (G:=G) (n:=n+51) (H:=H) (caps:=[]) (ps:=[.agg (zad p f true).cells]) sh48 (e48 n (zad p f true) ok3 D3 e3 f3);have w2:=fun H=>zf (G:=G) (n:=n+51) (H:=H) (caps:=[]) (ps:=[.agg p.cells,.agg f.cells,.bool false]) sh49 (e49 (n+49) p f false (by omega));have w3:=fun H=>zf (G:=G) (n:=n+51) (H:=H) (caps:=[]) (ps:=[.agg p.cells,.agg f.cells,.bool true]) sh49 (e49 (n+49) p f true (by omega));rw [h0] at hc ⊢;have hrr:=Hide.mk (show za9 0 D1 e1 D2 e2 D3 e3=_ from rfl);obtain ⟨q2,hq2⟩:∃ q,q=PV.agg (zad p f false).cells:=⟨_,rfl⟩
  obtain ⟨q3,hq3⟩:∃ q,q=PV.agg (zad p f true).cells:=⟨_,rfl⟩
  rw [<- hq2] at b2 w2;rw [<- hq3] at b3 w3;simp only [Problem.cells,Fact.cells,Span.cells,FoundD.cells,List.map_cons,List.map_nil] at b1 b2 b3 w2 w3;clear hq2 hq3 f1 f2 f3 ok ok2 ok3 hb h h0 hrr;obtain ⟨E1,S1⟩:=D1;obtain ⟨E2,S2⟩:=D2;obtain ⟨E3,S3⟩:=D3;unfold za9;simp only at *;generalize (Sl.of S1)=T1 at *;generalize (Sl.of S2)=T2 at *;generalize (Sl.of S3)=T3 at *
  by_cases h1:e1=0
  ·by_cases h2:e2=0
   ·by_cases h3:e3=0
    ·subst h1 h2 h3
     cases E1<;>cases E2<;>cases E3<;>(repeat' first|simp [*,za,c15,Problem.cells,Fact.cells,Span.cells]|(apply zb<;>intro _ h<;>try simp [-Nat.le_zero_eq] at h))
    ·(repeat' first|simp [*,za,c15,Problem.cells,Fact.cells,Span.cells]|(apply zb<;>intro _ h<;>try simp [-Nat.le_zero_eq] at h))
   ·(repeat' first|simp [*,za,c15,Problem.cells,Fact.cells,Span.cells]|(apply zb<;>intro _ h<;>try simp [-Nat.le_zero_eq] at h))
  ·(repeat' first|simp [*,za,c15,Problem.cells,Fact.cells,Span.cells]|(apply zb<;>intro _ h<;>try simp [-Nat.le_zero_eq] at h))
def zhm (b:Box):Bool:=zan b&&(decide (60 < b.x.hi - b.x.lo)||decide (60 < b.y.hi - b.y.lo))
def fewB (p:Problem):Bool:=decide (p.boxes.xs.length<=5)&&decide (p.facts.xs.length<=16)&&p.boxes.xs.all fun b=>!zhm b
def zrW (l:List Box) (i:Nat):Prop:=∀ j (h:j < l.length),j < i->zhm l[j]=false
theorem sh10:G.shared 10=false:=by decide
theorem e10 (n:Nat) (p:Problem):zH G (n+3) 10 [.agg p.cells]=some (.bool (fewB p)):=by
 refine zy (zx _) rfl g10 rfl ?_
 obtain ⟨bs,fs⟩:=p;have hvd:Hide (∀ b:Box,∀ H,zG (zt G (n+2)) H (.pure (.func 37 [])) [.pure (.agg b.cells)]=some (.val (.pure (.bool (zan b))))):=⟨fun b H=>zf (caps:=[]) (ps:=[_]) sh37 (e37 n b)⟩
 by_cases h1:5 < bs.xs.length
 ·have h1I:(5:Int) < bs.xs.length:=by omega
  have hR:fewB ⟨bs,fs⟩=false:=by
   have:decide (bs.xs.length<=5)=false:=by simp;omega
   simp [fewB,this]
  rw [hR];(repeat' first|simp [*,za,c10,Problem.cells]|(apply zb<;>intro _ h<;>try simp [-Nat.le_zero_eq] at h))
 have h1I:¬ (5:Int) < bs.xs.length:=by omega
 by_cases h2:16 < fs.xs.length
 ·have h2I:(16:Int) < fs.xs.length:=by omega
  have hR:fewB ⟨bs,fs⟩=false:=by
   have:decide (fs.xs.length<=16)=false:=by simp;omega
   simp [fewB,this]
  rw [hR];(repeat' first|simp [*,za,c10,Problem.cells]|(apply zb<;>intro _ h<;>try simp [-Nat.le_zero_eq] at h))
 have h2I:¬ (16:Int) < fs.xs.length:=by omega
 have hRe:Hide (fewB ⟨bs,fs⟩=bs.xs.all fun b=>!zhm b):=⟨by
  have a1:decide (bs.xs.length<=5)=true:=by simp;omega
  have a2:decide (fs.xs.length<=16)=true:=by simp;omega
  simp [fewB,a1,a2]⟩
 generalize hR:fewB ⟨bs,fs⟩=R;rw [hR] at hRe;clear hR;(repeat' first|simp [*,za,c10,Problem.cells]|(apply zb<;>intro _ h<;>try simp [-Nat.le_zero_eq] at h))
 refine zB [(2,5),(16,50)] (fun (i:Nat) env H=>env 3=.pure (.int .i64 i)/\i<=bs.xs.length/\Hide (zrW bs.xs i)) (fun i=>bs.xs.length - i) 0 ?_ ?_ ?_ ?_
 ·decide
 ·exact ⟨by simp,by omega,⟨fun _ _ h=>by omega⟩⟩
 ·simp only [zz];omega
 rintro i env H ⟨g3,hi,hn⟩
 by_cases hlt:i < bs.xs.length
 ·have w1:IntKind.i64.wrap ((i:Int)+1)=(i+1:Nat):=by rw [wrap64 (by omega) (by omega)];omega
  have hltI:(i:Int) < bs.xs.length:=by omega
  have c1:=hvd.h bs.xs[i];simp only [Box.cells,Span.cells] at c1
  by_cases hw:zhm bs.xs[i]=true
  ·have hRf:R=false:=by
    rw [hRe.h,List.all_eq_false];exact ⟨_,List.getElem_mem hlt,by simp [hw]⟩
   subst hRf;unfold zhm at hw;rw [Bool.and_eq_true,Bool.or_eq_true,decide_eq_true_eq,decide_eq_true_eq] at hw;obtain ⟨hv,hw⟩:=hw;have hvv:=valid_iff.1 hv;have x1:IntKind.i64.wrap (bs.xs[i].x.hi - bs.xs[i].x.lo)=bs.xs[i].x.hi - bs.xs[i].x.lo:=wrap64 (by omega) (by omega);have x2:IntKind.i64.wrap (bs.xs[i].y.hi - bs.xs[i].y.lo)=bs.xs[i].y.hi - bs.xs[i].y.lo:=wrap64 (by omega) (by omega);rw [hv] at c1;clear hRe hn hvv hv hvd
   by_cases hx:60 < bs.xs[i].x.hi - bs.xs[i].x.lo
   ·clear hw;(repeat' first|simp [*,za,Box.cells,Span.cells]|(apply zb<;>intro _ h<;>try simp [-Nat.le_zero_eq] at h))
   ·have hy:60 < bs.xs[i].y.hi - bs.xs[i].y.lo:=by omega
    clear hw;(repeat' first|simp [*,za,Box.cells,Span.cells]|(apply zb<;>intro _ h<;>try simp [-Nat.le_zero_eq] at h))
  ·have hw':zhm bs.xs[i]=false:=by simpa using hw
   have hn':Hide (zrW bs.xs (i+1)):=⟨fun j h hj=>by
    by_cases e:j=i
    ·subst e;exact hw'
    ·exact hn.h j h (by omega)⟩
   clear hw hn;unfold zhm at hw'
   cases hv:zan bs.xs[i] with
   | false =>
    rw [hv] at c1;clear hw' hRe hvd hv;(repeat' first|simp [*,za,Box.cells,Span.cells]|(apply zb<;>intro _ h<;>try simp [-Nat.le_zero_eq] at h));exact ⟨i+1,by omega,by omega,by omega,hn'⟩
   | true =>
    rw [hv] at hw' c1;rw [Bool.true_and,Bool.or_eq_false_iff,decide_eq_false_iff_not,decide_eq_false_iff_not] at hw';obtain ⟨hx,hy⟩:=hw';have hvv:=valid_iff.1 hv;have x1:IntKind.i64.wrap (bs.xs[i].x.hi - bs.xs[i].x.lo)=bs.xs[i].x.hi - bs.xs[i].x.lo:=wrap64 (by omega) (by omega);have x2:IntKind.i64.wrap (bs.xs[i].y.hi - bs.xs[i].y.lo)=bs.xs[i].y.hi - bs.xs[i].y.lo:=wrap64 (by omega) (by omega);clear hRe hvv hv hvd;(repeat' first|simp [*,za,Box.cells,Span.cells]|(apply zb<;>intro _ h<;>try simp [-Nat.le_zero_eq] at h));exact ⟨i+1,by omega,by omega,by omega,hn'⟩
 ·have hiN:i=bs.xs.length:=by omega
  subst hiN;have hRt:R=true:=by
   rw [hRe.h,List.all_eq_true];intro b hb;obtain ⟨j,hj,rfl⟩:=List.mem_iff_getElem.1 hb;rw [hn.h j hj hj];rfl
  subst hRt;clear hn hRe hvd;(repeat' first|simp [*,za]|(apply zb<;>intro _ h<;>try simp [-Nat.le_zero_eq] at h))
theorem sh35:G.shared 35=false:=by decide
theorem e35 (n:Nat) (p:Problem) (f:Fact) (hl:p.facts.xs.length < 900):zH G (n+1) 35 [.agg p.cells,.agg f.cells]=some (.agg (zad p f false).cells):=by
 refine zy (zx _) rfl g35 rfl ?_
 obtain ⟨bs,fs⟩:=p;obtain ⟨d1,d2,d3,da,db,dc,⟨d4,d5⟩,d6⟩:=f;have hl':fs.xs.length < 900:=hl;clear hl;(repeat' first|simp [*,za,c35,Problem.cells,Fact.cells,Span.cells]|(apply zb<;>intro _ h<;>try simp [-Nat.le_zero_eq] at h))
 refine zlO (f:=Fact.cells) (sz:=9) (l:=fs.xs) (zaV (f:=Fact.cells) (sz:=9) (fun _=>rfl) _) (by simp) (fun _=>rfl) (by simp only [zu];omega) ?_
 intro v H1 hv hnx hsame hnew;have h0:H1.get 0=.cells true [.pure .nils,.pure .nils]:=by rw [hsame 0 (by simp)];simp
 have hnx1:2<=H1.nx:=by simpa using hnx
 have hlow:Hide (∀ id,Names v id->0 < id):=⟨fun id h=>by
  rcases hnew id h with h|h
  ·omega
  ·simp at h;omega⟩
 have hvH:=Hide.mk hv;have hvo:=hv.one;have hvo1:=hvo.1;have hvo2:=hvo.2;clear hv hnx hsame hnew hvo;(repeat' first|simp [*,za]|(apply zb<;>intro _ h<;>try simp [-Nat.le_zero_eq] at h))
 refine zcl (f:=Fact.cells) (sz:=9) (l:=fs.xs) (m:=[⟨d1,d2,d3,da,db,dc,⟨d4,d5⟩,d6⟩]) (hvH.h.alloc _) (fun _=>rfl) (by decide) (fun _=>rfl) ?_ (by simp [zu];omega) ?_
 ·simp [zn,Fact.cells,Span.cells]
 intro v4 H4 hv4 hnx4 hs4 hn4;have g0:H4.get 0=.cells true [.pure .nils,.pure .nils]:=by
  rw [hs4 0 (by rw [zam];omega) (fun h=>by have:=hlow.h 0 h;omega),zh (by omega)];exact h0
 have gn:0 < H4.nx:=by rw [zam] at hnx4;omega
 have o4:=hv4.one;have o4a:=o4.1;have o4b:=o4.2;have hlow4:∀ id,Names v4 id->0 < id:=fun id h=>by
  rcases hn4 id h with h|h
  ·exact hlow.h id h
  ·rw [zam] at h;omega
 have hres:∀ o,FrzK (H4.set 0 o) false 11 v4 ((Sl.mk false (fs.xs++[⟨d1,d2,d3,da,db,dc,⟨d4,d5⟩,d6⟩])).pv Fact.cells 9):=fun o=>by
  refine OwnV.mkRes (n:=9) (hv4.keep fun id ⟨n,hn⟩=>?_) (fun _=>rfl) (by simp)
  have:=hlow4 id ⟨_,_,_,hn⟩;rw [ze (by omega)]
 obtain ⟨ids,hids⟩:=FrzK.aggV (n:=11) (FrzL.cons (FrzK.pure (bs.pv Box.cells 4)) (.cons (hres (.cells true [.pure (bs.pv Box.cells 4),v4])) .nil));have hw:zad ⟨bs,fs⟩ ⟨d1,d2,d3,da,db,dc,⟨d4,d5⟩,d6⟩ false=⟨bs,.mk false (fs.xs++[⟨d1,d2,d3,da,db,dc,⟨d4,d5⟩,d6⟩])⟩:=by simp [zad,zcx]
 clear hv4 hres hs4 hn4 hlow hlow4 hvH h0 o4 hnx4;generalize (Sl.mk false (fs.xs++[⟨d1,d2,d3,da,db,dc,⟨d4,d5⟩,d6⟩]))=S at *;(repeat' first|simp [*,za]|(apply zb<;>intro _ h<;>try simp [-Nat.le_zero_eq] at h));exact ⟨ids,hids⟩
end Go.Proofs.YtmmhnfghklppiaaGreat.Vm
