/- with, further and Decide: the program's, walked. Few, boxes, ints, With and lies of the laws, walked. -/
import Derived.Test.YtmmhnfghklppiaaGreatVk25
import Derived.Test.YtmmhnfghklppiaaGreatVk17
namespace Go.Proofs.YtmmhnfghklppiaaGreat.Vm
open Go
set_option linter.unusedSimpArgs false
set_option linter.unusedVariables false
set_option maxHeartbeats 4000000
set_option maxRecDepth 4000
def yn (f:Fact) (t:Bool):Fact:={ f with nt:=f.nt != t }
def jc (p:Problem) (f:Fact) (t:Bool):Problem:=⟨p.boxes,.mk false (p.facts.xs++[yn f t])⟩
theorem zo2:G.shared 98=true:=by decide
theorem zlb {n:Nat} {H:Heap} {s:Sl Fact} {k:AV->Heap->Prop} (hl:s.xs.length < 1000)
  (hk:∀ v' H',aZ Fact.cells 9 H' v' s.xs->isNil .slice v'=some s.isNil->H.nx<=H'.nx->(∀ id,id < H.nx->H'.get id=H.get id)->(∀ id,Names v' id->H.nx<=id)->k v' H') :
  ∃ v H',Vm.call G (n+1) (.fn 98) [.pure (s.pv Fact.cells 9)] H=some (v,H')/\k v H':=by
 refine XY (f:=Fact.cells) (sz:=9) (bytes:=72) (l:=s.xs) (b:=s.isNil) (fun _=>rfl) g98 ?_ ?_ (fun h=>?_) (fun _=>rfl) (by decide) (fun _=>rfl) ?_ hk
 .exact LQ (f:=Fact.cells) (sz:=9) (fun _=>rfl) _
 .simp
 .cases s with
  | nil=>rfl
  | mk h l=>simp [Sl.isNil] at h
 .simp only [zl];omega
theorem zgL {r:Option Eff} {H:Heap} {x:AV} {k:AV->Heap->Prop} {u} (h:∃ v H',r=some (.upd v H')/\keeps H H' x=true/\k v H'):wpE 0 (match (generalizing:=false) r with
  | some (.upd v H2)=>if keeps H H2 x=true then some (.upd v H2) else none
  | _=>none) H k u:=by
 obtain ⟨v,H',rfl,h2,h3⟩:=h;simp only [h2,if_true,Hz];exact h3
theorem zfM {n f:Nat} {H:Heap} {args:List AV} {P:AV->Heap->Prop} (hs:G.shared f=true) (h:∃ v H',Vm.call G (n+1) (.fn f) args H=some (v,H')/\P v H'):∃ v H',zD (zn G (n+1)) H (.pure (.func f [])) args=some (.upd v H')/\P v H':=by
 obtain ⟨v,H',h1,h2⟩:=h
 refine ⟨v,H',?_,h2⟩
 have nQ:(zn G (n+1)).shared f=true:=hs;have oV:(zn G (n+1)).run f args H=some (v,H'):=h1;simp only [zD,List.map_nil,List.append_nil,nQ,if_true,oV]
theorem sh49:G.shared 49=false:=by decide
theorem e49 (n:Nat) (p:Problem) (f:Fact) (t:Bool) (hl:p.facts.xs.length < 900):zF G (n+2) 49 [.agg p.cells,.agg f.cells,.bool t]=some (.agg (jc p f t).cells):=by
 refine zx (zw _) rfl g49 rfl ?_
 obtain ⟨bs,fs⟩:=p;obtain ⟨d1,d2,d3,da,db,dc,⟨d4,d5⟩,d6⟩:=f;have TW:fs.xs.length < 900:=hl;clear hl;(repeat' first|simp [*,za,c49,Problem.cells,Fact.cells,Span.cells,Ny,chunks]|(apply zb<;>intro _ h<;>try simp [-Nat.le_zero_eq] at h))
 refine zgL (zfM (n:=n) zo2 (zlb (s:=fs) (by omega) ?_))
 intro v H' hv Ea fD ag aW;have wS:=ag 1 (by simp);have k0:H'.get 0=.cells true [.pure (bs.pv Box.cells 4),.pure (fs.pv Fact.cells 9)]:=by
  rw [ag 0 (by simp)];simp
 have k2:H'.get 2=.cells true [.pure .nils,.pure .nils]:=by
  rw [ag 2 (by simp)];simp
 refine ⟨?_,?_⟩
 .unfold keeps;simp only;rw [wS,zo (by simp)];simp [Bl,PV.ik]
 have n3:2 < H'.nx:=by simp at fD;omega
 have OT:∀ id,Names v id->2 < id:=fun id h=>by have:=aW id h;simp at this;omega
 have Gg:=hv.one;have hvo1:=Gg.1;have hvo2:=Gg.2;have Ja:=Hide.mk OT;clear fD ag aW wS OT;(repeat' first|simp [*,za]|(apply zb<;>intro _ h<;>try simp [-Nat.le_zero_eq] at h))
 refine QC (f:=Fact.cells) (sz:=9) (l:=fs.xs) (m:=[⟨d1,d2,d3 != t,da,db,dc,⟨d4,d5⟩,d6⟩]) hv (fun _=>rfl) (by decide) (fun _=>rfl) ?_ (by simp [zl];omega) ?_
 .simp [zH,zm,Fact.cells,Span.cells,bne]
 intro v4 H4 M8 AA Il OU;have g0:H4.get 0=.cells true [.pure (bs.pv Box.cells 4),.pure (fs.pv Fact.cells 9)]:=by
  rw [Il 0 (by omega) (fun h=>by have:=Ja.h 0 h;omega)];exact k0
 have g2:H4.get 2=.cells true [.pure .nils,.pure .nils]:=by
  rw [Il 2 (by omega) (fun h=>by have:=Ja.h 2 h;omega)];exact k2
 have gn:2 < H4.nx:=by omega
 have gn0:0 < H4.nx:=by omega
 have o4:=M8.one;have KD:=o4.1;have KE:=o4.2;have qp:∀ id,Names v4 id->2 < id:=fun id h=>by
  rcases OU id h with h|h
  .exact Ja.h id h
  .omega
 have aY:∀ o o2,FrzK ((H4.set 0 o).set 2 o2) false 11 v4 ((Sl.mk false (fs.xs++[⟨d1,d2,d3 != t,da,db,dc,⟨d4,d5⟩,d6⟩])).pv Fact.cells 9):=fun o o2=>by
  refine aZ.JX (n:=9) (M8.keep fun id ⟨n,hn⟩=>?_) (fun _=>rfl) (by simp)
  have:=qp id ⟨_,_,_,hn⟩;rw [zh (by omega),zh (by omega)]
 obtain ⟨ids,iY⟩:=FrzK.jw (n:=11) (FrzL.cons (FrzK.pure (bs.pv Box.cells 4)) (.cons (aY (.cells true [.pure (bs.pv Box.cells 4),v4]) (.cells true [.pure (bs.pv Box.cells 4),v4])) .nil));have hw:jc ⟨bs,fs⟩ ⟨d1,d2,d3,da,db,dc,⟨d4,d5⟩,d6⟩ t=⟨bs,.mk false (fs.xs++[⟨d1,d2,d3 != t,da,db,dc,⟨d4,d5⟩,d6⟩])⟩:=rfl;clear M8 aY Il OU qp hv Ea Ja k0 k2 o4;generalize (Sl.mk false (fs.xs++[⟨d1,d2,d3 != t,da,db,dc,⟨d4,d5⟩,d6⟩]))=S at *;(repeat' first|simp [*,za]|(apply zb<;>intro _ h<;>try simp [-Nat.le_zero_eq] at h));exact ⟨ids,iY⟩
def zK (p:Problem) (f:Fact):Int:=if nT p≠0 then nT p else if zX f p.boxes.xs.length=true then (if p.facts.xs.length ≥ 60 then 2 else 0) else 1
theorem sh47:G.shared 47=false:=by decide
theorem e47 (n:Nat) (p:Problem) (f:Fact):zF G (n+4) 47 [.agg p.cells,.agg f.cells]=some (.int .i64 (zK p f)):=by
 refine zx (zw _) rfl g47 rfl ?_
 have hc:=fun H=>zg (G:=G) (n:=n+3) (H:=H) (caps:=[]) (ps:=[.agg p.cells]) sh45 (e45 n p);simp only [Problem.cells,List.map] at hc
 by_cases h0:nT p=0
 case neg =>
  have hr:zK p f=nT p:=by unfold zK;rw [if_pos h0]
  rw [hr];generalize nT p=c at *;clear hr;(repeat' first|simp [*,za,c47,Problem.cells,Fact.cells,Span.cells]|(apply zb<;>intro _ h<;>try simp [-Nat.le_zero_eq] at h))
 case pos =>
  have ok:=rX.1 h0;have nb:=ok.nb;have nf:=ok.nf;have hf:=fun H=>zg (G:=G) (n:=n+3) (H:=H) (caps:=[]) (ps:=[.agg f.cells,.int .i64 p.boxes.xs.length]) sh93 (e93 (n+1) f p.boxes.xs.length (by omega));have hr:zK p f=if zX f p.boxes.xs.length=true then (if p.facts.xs.length ≥ 60 then 2 else 0) else 1:=by unfold zK;rw [if_neg (by simp [h0])]
  rw [hr];rw [h0] at hc;simp only [Fact.cells,Span.cells,List.map] at hf;clear hr h0 ok
  cases hb:zX f p.boxes.xs.length with
  | false =>
   rw [hb] at hf;clear hb;(repeat' first|simp [*,za,c47,Problem.cells,Fact.cells,Span.cells]|(apply zb<;>intro _ h<;>try simp [-Nat.le_zero_eq] at h))
  | true =>
   rw [hb] at hf;clear hb
   by_cases h60:p.facts.xs.length ≥ 60
   .have h6:(60:Int)<=p.facts.xs.length:=by omega
    (repeat' first|simp [*,za,c47,Problem.cells,Fact.cells,Span.cells]|(apply zb<;>intro _ h<;>try simp [-Nat.le_zero_eq] at h))
   .have h6:¬ (60:Int)<=p.facts.xs.length:=by omega
    (repeat' first|simp [*,za,c47,Problem.cells,Fact.cells,Span.cells]|(apply zb<;>intro _ h<;>try simp [-Nat.le_zero_eq] at h))
def A8 (e0:Int) (D1:bB) (e1:Int) (D2:bB) (e2:Int) (D3:bB) (e3:Int):Int×Int :=
 if e0≠0 then (0,e0) else if e1≠0\/e2≠0\/e3≠0 then (0,2) else if D1.empty=true then (0,9) else if D3.empty=true then (2,0) else if D2.empty=true then (1,0) else (3,0)
theorem zkM {f:Fact} {t:Bool} {n:Nat} (h:zX f n=true):zX (yn f t) n=true:=by
 rw [Au] at *;exact h
theorem GM {p:Problem} {f:Fact} {t:Bool} (h:zK p f=0):af p/\af (jc p f t)/\zX f p.boxes.xs.length=true:=by
 unfold zK at h
 split at h
 .omega
 .rename_i h0;have ok:=rX.1 (by omega:nT p=0)
  split at h
  .rename_i hb
   split at h
   .simp at h
   .rename_i h60
    refine ⟨ok,⟨ok.nb,?_,ok.box,fun g hg=>?_⟩,hb⟩
    .show (p.facts.xs++[yn f t]).length<=60;simp;omega
    .have sJ:g∈p.facts.xs++[yn f t]:=hg;rcases List.mem_append.1 sJ with hg|hg
     .exact ok.fact g hg
     .simp at hg;subst hg;exact zkM hb
  .simp at h
theorem sh15:G.shared 15=false:=by decide
theorem e15 (n:Nat) (p:Problem) (f:Fact) (D1 D2 D3:bB) (e1 e2 e3:Int) (h:zK p f=0->aX p D1 e1/\aX (jc p f false) D2 e2/\aX (jc p f true) D3 e3):zF G (n+52) 15 [.agg p.cells,.agg f.cells]=some (.aM [.int .i64 (A8 (zK p f) D1 e1 D2 e2 D3 e3).1,.int .i64 (A8 (zK p f) D1 e1 D2 e2 D3 e3).2]):=by
 refine zx (zw _) rfl g15 rfl ?_
 have hc:=fun H=>zg (G:=G) (n:=n+51) (H:=H) (caps:=[]) (ps:=[.agg p.cells,.agg f.cells]) sh47 (e47 (n+47) p f);simp only [Problem.cells,Fact.cells,Span.cells,List.map] at hc
 by_cases h0:zK p f=0
 case neg =>
  have hr:A8 (zK p f) D1 e1 D2 e2 D3 e3=(0,zK p f):=by unfold A8;rw [if_pos h0]
  rw [hr];generalize zK p f=c at *;clear hr h;(repeat' first|simp [*,za,c15,Problem.cells,Fact.cells,Span.cells]|(apply zb<;>intro _ h<;>try simp [-Nat.le_zero_eq] at h))
 case pos =>
  obtain ⟨f1,f2,f3⟩:=h h0;obtain ⟨ok,Vb,hb⟩:=GM (t:=false) h0;obtain ⟨_,Vd,_⟩:=GM (t:=true) h0;have nf:=ok.nf;have b1:=fun H=>zg (G:=G) (n:=n+51) (H:=H) (caps:=[]) (ps:=[.agg p.cells]) sh48 (e48 n p ok D1 e1 f1);have b2:=fun H=>zg (G:=G) (n:=n+51) (H:=H) (caps:=[]) (ps:=[.agg (jc p f false).cells]) sh48 (e48 n (jc p f false) Vb D2 e2 f2);have b3:=fun H=>zg (G:=G) (n:=n+51) (H:=H) (caps:=[]) (ps:=[.agg (jc p f true).cells]) sh48 (e48 n (jc p f true) Vd D3 e3 f3);have w2:=fun H=>zg (G:=G) (n:=n+51) (H:=H) (caps:=[]) (ps:=[.agg p.cells,.agg f.cells,.bool false]) sh49 (e49 (n+49) p f false (by omega));have w3:=fun H=>zg (G:=G) (n:=n+51) (H:=H) (caps:=[]) (ps:=[.agg p.cells,.agg f.cells,.bool true]) sh49 (e49 (n+49) p f true (by omega));rw [h0] at hc ⊢;have hrr:=Hide.mk (show A8 0 D1 e1 D2 e2 D3 e3=_ from rfl);obtain ⟨q2,IM⟩:∃ q,q=PV.agg (jc p f false).cells:=⟨_,rfl⟩
  obtain ⟨q3,R8⟩:∃ q,q=PV.agg (jc p f true).cells:=⟨_,rfl⟩
  rw [<- IM] at b2 w2;rw [<- R8] at b3 w3;simp only [Problem.cells,Fact.cells,Span.cells,bB.cells,List.map] at b1 b2 b3 w2 w3;clear IM R8 f1 f2 f3 ok Vb Vd hb h h0 hrr;obtain ⟨E1,S1⟩:=D1;obtain ⟨E2,S2⟩:=D2;obtain ⟨E3,S3⟩:=D3;unfold A8;simp only at *;generalize (Sl.of S1)=T1 at *;generalize (Sl.of S2)=T2 at *;generalize (Sl.of S3)=T3 at *
  by_cases h1:e1=0
  .by_cases h2:e2=0
   .by_cases h3:e3=0
    .subst h1 h2 h3
     cases E1<;>cases E2<;>cases E3<;>(repeat' first|simp [*,za,c15,Problem.cells,Fact.cells,Span.cells]|(apply zb<;>intro _ h<;>try simp [-Nat.le_zero_eq] at h))
    ·(repeat' first|simp [*,za,c15,Problem.cells,Fact.cells,Span.cells]|(apply zb<;>intro _ h<;>try simp [-Nat.le_zero_eq] at h))
   ·(repeat' first|simp [*,za,c15,Problem.cells,Fact.cells,Span.cells]|(apply zb<;>intro _ h<;>try simp [-Nat.le_zero_eq] at h))
  ·(repeat' first|simp [*,za,c15,Problem.cells,Fact.cells,Span.cells]|(apply zb<;>intro _ h<;>try simp [-Nat.le_zero_eq] at h))
def KJ (b:Box):Bool:=ny b&&(decide (60 < b.x.hi - b.x.lo)||decide (60 < b.y.hi - b.y.lo))
def pW (p:Problem):Bool:=decide (p.boxes.xs.length<=5)&&decide (p.facts.xs.length<=16)&&p.boxes.xs.all fun b=>!KJ b
def zrr (l:List Box) (i:Nat):Prop:=∀ j (h:j < l.length),j < i->KJ l[j]=false
theorem sh10:G.shared 10=false:=by decide
theorem e10 (n:Nat) (p:Problem):zF G (n+3) 10 [.agg p.cells]=some (.bool (pW p)):=by
 refine zx (zw _) rfl g10 rfl ?_
 obtain ⟨bs,fs⟩:=p;have Sj:Hide (∀ b:Box,∀ H,zD (zn G (n+2)) H (.pure (.func 37 [])) [.pure (.agg b.cells)]=some (.val (.pure (.bool (ny b))))):=⟨fun b H=>zg (caps:=[]) (ps:=[_]) sh37 (e37 n b)⟩
 by_cases h1:5 < bs.xs.length
 .have UN:(5:Int) < bs.xs.length:=by omega
  have hR:pW ⟨bs,fs⟩=false:=by
   have:decide (bs.xs.length<=5)=false:=by simp;omega
   simp [pW,this]
  rw [hR];simp [*,za,c10,Problem.cells]
 have UN:¬ (5:Int) < bs.xs.length:=by omega
 by_cases h2:16 < fs.xs.length
 .have h2I:(16:Int) < fs.xs.length:=by omega
  have hR:pW ⟨bs,fs⟩=false:=by
   have:decide (fs.xs.length<=16)=false:=by simp;omega
   simp [pW,this]
  rw [hR];simp [*,za,c10,Problem.cells]
 have h2I:¬ (16:Int) < fs.xs.length:=by omega
 have M9:Hide (pW ⟨bs,fs⟩=bs.xs.all fun b=>!KJ b):=⟨by
  have a1:decide (bs.xs.length<=5)=true:=by simp;omega
  have a2:decide (fs.xs.length<=16)=true:=by simp;omega
  simp [pW,a1,a2]⟩
 generalize hR:pW ⟨bs,fs⟩=R;rw [hR] at M9;clear hR;(repeat' first|simp [*,za,c10,Problem.cells]|(apply zb<;>intro _ h<;>try simp [-Nat.le_zero_eq] at h))
 refine zN [(2,5),(16,50)] (fun (i:Nat) env H=>env 3=.pure (.int .i64 i)/\i<=bs.xs.length/\Hide (zrr bs.xs i)) (fun i=>bs.xs.length - i) 0 ?_ ?_ ?_ ?_
 .decide
 .exact ⟨by simp,by omega,⟨fun _ _ h=>by omega⟩⟩
 .simp only [zI];omega
 rintro i env H ⟨g3,hi,hn⟩
 by_cases aK:i < bs.xs.length
 .have w1:IntKind.i64.wrap ((i:Int)+1)=(i+1:Nat):=by rw [wrap64 (by omega) (by omega)];omega
  have pO:(i:Int) < bs.xs.length:=by omega
  have c1:=Sj.h bs.xs[i];simp only [Box.cells,Span.cells] at c1
  by_cases hw:KJ bs.xs[i]=true
  .have hRf:R=false:=by
    rw [M9.h,List.all_eq_false];exact ⟨_,List.getElem_mem aK,by simp [hw]⟩
   subst hRf;unfold KJ at hw;rw [Bool.and_eq_true,Bool.or_eq_true,decide_eq_true_eq,decide_eq_true_eq] at hw;obtain ⟨hv,hw⟩:=hw;have DI:=aJ.1 hv;have x1:IntKind.i64.wrap (bs.xs[i].x.hi - bs.xs[i].x.lo)=bs.xs[i].x.hi - bs.xs[i].x.lo:=wrap64 (by omega) (by omega);have x2:IntKind.i64.wrap (bs.xs[i].y.hi - bs.xs[i].y.lo)=bs.xs[i].y.hi - bs.xs[i].y.lo:=wrap64 (by omega) (by omega);rw [hv] at c1;clear M9 hn DI hv Sj
   by_cases hx:60 < bs.xs[i].x.hi - bs.xs[i].x.lo
   .clear hw;simp [*,za,Box.cells,Span.cells]
   .have hy:60 < bs.xs[i].y.hi - bs.xs[i].y.lo:=by omega
    clear hw;simp [*,za,Box.cells,Span.cells]
  .have oW:KJ bs.xs[i]=false:=by simpa using hw
   have jh:Hide (zrr bs.xs (i+1)):=⟨fun j h hj=>by
    by_cases e:j=i
    .subst e;exact oW
    .exact hn.h j h (by omega)⟩
   clear hw hn;unfold KJ at oW
   cases hv:ny bs.xs[i] with
   | false =>
    rw [hv] at c1;clear oW M9 Sj hv;(repeat' first|simp [*,za,Box.cells,Span.cells]|(apply zb<;>intro _ h<;>try simp [-Nat.le_zero_eq] at h));exact ⟨i+1,by omega,by omega,by omega,jh⟩
   | true =>
    rw [hv] at oW c1;rw [Bool.true_and,Bool.or_eq_false_iff,decide_eq_false_iff_not,decide_eq_false_iff_not] at oW;obtain ⟨hx,hy⟩:=oW;have DI:=aJ.1 hv;have x1:IntKind.i64.wrap (bs.xs[i].x.hi - bs.xs[i].x.lo)=bs.xs[i].x.hi - bs.xs[i].x.lo:=wrap64 (by omega) (by omega);have x2:IntKind.i64.wrap (bs.xs[i].y.hi - bs.xs[i].y.lo)=bs.xs[i].y.hi - bs.xs[i].y.lo:=wrap64 (by omega) (by omega);clear M9 DI hv Sj;(repeat' first|simp [*,za,Box.cells,Span.cells]|(apply zb<;>intro _ h<;>try simp [-Nat.le_zero_eq] at h));exact ⟨i+1,by omega,by omega,by omega,jh⟩
 .have wL:i=bs.xs.length:=by omega
  subst wL;have hRt:R=true:=by
   rw [M9.h,List.all_eq_true];intro b hb;obtain ⟨j,hj,rfl⟩:=List.mem_iff_getElem.1 hb;rw [hn.h j hj hj];rfl
  subst hRt;clear hn M9 Sj;simp [*,za]
theorem sh35:G.shared 35=false:=by decide
theorem e35 (n:Nat) (p:Problem) (f:Fact) (hl:p.facts.xs.length < 900):zF G (n+1) 35 [.agg p.cells,.agg f.cells]=some (.agg (jc p f false).cells):=by
 refine zx (zw _) rfl g35 rfl ?_
 obtain ⟨bs,fs⟩:=p;obtain ⟨d1,d2,d3,da,db,dc,⟨d4,d5⟩,d6⟩:=f;have TW:fs.xs.length < 900:=hl;clear hl;(repeat' first|simp [*,za,c35,Problem.cells,Fact.cells,Span.cells]|(apply zb<;>intro _ h<;>try simp [-Nat.le_zero_eq] at h))
 refine zmf (f:=Fact.cells) (sz:=9) (l:=fs.xs) (LQ (f:=Fact.cells) (sz:=9) (fun _=>rfl) _) (by simp) (fun _=>rfl) (by simp only [zl];omega) ?_
 intro v H1 hv fD ag aW;have h0:H1.get 0=.cells true [.pure .nils,.pure .nils]:=by rw [ag 0 (by simp)];simp
 have Sn:2<=H1.nx:=by simpa using fD
 have qp:Hide (∀ id,Names v id->0 < id):=⟨fun id h=>by
  rcases aW id h with h|h
  .omega
  .simp at h;omega⟩
 have hvH:=Hide.mk hv;have Gg:=hv.one;have hvo1:=Gg.1;have hvo2:=Gg.2;clear hv fD ag aW Gg;(repeat' first|simp [*,za]|(apply zb<;>intro _ h<;>try simp [-Nat.le_zero_eq] at h))
 refine QC (f:=Fact.cells) (sz:=9) (l:=fs.xs) (m:=[⟨d1,d2,d3,da,db,dc,⟨d4,d5⟩,d6⟩]) (hvH.h.alloc _) (fun _=>rfl) (by decide) (fun _=>rfl) ?_ (by simp [zl];omega) ?_
 .simp [zm,Fact.cells,Span.cells]
 intro v4 H4 M8 AA Il OU;have g0:H4.get 0=.cells true [.pure .nils,.pure .nils]:=by
  rw [Il 0 (by rw [pJ];omega) (fun h=>by have:=qp.h 0 h;omega),ze (by omega)];exact h0
 have gn:0 < H4.nx:=by rw [pJ] at AA;omega
 have o4:=M8.one;have KD:=o4.1;have KE:=o4.2;have KL:∀ id,Names v4 id->0 < id:=fun id h=>by
  rcases OU id h with h|h
  .exact qp.h id h
  .rw [pJ] at h;omega
 have aY:∀ o,FrzK (H4.set 0 o) false 11 v4 ((Sl.mk false (fs.xs++[⟨d1,d2,d3,da,db,dc,⟨d4,d5⟩,d6⟩])).pv Fact.cells 9):=fun o=>by
  refine aZ.JX (n:=9) (M8.keep fun id ⟨n,hn⟩=>?_) (fun _=>rfl) (by simp)
  have:=KL id ⟨_,_,_,hn⟩;rw [zh (by omega)]
 obtain ⟨ids,iY⟩:=FrzK.jw (n:=11) (FrzL.cons (FrzK.pure (bs.pv Box.cells 4)) (.cons (aY (.cells true [.pure (bs.pv Box.cells 4),v4])) .nil));have hw:jc ⟨bs,fs⟩ ⟨d1,d2,d3,da,db,dc,⟨d4,d5⟩,d6⟩ false=⟨bs,.mk false (fs.xs++[⟨d1,d2,d3,da,db,dc,⟨d4,d5⟩,d6⟩])⟩:=by simp [jc,yn]
 clear M8 aY Il OU qp KL hvH h0 o4 AA;generalize (Sl.mk false (fs.xs++[⟨d1,d2,d3,da,db,dc,⟨d4,d5⟩,d6⟩]))=S at *;(repeat' first|simp [*,za]|(apply zb<;>intro _ h<;>try simp [-Nat.le_zero_eq] at h));exact ⟨ids,iY⟩
end Go.Proofs.YtmmhnfghklppiaaGreat.Vm
