/- What the specification's functions that check facts and problems compute. Check of the program and of the specification: the same error of a problem. Problems that Check accepts; Allows of the program. What look calls: at, key, slices.Index and slices.Contains of numbers. -/
import Derived.Test.YtmmhnfghklppiaaGreatQk15
import Derived.Test.YtmmhnfghklppiaaGreatQk17
import Derived.Test.YtmmhnfghklppiaaGreatQk16
import Derived.Test.YtmmhnfghklppiaaGreatQk9
namespace Go.Proofs.YtmmhnfghklppiaaGreat.Vm
open Go
set_option linter.unusedSimpArgs false
set_option linter.unusedVariables false
set_option maxHeartbeats 4000000
theorem zaD (f:Fact) (n:Int):zar f n=true↔(0<=f.id/\f.id<=1099511627776)/\(0<=f.a/\f.a < n)/\(0<=f.b/\f.b < n)/\f.a≠f.b/\(-17592186044416<=f.span.lo/\f.span.lo<=f.span.hi/\f.span.hi<=17592186044416) /\
  (f.kind=2->0<=f.c/\f.c < n/\f.c≠f.a/\f.c≠f.b/\f.quarter=0)/\(f.kind≠2->f.c=0/\1<=f.kind/\f.kind<=6/\(f.kind≠3->f.quarter=0)/\(f.kind=4->f.span.lo=0)/\(f.kind=3->0<=f.quarter/\f.quarter<=3/\f.span.lo=0/\f.span.hi=0)):=by
 unfold zar inB zez
 by_cases k2:f.kind=2
 ·simp only [k2,if_true,Bool.and_eq_true,Bool.not_eq_true',decide_eq_true_eq,decide_eq_false_iff_not,ne_eq,true_implies,not_true,false_implies,and_true];omega
 ·rw [if_neg k2]
  by_cases k:f.kind=1\/f.kind=5\/f.kind=6
  ·rw [if_pos k];simp only [Bool.and_eq_true,Bool.not_eq_true',decide_eq_true_eq,decide_eq_false_iff_not,ne_eq];omega
  ·rw [if_neg k]
   by_cases k4:f.kind=4
   ·rw [if_pos k4];simp only [Bool.and_eq_true,Bool.not_eq_true',decide_eq_true_eq,decide_eq_false_iff_not,ne_eq];omega
   ·rw [if_neg k4]
    by_cases k3:f.kind=3
    ·rw [if_pos k3];simp only [Bool.and_eq_true,Bool.not_eq_true',decide_eq_true_eq,decide_eq_false_iff_not,ne_eq];omega
    ·rw [if_neg k3];simp only [Bool.and_false,Bool.false_eq_true,false_iff,ne_eq];omega
def zX (p:Problem):Int :=
 if 12 < p.boxes.xs.length\/60 < p.facts.xs.length then 2
 else if p.boxes.xs.all boxB&&p.facts.xs.all (zar · p.boxes.xs.length) then 0 else 1
theorem zoY {b:Box} (h:zay b=true):(-1048576<=b.x.lo/\b.x.lo<=b.x.hi/\b.x.hi<=1048576)/\(-1048576<=b.y.lo/\b.y.lo<=b.y.hi/\b.y.hi<=1048576):=by
 simp only [zay,zez,Bool.and_eq_true,decide_eq_true_eq] at h;omega
def zib {α:Type} (p:α->Bool) (l:List α) (i:Nat):Prop:=∀ j (h:j < l.length),j < i->p l[j]=true
theorem zjS {α:Type} {p:α->Bool} {l:List α} (h:zib p l l.length):l.all p=true:=by
 rw [List.all_eq_true];intro b hb;obtain ⟨j,hj,rfl⟩:=List.mem_iff_getElem.1 hb;exact h j hj hj
theorem zh9 {α:Type} {p:α->Bool} {l:List α} {i:Nat} (h:zib p l i) (hi:i < l.length) (hp:p l[i]=true):zib p l (i+1):=fun j h' hj=>by
 by_cases e:j=i
 ·subst e;exact hp
 ·exact h j h' (by omega)
theorem zgG {α:Type} {p:α->Bool} {l:List α} {i:Nat} (hi:i < l.length) (hp:p l[i]=false):l.all p=false:=by
 rw [List.all_eq_false];exact ⟨_,List.getElem_mem hi,by simp [hp]⟩
theorem sh45:G.shared 45=false:=by decide
theorem e45 (n:Nat) (p:Problem):zH G (n+3) 45 [.agg p.cells]=some (.int .i64 (zX p)):=by
 refine zy (zw _) rfl g45 rfl ?_
 obtain ⟨bs,fs⟩:=p
 by_cases hb:12 < bs.xs.length
 ·have hc:zX ⟨bs,fs⟩=2:=by unfold zX;rw [if_pos (.inl hb)]
  have hb':(12:Int) < bs.xs.length:=by omega
  (repeat' first|simp [*,za,c45,Problem.cells]|(apply zb<;>intro _ h<;>try simp [-Nat.le_zero_eq] at h))
 by_cases hf:60 < fs.xs.length
 ·have hc:zX ⟨bs,fs⟩=2:=by unfold zX;rw [if_pos (.inr hf)]
  have hb':¬ (12:Int) < bs.xs.length:=by omega
  have hf':(60:Int) < fs.xs.length:=by omega
  (repeat' first|simp [*,za,c45,Problem.cells]|(apply zb<;>intro _ h<;>try simp [-Nat.le_zero_eq] at h))
 have hc:Hide (zX ⟨bs,fs⟩=if bs.xs.all boxB&&fs.xs.all (zar · bs.xs.length) then 0 else 1):=⟨by unfold zX;rw [if_neg (by rintro (h|h);exact hb h;exact hf h)]⟩
 have hb':¬ (12:Int) < bs.xs.length:=by omega
 have hf':¬ (60:Int) < fs.xs.length:=by omega
 generalize zX ⟨bs,fs⟩=r at *;(repeat' first|simp [*,za,c45,Problem.cells]|(apply zb<;>intro _ h<;>try simp [-Nat.le_zero_eq] at h))
 refine zF [(2,2),(4,4),(20,39)] (fun (i:Nat) env H=>env 20=.pure (.int .i64 i)/\i<=bs.xs.length/\Hide (zib boxB bs.xs i)) (fun i=>bs.xs.length - i) 0 ?_ ?_ ?_ ?_
 ·decide
 ·exact ⟨by simp,by omega,⟨fun _ _ h=>by omega⟩⟩
 ·simp only [zA];omega
 ·rintro i env H ⟨g0,hi,hn⟩
  by_cases hlt:i < bs.xs.length
  ·have w1:IntKind.i64.wrap ((i:Int)+1)=(i+1:Nat):=by rw [wrap64 (by omega) (by omega)];omega
   have hvi:=fun H=>ze (G:=G) (n:=n+2) (H:=H) (caps:=[]) (ps:=[.agg (bs.xs[i]).cells]) sh91 (e91 n bs.xs[i]);simp only [Box.cells,Span.cells,List.map_cons,List.map_nil] at hvi
   cases hv:zay bs.xs[i] with
   | false =>
    have hB:boxB bs.xs[i]=false:=by unfold boxB;rw [hv];rfl
    have hr:r=1:=by rw [hc.h,zgG hlt hB];rfl
    rw [hv] at hvi;clear hv hB hc hn;(repeat' first|simp [*,za,Box.cells,Span.cells]|(apply zb<;>intro _ h<;>try simp [-Nat.le_zero_eq] at h))
   | true =>
    have hlim:=zoY hv;have h1:=fun H=>ze (G:=G) (n:=n+2) (H:=H) (caps:=[]) (ps:=[.agg (bs.xs[i]).x.cells]) sh92 (e92 (n+1) (bs.xs[i]).x (by omega) (by omega));have h2:=fun H=>ze (G:=G) (n:=n+2) (H:=H) (caps:=[]) (ps:=[.agg (bs.xs[i]).y.cells]) sh92 (e92 (n+1) (bs.xs[i]).y (by omega) (by omega));simp only [Span.cells,List.map_cons,List.map_nil] at h1 h2
    by_cases hB:boxB bs.xs[i]=true
    ·have hn':Hide (zib boxB bs.xs (i+1)):=⟨zh9 hn.h hlt hB⟩
     unfold boxB at hB;simp only [Bool.and_eq_true,decide_eq_true_eq] at hB;have e1:¬ (1024 < (bs.xs[i]).x.hi - (bs.xs[i]).x.lo+1):=by omega
     have e2:¬ (1024 < (bs.xs[i]).y.hi - (bs.xs[i]).y.lo+1):=by omega
     rw [hv] at hvi;clear hv hB hc hn hlim;(repeat' first|simp [*,za,Box.cells,Span.cells]|(apply zb<;>intro _ h<;>try simp [-Nat.le_zero_eq] at h));exact ⟨i+1,by omega,rfl,by omega,hn'⟩
    ·have hB:boxB bs.xs[i]=false:=by simpa using hB
     have hr:r=1:=by rw [hc.h,zgG hlt hB];rfl
     unfold boxB at hB;rw [hv,Bool.true_and,Bool.and_eq_false_iff,decide_eq_false_iff_not,decide_eq_false_iff_not] at hB;have e1:1024 < (bs.xs[i]).x.hi - (bs.xs[i]).x.lo+1\/(¬ 1024 < (bs.xs[i]).x.hi - (bs.xs[i]).x.lo+1/\1024 < (bs.xs[i]).y.hi - (bs.xs[i]).y.lo+1):=by omega
     rw [hv] at hvi;clear hv hB hc hn hlim;rcases e1 with e1|⟨e1,e2⟩
     ·(repeat' first|simp [*,za,Box.cells,Span.cells]|(apply zb<;>intro _ h<;>try simp [-Nat.le_zero_eq] at h))
     ·(repeat' first|simp [*,za,Box.cells,Span.cells]|(apply zb<;>intro _ h<;>try simp [-Nat.le_zero_eq] at h))
  ·have hil:i=bs.xs.length:=by omega
   subst hil;have hall:=zjS hn.h;have hc:Hide (r=if fs.xs.all (zar · bs.xs.length) then 0 else 1):=⟨by rw [hc.h,hall,Bool.true_and]⟩
   clear hall hn;(repeat' first|simp [*,za]|(apply zb<;>intro _ h<;>try simp [-Nat.le_zero_eq] at h))
   refine zF [(2,2),(6,6),(43,53)] (fun (i:Nat) env H=>env 43=.pure (.int .i64 i)/\i<=fs.xs.length/\Hide (zib (zar · bs.xs.length) fs.xs i)) (fun i=>fs.xs.length - i) 0 ?_ ?_ ?_ ?_
   ·decide
   ·exact ⟨by simp,by omega,⟨fun _ _ h=>by omega⟩⟩
   ·simp only [zA];omega
   rintro i env H ⟨g0,hi,hn⟩
   by_cases hlt:i < fs.xs.length
   ·have w1:IntKind.i64.wrap ((i:Int)+1)=(i+1:Nat):=by rw [wrap64 (by omega) (by omega)];omega
    have hvi:=fun H=>ze (G:=G) (n:=n+2) (H:=H) (caps:=[]) (ps:=[.agg (fs.xs[i]).cells,.int .i64 (bs.xs.length:Nat)]) sh93 (e93 n fs.xs[i] bs.xs.length (by omega));simp only [Fact.cells,List.map_cons,List.map_nil] at hvi
    cases hv:zar fs.xs[i] bs.xs.length with
    | false =>
     have hr:r=1:=by rw [hc.h,zgG hlt hv];rfl
     rw [hv] at hvi;clear hv hc hn;(repeat' first|simp [*,za,Fact.cells]|(apply zb<;>intro _ h<;>try simp [-Nat.le_zero_eq] at h))
    | true =>
     have hn':Hide (zib (zar · bs.xs.length) fs.xs (i+1)):=⟨zh9 hn.h hlt hv⟩
     rw [hv] at hvi;clear hv hc hn;(repeat' first|simp [*,za,Fact.cells]|(apply zb<;>intro _ h<;>try simp [-Nat.le_zero_eq] at h));exact ⟨i+1,by omega,rfl,by omega,hn'⟩
   ·have hil:i=fs.xs.length:=by omega
    subst hil;have hr:r=0:=by rw [hc.h,zjS hn.h];rfl
    clear hn hc;(repeat' first|simp [*,za]|(apply zb<;>intro _ h<;>try simp [-Nat.le_zero_eq] at h))
theorem getP {l:List Pt} {i:Int} (h0:0<=i) (h:i < (l.map atB).length):∃ p:Pt,(l.map atB)[i.toNat]! = atB p:=by
 obtain ⟨n,hn,_,e⟩:=getB h0 h;exact ⟨l[n]'(by simpa using hn),by rw [e,List.getElem_map]⟩
theorem zqI {f:Fact} {l:List Pt} (h:ROk f (l.map atB)):(zcW f (l.map atB)).1=(zcW f (l.map atB)).2:=by
 obtain ⟨p,hp⟩:=getP h.a.1 h.a.2;obtain ⟨q,hq⟩:=getP h.b.1 h.b.2;rw [zsy,hp,hq]
 by_cases hk:f.kind=2
 ·obtain ⟨r,hr⟩:=getP (h.c hk).1 (h.c hk).2;rw [hr,zmb]
 ·have:∀ c c':Box,zjR f (atB p) (atB q) c=zjR f (atB p) (atB q) c':=fun c c'=>by unfold zjR;simp only [if_neg hk]
  rw [this _ (atB p),zmb]
structure CheckOk (p:Problem):Prop where
 nb:p.boxes.xs.length<=12
 nf:p.facts.xs.length<=60
 box:∀ b∈p.boxes.xs,boxB b=true
 fact:∀ f∈p.facts.xs,zar f p.boxes.xs.length=true
theorem check_ok {p:Problem}:zX p=0↔CheckOk p:=by
 unfold zX
 constructor
 ·intro h
  split at h
  ·simp at h
  ·rename_i h1
   split at h
   ·rename_i h2;rw [Bool.and_eq_true,List.all_eq_true,List.all_eq_true] at h2;exact ⟨by omega,by omega,h2.1,h2.2⟩
   ·simp at h
 ·intro h;have e1:p.boxes.xs.all boxB=true:=List.all_eq_true.2 h.box;have e2:p.facts.xs.all (zar · p.boxes.xs.length)=true:=List.all_eq_true.2 h.fact;rw [if_neg (by have:=h.nb;have:=h.nf;omega),e1,e2];rfl
theorem CheckOk.valid {p:Problem} (h:CheckOk p):∀ b∈p.boxes.xs,zay b=true:=fun b hb=>by
 have:=h.box b hb;unfold boxB at this;simp only [Bool.and_eq_true] at this;exact this.1.1
theorem CheckOk.fine {p:Problem} (h:CheckOk p) {l:List Box} (hl:l.length=p.boxes.xs.length) (hv:∀ b∈l,zay b=true) {f:Fact} (hf:f∈p.facts.xs):zdv f l=true:=by
 unfold zdv;rw [hl,h.fact f hf,Bool.and_true];exact List.all_eq_true.2 hv
def zcS (b:List Box):List Fact->Int->Int×Bool
 | [],_=>(-1,true)
 | f::fs,k=>if zC f b=true then (k,false) else zcS b fs (k+1)
theorem zja {b:List Box}:∀ (fs:List Fact) (k:Int) (i:Nat) (h:i < fs.length),(∀ j (h:j < fs.length),j < i->zC fs[j] b=false)->zC fs[i] b=true->zcS b fs k=(k+i,false)
 | [],k,i,h,_,_=>by simp at h
 | f::fs,k,0,h,_,hf=>by
  have:zC f b=true:=hf;simp [zcS,this]
 | f::fs,k,i+1,h,hn,hf=>by
  have h0:zC f b=false:=hn 0 (by simp) (by omega);rw [zcS,h0,if_neg (by simp),zja fs (k+1) i (by simpa using h) (fun j hj hji=>hn (j+1) (by simpa using hj) (by omega)) hf];simp only [Prod.mk.injEq,and_true];omega
theorem zgX {b:List Box}:∀ (fs:List Fact) (k:Int),(∀ j (h:j < fs.length),zC fs[j] b=false)->zcS b fs k=(-1,true)
 | [],k,_=>rfl
 | f::fs,k,hn=>by
  have h0:zC f b=false:=hn 0 (by simp);rw [zcS,h0,if_neg (by simp)];exact zgX fs (k+1) fun j hj=>hn (j+1) (by simpa using hj)
def inPB (p:Pt) (b:Box):Bool:=inB p.x b.x.lo b.x.hi&&inB p.y b.y.lo b.y.hi
def insB (l:List Pt) (bs:List Box):Prop:=∀ i (h:i < bs.length) (h':i < l.length),inPB l[i] bs[i]=true
open Classical in
noncomputable def allowsS (p:Problem) (l:List Pt):Int×Bool :=
 if zX p=0/\l.length=p.boxes.xs.length/\insB l p.boxes.xs then zcS (l.map atB) p.facts.xs 0 else (-1,false)
theorem zqm {p:Problem} {l:List Pt} (h:CheckOk p) (hl:l.length=p.boxes.xs.length) (hi:insB l p.boxes.xs):∀ b∈l.map atB,zay b=true:=by
 intro b hb;obtain ⟨i,hi',rfl⟩:=List.mem_iff_getElem.1 hb;have hi':i < l.length:=by simpa using hi'
 have h1:=hi i (by omega) hi';have h2:=valid_iff.1 (h.valid _ (List.getElem_mem (show i < p.boxes.xs.length by omega)));rw [List.getElem_map,valid_iff];simp only [inPB,inB,Bool.and_eq_true,decide_eq_true_eq] at h1;simp only [atB];omega
theorem sh28:G.shared 28=false:=by decide
theorem e28 (n:Nat) (p:Problem) (l:Sl Pt) (hl:l.xs.length < 1000):zH G (n+7) 28 [.agg p.cells,l.pv Pt.cells 2]=some (.tup [.int .i64 (allowsS p l.xs).1,.bool (allowsS p l.xs).2]):=by
 refine zy (zw _) rfl g28 rfl ?_
 obtain ⟨bs,fs⟩:=p;have hC:=fun H=>ze (G:=G) (n:=n+6) (H:=H) (caps:=[]) (ps:=[.agg (Problem.mk bs fs).cells]) sh45 (e45 (n+3) ⟨bs,fs⟩);have hA:=fun H=>ze (G:=G) (n:=n+6) (H:=H) (caps:=[]) (ps:=[l.pv Pt.cells 2]) sh59 (e59 (n+4) l hl);simp only [Problem.cells,List.map_cons,List.map_nil] at hC hA
 by_cases hc:zX ⟨bs,fs⟩=0
 case neg =>
  have hr:allowsS ⟨bs,fs⟩ l.xs=(-1,false):=by unfold allowsS;rw [if_neg (fun h=>hc h.1)]
  generalize zX ⟨bs,fs⟩=c at *;rw [hr];clear hr;(repeat' first|simp [*,za,c28,Problem.cells]|(apply zb<;>intro _ h<;>try simp [-Nat.le_zero_eq] at h))
 have ok:=check_ok.1 hc;rw [hc] at hC;have nb:bs.xs.length<=12:=ok.nb;have nf:fs.xs.length<=60:=ok.nf
 by_cases hlen:l.xs.length=bs.xs.length
 case neg =>
  have hr:allowsS ⟨bs,fs⟩ l.xs=(-1,false):=by unfold allowsS;rw [if_neg (fun h=>hlen h.2.1)]
  rw [hr];have hlen':¬ (l.xs.length:Int)=bs.xs.length:=by omega
  clear hr hc ok;(repeat' first|simp [*,za,c28,Problem.cells]|(apply zb<;>intro _ h<;>try simp [-Nat.le_zero_eq] at h))
 have hr:Hide (insB l.xs bs.xs->allowsS ⟨bs,fs⟩ l.xs=zcS (l.xs.map atB) fs.xs 0):=⟨fun hi=>by unfold allowsS;rw [if_pos ⟨hc,hlen,hi⟩]⟩
 have hr2:Hide (¬ insB l.xs bs.xs->allowsS ⟨bs,fs⟩ l.xs=(-1,false)):=⟨fun hi=>by unfold allowsS;rw [if_neg (fun h=>hi h.2.2)]⟩
 have hok:=Hide.mk ok;generalize allowsS ⟨bs,fs⟩ l.xs=r at *;have hlI:(l.xs.length:Int)=bs.xs.length:=by omega
 have hlN:=Hide.mk hlen;clear hc ok hlen;(repeat' first|simp [*,za,c28,Problem.cells]|(apply zb<;>intro _ h<;>try simp [-Nat.le_zero_eq] at h))
 refine zF [(4,7),(25,58)] (fun (i:Nat) env H=>env 25=.pure (.int .i64 i)/\i<=bs.xs.length/\Hide (∀ j (h:j < bs.xs.length) (h':j < l.xs.length),j < i->inPB l.xs[j] bs.xs[j]=true)) (fun i=>bs.xs.length - i) 0 ?_ ?_ ?_ ?_
 ·decide
 ·exact ⟨by simp,by omega,⟨fun _ _ _ h=>by omega⟩⟩
 ·simp only [zA];omega
 rintro i env H ⟨g0,hi,hn⟩
 by_cases hlt:i < bs.xs.length
 ·have hlt2:i < l.xs.length:=by have:=hlN.h;omega
  have w1:IntKind.i64.wrap ((i:Int)+1)=(i+1:Nat):=by rw [wrap64 (by omega) (by omega)];omega
  have hp:=Hide.mk (hn.h)
  cases hin:inPB l.xs[i] bs.xs[i] with
  | true =>
   have hn':Hide (∀ j (h:j < bs.xs.length) (h':j < l.xs.length),j < i+1->inPB l.xs[j] bs.xs[j]=true):=⟨fun j h h' hj=>by
    by_cases e:j=i
    ·subst e;exact hin
    ·exact hn.h j h h' (by omega)⟩
   unfold inPB at hin;rw [Bool.and_eq_true] at hin;obtain ⟨i1,i2⟩:=hin;clear hn hp;(repeat' first|simp [*,za,Pt.cells,Box.cells,Span.cells]|(apply zb<;>intro _ h<;>try simp [-Nat.le_zero_eq] at h));exact ⟨i+1,by omega,rfl,by omega,hn'⟩
  | false =>
   have hrr:r=(-1,false):=hr2.h fun h=>by rw [h i hlt hlt2] at hin;simp at hin
   subst hrr;unfold inPB at hin;clear hn hp hr hr2
   cases i1:inB l.xs[i].x bs.xs[i].x.lo bs.xs[i].x.hi with
   | true =>
    rw [i1,Bool.true_and] at hin;(repeat' first|simp [*,za,Pt.cells,Box.cells,Span.cells]|(apply zb<;>intro _ h<;>try simp [-Nat.le_zero_eq] at h))
   | false =>
    clear hin;(repeat' first|simp [*,za,Pt.cells,Box.cells,Span.cells]|(apply zb<;>intro _ h<;>try simp [-Nat.le_zero_eq] at h))
 ·have hil:i=bs.xs.length:=by omega
  subst hil;have hins:insB l.xs bs.xs:=fun j h h'=>hn.h j h h' h;have hrr:=Hide.mk (hr.h hins);have hfv:=Hide.mk fun (f:Fact) (hf:f∈fs.xs) H=>ze (G:=G) (n:=n+6) (H:=H) (caps:=[]) (ps:=[.agg f.cells,(Sl.of (l.xs.map atB)).pv Box.cells 4]) sh60 (e60 (n+1) f (Sl.of (l.xs.map atB)) (by
   rw [Sl.xs_of];exact zhk (hok.h.fine (by simpa using hlN.h) (zqm hok.h hlN.h hins) hf)))
  clear hr hr2 hn hins hok;simp only [Sl.xs_of] at hfv;generalize Sl.of (l.xs.map atB)=s at *;(repeat' first|simp [*,za]|(apply zb<;>intro _ h<;>try simp [-Nat.le_zero_eq] at h))
  refine zF [(4,5),(9,10),(64,73)] (fun (i:Nat) env H=>env 64=.pure (.int .i64 i)/\i<=fs.xs.length/\Hide (∀ j (h:j < fs.xs.length),j < i->zC fs.xs[j] (l.xs.map atB)=false)) (fun i=>fs.xs.length - i) 0 ?_ ?_ ?_ ?_
  ·decide
  ·exact ⟨by simp,by omega,⟨fun _ _ h=>by omega⟩⟩
  ·simp only [zA];omega
  rintro i env H ⟨g0,hi,hn⟩
  by_cases hlt:i < fs.xs.length
  ·have w1:IntKind.i64.wrap ((i:Int)+1)=(i+1:Nat):=by rw [wrap64 (by omega) (by omega)];omega
   have hv:=hfv.h fs.xs[i] (List.getElem_mem hlt);simp only [Fact.cells,List.map_cons,List.map_nil] at hv
   cases hf:zC fs.xs[i] (l.xs.map atB) with
   | true =>
    have hrr:=hrr.h.trans (zja fs.xs 0 i hlt hn.h hf);subst hrr;rw [hf] at hv;clear hf hn hfv;(repeat' first|simp [*,za,Fact.cells]|(apply zb<;>intro _ h<;>try simp [-Nat.le_zero_eq] at h))
   | false =>
    have hn':Hide (∀ j (h:j < fs.xs.length),j < i+1->zC fs.xs[j] (l.xs.map atB)=false):=⟨fun j h hj=>by
     by_cases e:j=i
     ·subst e;exact hf
     ·exact hn.h j h (by omega)⟩
    rw [hf] at hv;clear hf hn hfv hrr;(repeat' first|simp [*,za,Fact.cells]|(apply zb<;>intro _ h<;>try simp [-Nat.le_zero_eq] at h));exact ⟨i+1,by omega,rfl,by omega,hn'⟩
  ·have hil:i=fs.xs.length:=by omega
   subst hil;have hrr:=hrr.h.trans (zgX fs.xs 0 fun j h=>hn.h j h h);subst hrr;clear hn hfv;(repeat' first|simp [*,za]|(apply zb<;>intro _ h<;>try simp [-Nat.le_zero_eq] at h))
set_option maxRecDepth 4000
def keyS (p:Pt) (k:Nat):Int:=if k=0 then p.x else if k=1 then -p.x else if k=2 then p.y else -p.y
theorem zs4:G.shared 116=false:=by decide
theorem e116 (n:Nat) (p:Pt) (k:Nat) (hk:k < 4) (hx:-1048576<=p.x/\p.x<=1048576) (hy:-1048576<=p.y/\p.y<=1048576):zH G (n+1) 116 [.agg p.cells,.int .i64 k]=some (.int .i64 (keyS p k)):=by
 refine zy (zw _) rfl g116 rfl ?_
 have w1:IntKind.i64.wrap (-p.x)=-p.x:=wrap64 (by omega) (by omega);have w2:IntKind.i64.wrap (-p.y)=-p.y:=wrap64 (by omega) (by omega);have hk4:k=0\/k=1\/k=2\/k=3:=by omega
 clear hx hy;rcases hk4 with rfl|rfl|rfl|rfl
 ·have e1:((0:Nat):Int)=0:=rfl;(repeat' first|simp [*,za,c116,Pt.cells,keyS]|(apply zb<;>intro _ h<;>try simp [-Nat.le_zero_eq] at h))
 ·have e1:((1:Nat):Int)=1:=rfl;(repeat' first|simp [*,za,c116,Pt.cells,keyS]|(apply zb<;>intro _ h<;>try simp [-Nat.le_zero_eq] at h))
 ·have e1:((2:Nat):Int)=2:=rfl;(repeat' first|simp [*,za,c116,Pt.cells,keyS]|(apply zb<;>intro _ h<;>try simp [-Nat.le_zero_eq] at h))
 ·have e1:((3:Nat):Int)=3:=rfl;(repeat' first|simp [*,za,c116,Pt.cells,keyS]|(apply zb<;>intro _ h<;>try simp [-Nat.le_zero_eq] at h))
def IsIdx (l:List Int) (x q:Int):Prop:=(∃ i,∃ h:i < l.length,q=(i:Nat)/\l[i]=x/\∀ j (h':j < l.length),j < i->l[j]≠x)\/(q=-1/\x ∉ l)
theorem IsIdx.unique {l:List Int} {x q q':Int} (h:IsIdx l x q) (h':IsIdx l x q'):q=q':=by
 rcases h with ⟨i,hi,rfl,e,hj⟩|⟨rfl,hn⟩
 ·rcases h' with ⟨i',hi',rfl,e',hj'⟩|⟨rfl,hn'⟩
  ·rcases Nat.lt_trichotomy i i' with h|h|h
   ·exact absurd e (hj' i hi h)
   ·rw [h]
   ·exact absurd e' (hj i' hi' h)
  ·exact absurd (e ▸ List.getElem_mem hi) hn'
 ·rcases h' with ⟨i',hi',rfl,e',hj'⟩|⟨rfl,hn'⟩
  ·exact absurd (e' ▸ List.getElem_mem hi') hn
  ·rfl
theorem sh99:G.shared 99=false:=by decide
theorem e99 (n:Nat) (l:Sl Int) (x q:Int) (hl:l.xs.length < 1000) (hq:IsIdx l.xs x q):zH G (n+1) 99 [l.pv intF 1,.int .i64 x]=some (.int .i64 q):=by
 refine zy (zw _) rfl g99 rfl ?_
 have hqH:=Hide.mk hq;clear hq;(repeat' first|simp [*,za,c99]|(apply zb<;>intro _ h<;>try simp [-Nat.le_zero_eq] at h))
 refine zF [(4,5),(8,18)] (fun (i:Nat) env H=>env 8=.pure (.int .i64 i)/\i<=l.xs.length/\Hide (∀ j (h':j < l.xs.length),j < i->l.xs[j]≠x)) (fun i=>l.xs.length - i) 0 ?_ ?_ ?_ ?_
 ·decide
 ·exact ⟨by simp,by omega,⟨fun _ _ h=>by omega⟩⟩
 ·simp only [zA];omega
 rintro i env H ⟨g8,hi,hn⟩
 by_cases hlt:i < l.xs.length
 ·have w1:IntKind.i64.wrap ((i:Int)+1)=(i+1:Nat):=by rw [wrap64 (by omega) (by omega)];omega
  have hltI:(i:Int) < l.xs.length:=by omega
  by_cases e:l.xs[i]=x
  ·have hqi:q=(i:Nat):=hqH.h.unique (.inl ⟨i,hlt,rfl,e,hn.h⟩);subst hqi;clear hn hqH;subst e;(repeat' first|simp [*,za,intF]|(apply zb<;>intro _ h<;>try simp [-Nat.le_zero_eq] at h))
  ·have hn':Hide (∀ j (h':j < l.xs.length),j < i+1->l.xs[j]≠x):=⟨fun j h hj=>by
    by_cases ej:j=i
    ·subst ej;exact e
    ·exact hn.h j h (by omega)⟩
   have e':¬ x=l.xs[i]:=fun h=>e h.symm;clear hn e;(repeat' first|simp [*,za,intF]|(apply zb<;>intro _ h<;>try simp [-Nat.le_zero_eq] at h));exact ⟨i+1,by omega,by omega,by omega,hn'⟩
 ·have hiN:i=l.xs.length:=by omega
  subst hiN;have hqi:q=-1:=hqH.h.unique (.inr ⟨rfl,fun hm=>by
   obtain ⟨j,hj,e⟩:=List.mem_iff_getElem.1 hm;exact hn.h j hj hj e⟩)
  subst hqi;clear hn hqH;(repeat' first|simp [*,za]|(apply zb<;>intro _ h<;>try simp [-Nat.le_zero_eq] at h))
theorem zq7 (x:Int):∀ l:List Int,∃ q,IsIdx l x q
 | []=>⟨-1,.inr ⟨rfl,by simp⟩⟩
 | a::l=>by
  by_cases e:a=x
  ·exact ⟨0,.inl ⟨0,by simp,rfl,e,fun j _ h=>by omega⟩⟩
  ·obtain ⟨q,hq⟩:=zq7 x l;rcases hq with ⟨i,hi,rfl,e1,hj⟩|⟨rfl,hn⟩
   ·refine ⟨((i+1:Nat):Int),.inl ⟨i+1,by simp;omega,rfl,by simpa using e1,fun j h' h=>?_⟩⟩
    cases j with
    | zero=>simpa using e
    | succ j=>simpa using hj j (by simpa using h') (by omega)
   ·exact ⟨-1,.inr ⟨rfl,by simp [hn];omega⟩⟩
theorem IsIdx.mem {l:List Int} {x q:Int} (h:IsIdx l x q):0<=q↔x∈l:=by
 rcases h with ⟨i,hi,rfl,e,_⟩|⟨rfl,hn⟩
 ·exact ⟨fun _=>e ▸ List.getElem_mem hi,fun _=>by omega⟩
 ·exact ⟨fun h=>by omega,fun h=>absurd h hn⟩
theorem sh70:G.shared 70=false:=by decide
theorem e70 (n:Nat) (l:Sl Int) (x:Int) (hl:l.xs.length < 1000):zH G (n+2) 70 [l.pv intF 1,.int .i64 x]=some (.bool (decide (x∈l.xs))):=by
 refine zy (zw _) rfl g70 rfl ?_
 obtain ⟨q,hq⟩:=zq7 x l.xs;have c1:=fun H=>ze (G:=G) (n:=n+1) (H:=H) (caps:=[]) (ps:=[l.pv intF 1,.int .i64 x]) sh99 (e99 n l x q hl hq);simp only [List.map_cons,List.map_nil] at c1;have hm:decide (x∈l.xs)=decide (0<=q):=by rw [decide_eq_decide];exact hq.mem.symm
 rw [hm];clear hm hq;(repeat' first|simp [*,za,c70]|(apply zb<;>intro _ h<;>try simp [-Nat.le_zero_eq] at h))
theorem zqd:G.shared 115=false:=by decide
theorem e115 (n:Nat) (hot:Bool) (l:List Pt) (h0:l≠[]) (hl:l.length < 1000):zH G (n+1) 115 [(Sl.mk hot l).pv Pt.cells 2]=some ((Sl.mk false l).pv Pt.cells 2):=by
 refine zy (zw _) rfl g115 rfl ?_
 have hsc:Hide (∀ Hx,zN Hx 2 (.pure ((Sl.mk hot l).pv Pt.cells 2))=some (zq Pt.cells l,l.length)):=⟨fun Hx=>zcl (f:=Pt.cells) (sz:=2) (fun _=>rfl) _⟩
 have h0H:=Hide.mk h0;clear h0;have hb:vbin .eql .slice (.pure ((Sl.mk hot l).pv Pt.cells 2)) (.pure .nils)=some (.pure (.bool false)):=zfr rfl;(repeat' first|simp [*,za,c115]|(apply zb<;>intro _ h<;>try simp [-Nat.le_zero_eq] at h))
 refine zgS (f:=Pt.cells) (l:=[]) (m:=l) (.inr ⟨0,rfl,by simp [zgo]⟩) (fun _=>rfl) (by decide) (fun _=>rfl) (hsc.h _) (by simp [zn];omega) ?_
 intro v H1 hv hnx hsame hnm;simp only [List.nil_append] at hv;obtain ⟨id,rfl,hg⟩:=hv.row h0H.h;have hres:=Hide.mk (za6 (n:=10) (f:=Pt.cells) (sz:=2) (fun _=>rfl) hg rfl);clear hv hnx hsame hnm hsc;(repeat' first|simp [*,za]|(apply zb<;>intro _ h<;>try simp [-Nat.le_zero_eq] at h));exact hres.h
end Go.Proofs.YtmmhnfghklppiaaGreat.Vm
