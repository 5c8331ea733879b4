/- What the specification's functions that check facts and problems compute. Check of the program and of the specification: the same error of a problem. Problems that Check accepts; Allows of the program. What look calls: at, key, slices.Index and slices.Contains of numbers. -/
import Derived.Test.YtleggocccaeemaaOk14
import Derived.Test.YtleggocccaeemaaOk16
import Derived.Test.YtleggocccaeemaaOk15
import Derived.Test.YtleggocccaeemaaOk9
namespace Go.Proofs.Ytleggocccaeemaa.Vm
open Go
set_option linter.unusedSimpArgs false
set_option linter.unusedVariables false
set_option maxHeartbeats 4000000
theorem za5 (f:Fact) (n:Int):zaB f n=true↔(0<=f.id/\f.id<=1099511627776)/\(0<=f.a/\f.a < n)/\(0<=f.b/\f.b < n)/\f.a≠f.b/\(-17592186044416<=f.span.lo/\f.span.lo<=f.span.hi/\f.span.hi<=17592186044416) /\
  (f.kind=2->0<=f.c/\f.c < n/\f.c≠f.a/\f.c≠f.b/\f.quarter=0)/\(f.kind≠2->f.c=0/\1<=f.kind/\f.kind<=6/\(f.kind≠3->f.quarter=0)/\(f.kind=4->f.span.lo=0)/\(f.kind=3->0<=f.quarter/\f.quarter<=3/\f.span.lo=0/\f.span.hi=0)):=by
 unfold zaB inB zdL
 by_cases k2:f.kind=2
 ·simp only [k2,if_true,Bool.and_eq_true,Bool.not_eq_true',decide_eq_true_eq,decide_eq_false_iff_not,ne_eq,true_implies,not_true,false_implies,and_true];omega
 ·rw [if_neg k2]
  by_cases k:f.kind=1\/f.kind=5\/f.kind=6
  ·rw [if_pos k];simp only [Bool.and_eq_true,Bool.not_eq_true',decide_eq_true_eq,decide_eq_false_iff_not,ne_eq];omega
  ·rw [if_neg k]
   by_cases k4:f.kind=4
   ·rw [if_pos k4];simp only [Bool.and_eq_true,Bool.not_eq_true',decide_eq_true_eq,decide_eq_false_iff_not,ne_eq];omega
   ·rw [if_neg k4]
    by_cases k3:f.kind=3
    ·rw [if_pos k3];simp only [Bool.and_eq_true,Bool.not_eq_true',decide_eq_true_eq,decide_eq_false_iff_not,ne_eq];omega
    ·rw [if_neg k3];simp only [Bool.and_false,Bool.false_eq_true,false_iff,ne_eq];omega
def zaZ (p:Problem):Int :=
 if 12 < p.boxes.xs.length\/60 < p.facts.xs.length then 2
 else if p.boxes.xs.all boxB&&p.facts.xs.all (zaB · p.boxes.xs.length) then 0 else 1
theorem zmK {b:Box} (h:zaz b=true):(-1048576<=b.x.lo/\b.x.lo<=b.x.hi/\b.x.hi<=1048576)/\(-1048576<=b.y.lo/\b.y.lo<=b.y.hi/\b.y.hi<=1048576):=by
 simp only [zaz,zdL,Bool.and_eq_true,decide_eq_true_eq] at h;omega
def zgF {α:Type} (p:α->Bool) (l:List α) (i:Nat):Prop:=∀ j (h:j < l.length),j < i->p l[j]=true
theorem zhZ {α:Type} {p:α->Bool} {l:List α} (h:zgF p l l.length):l.all p=true:=by
 rw [List.all_eq_true];intro b hb;obtain ⟨j,hj,rfl⟩:=List.mem_iff_getElem.1 hb;exact h j hj hj
theorem zgs {α:Type} {p:α->Bool} {l:List α} {i:Nat} (h:zgF p l i) (hi:i < l.length) (hp:p l[i]=true):zgF p l (i+1):=fun j h' hj=>by
 by_cases e:j=i
 ·subst e;exact hp
 ·exact h j h' (by omega)
theorem zfo {α:Type} {p:α->Bool} {l:List α} {i:Nat} (hi:i < l.length) (hp:p l[i]=false):l.all p=false:=by
 rw [List.all_eq_false];exact ⟨_,List.getElem_mem hi,by simp [hp]⟩
theorem sh6:G.shared 6=false:=by decide
theorem e6 (n:Nat) (p:Problem):zI G (n+3) 6 [.agg p.cells]=some (.int .i64 (zaZ p)):=by
 refine zA (zB _) rfl g6 rfl ?_
 obtain ⟨bs,fs⟩:=p
 by_cases hb:12 < bs.xs.length
 ·have hc:zaZ ⟨bs,fs⟩=2:=by unfold zaZ;rw [if_pos (.inl hb)]
  have hb':(12:Int) < bs.xs.length:=by omega
  (repeat' first|simp [*,zb,c6,Problem.cells]|(apply za<;>intro _ h<;>try simp [-Nat.le_zero_eq] at h))
 by_cases hf:60 < fs.xs.length
 ·have hc:zaZ ⟨bs,fs⟩=2:=by unfold zaZ;rw [if_pos (.inr hf)]
  have hb':¬ (12:Int) < bs.xs.length:=by omega
  have hf':(60:Int) < fs.xs.length:=by omega
  (repeat' first|simp [*,zb,c6,Problem.cells]|(apply za<;>intro _ h<;>try simp [-Nat.le_zero_eq] at h))
 have hc:Hide (zaZ ⟨bs,fs⟩=if bs.xs.all boxB&&fs.xs.all (zaB · bs.xs.length) then 0 else 1):=⟨by unfold zaZ;rw [if_neg (by rintro (h|h);exact hb h;exact hf h)]⟩
 have hb':¬ (12:Int) < bs.xs.length:=by omega
 have hf':¬ (60:Int) < fs.xs.length:=by omega
 generalize zaZ ⟨bs,fs⟩=r at *;(repeat' first|simp [*,zb,c6,Problem.cells]|(apply za<;>intro _ h<;>try simp [-Nat.le_zero_eq] at h))
 refine zz [(2,2),(4,4),(20,39)] (fun (i:Nat) env H=>env 20=.pure (.int .i64 i)/\i<=bs.xs.length/\Hide (zgF boxB bs.xs i)) (fun i=>bs.xs.length - i) 0 ?_ ?_ ?_ ?_
 ·decide
 ·exact ⟨by simp,by omega,⟨fun _ _ h=>by omega⟩⟩
 ·simp only [zx];omega
 ·rintro i env H ⟨g0,hi,hn⟩
  by_cases hlt:i < bs.xs.length
  ·have w1:IntKind.i64.wrap ((i:Int)+1)=(i+1:Nat):=by rw [wrap64 (by omega) (by omega)];omega
   have hvi:=fun H=>zh (G:=G) (n:=n+2) (H:=H) (caps:=[]) (ps:=[.agg (bs.xs[i]).cells]) sh20 (e20 n bs.xs[i]);simp only [Box.cells,Span.cells,List.map_cons,List.map_nil] at hvi
   cases hv:zaz bs.xs[i] with
   | false =>
    have hB:boxB bs.xs[i]=false:=by unfold boxB;rw [hv];rfl
    have hr:r=1:=by rw [hc.h,zfo hlt hB];rfl
    rw [hv] at hvi;clear hv hB hc hn;(repeat' first|simp [*,zb,Box.cells,Span.cells]|(apply za<;>intro _ h<;>try simp [-Nat.le_zero_eq] at h))
   | true =>
    have hlim:=zmK hv;have h1:=fun H=>zh (G:=G) (n:=n+2) (H:=H) (caps:=[]) (ps:=[.agg (bs.xs[i]).x.cells]) sh21 (e21 (n+1) (bs.xs[i]).x (by omega) (by omega));have h2:=fun H=>zh (G:=G) (n:=n+2) (H:=H) (caps:=[]) (ps:=[.agg (bs.xs[i]).y.cells]) sh21 (e21 (n+1) (bs.xs[i]).y (by omega) (by omega));simp only [Span.cells,List.map_cons,List.map_nil] at h1 h2
    by_cases hB:boxB bs.xs[i]=true
    ·have hn':Hide (zgF boxB bs.xs (i+1)):=⟨zgs hn.h hlt hB⟩
     unfold boxB at hB;simp only [Bool.and_eq_true,decide_eq_true_eq] at hB;have e1:¬ (1024 < (bs.xs[i]).x.hi - (bs.xs[i]).x.lo+1):=by omega
     have e2:¬ (1024 < (bs.xs[i]).y.hi - (bs.xs[i]).y.lo+1):=by omega
     rw [hv] at hvi;clear hv hB hc hn hlim;(repeat' first|simp [*,zb,Box.cells,Span.cells]|(apply za<;>intro _ h<;>try simp [-Nat.le_zero_eq] at h));exact ⟨i+1,by omega,rfl,by omega,hn'⟩
    ·have hB:boxB bs.xs[i]=false:=by simpa using hB
     have hr:r=1:=by rw [hc.h,zfo hlt hB];rfl
     unfold boxB at hB;rw [hv,Bool.true_and,Bool.and_eq_false_iff,decide_eq_false_iff_not,decide_eq_false_iff_not] at hB;have e1:1024 < (bs.xs[i]).x.hi - (bs.xs[i]).x.lo+1\/(¬ 1024 < (bs.xs[i]).x.hi - (bs.xs[i]).x.lo+1/\1024 < (bs.xs[i]).y.hi - (bs.xs[i]).y.lo+1):=by omega
     rw [hv] at hvi;clear hv hB hc hn hlim;rcases e1 with e1|⟨e1,e2⟩
     ·(repeat' first|simp [*,zb,Box.cells,Span.cells]|(apply za<;>intro _ h<;>try simp [-Nat.le_zero_eq] at h))
     ·(repeat' first|simp [*,zb,Box.cells,Span.cells]|(apply za<;>intro _ h<;>try simp [-Nat.le_zero_eq] at h))
  ·have hil:i=bs.xs.length:=by omega
   subst hil;have hall:=zhZ hn.h;have hc:Hide (r=if fs.xs.all (zaB · bs.xs.length) then 0 else 1):=⟨by rw [hc.h,hall,Bool.true_and]⟩
   clear hall hn;(repeat' first|simp [*,zb]|(apply za<;>intro _ h<;>try simp [-Nat.le_zero_eq] at h))
   refine zz [(2,2),(6,6),(43,53)] (fun (i:Nat) env H=>env 43=.pure (.int .i64 i)/\i<=fs.xs.length/\Hide (zgF (zaB · bs.xs.length) fs.xs i)) (fun i=>fs.xs.length - i) 0 ?_ ?_ ?_ ?_
   ·decide
   ·exact ⟨by simp,by omega,⟨fun _ _ h=>by omega⟩⟩
   ·simp only [zx];omega
   rintro i env H ⟨g0,hi,hn⟩
   by_cases hlt:i < fs.xs.length
   ·have w1:IntKind.i64.wrap ((i:Int)+1)=(i+1:Nat):=by rw [wrap64 (by omega) (by omega)];omega
    have hvi:=fun H=>zh (G:=G) (n:=n+2) (H:=H) (caps:=[]) (ps:=[.agg (fs.xs[i]).cells,.int .i64 (bs.xs.length:Nat)]) sh22 (e22 n fs.xs[i] bs.xs.length (by omega));simp only [Fact.cells,List.map_cons,List.map_nil] at hvi
    cases hv:zaB fs.xs[i] bs.xs.length with
    | false =>
     have hr:r=1:=by rw [hc.h,zfo hlt hv];rfl
     rw [hv] at hvi;clear hv hc hn;(repeat' first|simp [*,zb,Fact.cells]|(apply za<;>intro _ h<;>try simp [-Nat.le_zero_eq] at h))
    | true =>
     have hn':Hide (zgF (zaB · bs.xs.length) fs.xs (i+1)):=⟨zgs hn.h hlt hv⟩
     rw [hv] at hvi;clear hv hc hn;(repeat' first|simp [*,zb,Fact.cells]|(apply za<;>intro _ h<;>try simp [-Nat.le_zero_eq] at h));exact ⟨i+1,by omega,rfl,by omega,hn'⟩
   ·have hil:i=fs.xs.length:=by omega
    subst hil;have hr:r=0:=by rw [hc.h,zhZ hn.h];rfl
    clear hn hc;(repeat' first|simp [*,zb]|(apply za<;>intro _ h<;>try simp [-Nat.le_zero_eq] at h))
@[simp] theorem d6 (n:Nat) (H:Heap) (p_boxes:Sl Box) (p_facts:Sl Fact):zM (zq G (n+3)) H (.pure (.func 6 [])) [.pure (.agg [(p_boxes).pv Box.cells 4,(p_facts).pv Fact.cells 9])]=some (.val (.pure ((fun (p:Problem)=>.int .i64 (zaZ p)) (⟨p_boxes,p_facts⟩:Problem)))) :=
 zh (ps:=[_]) (caps:=[]) sh6 (e6 n (⟨p_boxes,p_facts⟩:Problem))
structure CheckOk (p:Problem):Prop where
 nb:p.boxes.xs.length<=12
 nf:p.facts.xs.length<=60
 box:∀ b∈p.boxes.xs,boxB b=true
 fact:∀ f∈p.facts.xs,zaB f p.boxes.xs.length=true
theorem check_ok {p:Problem}:zaZ p=0↔CheckOk p:=by
 unfold zaZ
 constructor
 ·intro h
  split at h
  ·simp at h
  ·rename_i h1
   split at h
   ·rename_i h2;rw [Bool.and_eq_true,List.all_eq_true,List.all_eq_true] at h2;exact ⟨by omega,by omega,h2.1,h2.2⟩
   ·simp at h
 ·intro h;have e1:p.boxes.xs.all boxB=true:=List.all_eq_true.2 h.box;have e2:p.facts.xs.all (zaB · p.boxes.xs.length)=true:=List.all_eq_true.2 h.fact;rw [if_neg (by have:=h.nb;have:=h.nf;omega),e1,e2];rfl
theorem CheckOk.valid {p:Problem} (h:CheckOk p):∀ b∈p.boxes.xs,zaz b=true:=fun b hb=>by
 have:=h.box b hb;unfold boxB at this;simp only [Bool.and_eq_true] at this;exact this.1.1
theorem CheckOk.fine {p:Problem} (h:CheckOk p) {l:List Box} (hl:l.length=p.boxes.xs.length) (hv:∀ b∈l,zaz b=true) {f:Fact} (hf:f∈p.facts.xs):zlT f l=true:=by
 unfold zlT;rw [hl,h.fact f hf,Bool.and_true];exact List.all_eq_true.2 hv
def zdU (b:List Box):List Fact->Int->Int×Bool
 | [],_=>(-1,true)
 | f::fs,k=>if zQ f b=true then (k,false) else zdU b fs (k+1)
theorem zhQ {b:List Box}:∀ (fs:List Fact) (k:Int) (i:Nat) (h:i < fs.length),(∀ j (h:j < fs.length),j < i->zQ fs[j] b=false)->zQ fs[i] b=true->zdU b fs k=(k+i,false)
 | [],k,i,h,_,_=>by simp at h
 | f::fs,k,0,h,_,hf=>by
  have:zQ f b=true:=hf;simp [zdU,this]
 | f::fs,k,i+1,h,hn,hf=>by
  have h0:zQ f b=false:=hn 0 (by simp) (by omega);rw [zdU,h0,if_neg (by simp),zhQ fs (k+1) i (by simpa using h) (fun j hj hji=>hn (j+1) (by simpa using hj) (by omega)) hf];simp only [Prod.mk.injEq,and_true];omega
theorem zea {b:List Box}:∀ (fs:List Fact) (k:Int),(∀ j (h:j < fs.length),zQ fs[j] b=false)->zdU b fs k=(-1,true)
 | [],k,_=>rfl
 | f::fs,k,hn=>by
  have h0:zQ f b=false:=hn 0 (by simp);rw [zdU,h0,if_neg (by simp)];exact zea fs (k+1) fun j hj=>hn (j+1) (by simpa using hj)
def inPB (p:Pt) (b:Box):Bool:=inB p.x b.x.lo b.x.hi&&inB p.y b.y.lo b.y.hi
def insB (l:List Pt) (bs:List Box):Prop:=∀ i (h:i < bs.length) (h':i < l.length),inPB l[i] bs[i]=true
open Classical in
noncomputable def allowsS (p:Problem) (l:List Pt):Int×Bool :=
 if zaZ p=0/\l.length=p.boxes.xs.length/\insB l p.boxes.xs then zdU (l.map atB) p.facts.xs 0 else (-1,false)
theorem znp {p:Problem} {l:List Pt} (h:CheckOk p) (hl:l.length=p.boxes.xs.length) (hi:insB l p.boxes.xs):∀ b∈l.map atB,zaz b=true:=by
 intro b hb;obtain ⟨i,hi',rfl⟩:=List.mem_iff_getElem.1 hb;have hi':i < l.length:=by simpa using hi'
 have h1:=hi i (by omega) hi';have h2:=valid_iff.1 (h.valid _ (List.getElem_mem (show i < p.boxes.xs.length by omega)));rw [List.getElem_map,valid_iff];simp only [inPB,inB,Bool.and_eq_true,decide_eq_true_eq] at h1;simp only [atB];omega
theorem sh12:G.shared 12=false:=by decide
theorem e12 (n:Nat) (p:Problem) (l:Sl Pt) (hl:l.xs.length < 1000):zI G (n+7) 12 [.agg p.cells,l.pv Pt.cells 2]=some (.tup [.int .i64 (allowsS p l.xs).1,.bool (allowsS p l.xs).2]):=by
 refine zA (zB _) rfl g12 rfl ?_
 obtain ⟨bs,fs⟩:=p;have hC:=fun H=>zh (G:=G) (n:=n+6) (H:=H) (caps:=[]) (ps:=[.agg (Problem.mk bs fs).cells]) sh6 (e6 (n+3) ⟨bs,fs⟩);have hA:=fun H=>zh (G:=G) (n:=n+6) (H:=H) (caps:=[]) (ps:=[l.pv Pt.cells 2]) sh32 (e32 (n+4) l hl);simp only [Problem.cells,List.map_cons,List.map_nil] at hC hA
 by_cases hc:zaZ ⟨bs,fs⟩=0
 case neg =>
  have hr:allowsS ⟨bs,fs⟩ l.xs=(-1,false):=by unfold allowsS;rw [if_neg (fun h=>hc h.1)]
  generalize zaZ ⟨bs,fs⟩=c at *;rw [hr];clear hr;(repeat' first|simp [*,zb,c12,Problem.cells]|(apply za<;>intro _ h<;>try simp [-Nat.le_zero_eq] at h))
 have ok:=check_ok.1 hc;rw [hc] at hC;have nb:bs.xs.length<=12:=ok.nb;have nf:fs.xs.length<=60:=ok.nf
 by_cases hlen:l.xs.length=bs.xs.length
 case neg =>
  have hr:allowsS ⟨bs,fs⟩ l.xs=(-1,false):=by unfold allowsS;rw [if_neg (fun h=>hlen h.2.1)]
  rw [hr];have hlen':¬ (l.xs.length:Int)=bs.xs.length:=by omega
  clear hr hc ok;(repeat' first|simp [*,zb,c12,Problem.cells]|(apply za<;>intro _ h<;>try simp [-Nat.le_zero_eq] at h))
 have hr:Hide (insB l.xs bs.xs->allowsS ⟨bs,fs⟩ l.xs=zdU (l.xs.map atB) fs.xs 0):=⟨fun hi=>by unfold allowsS;rw [if_pos ⟨hc,hlen,hi⟩]⟩
 have hr2:Hide (¬ insB l.xs bs.xs->allowsS ⟨bs,fs⟩ l.xs=(-1,false)):=⟨fun hi=>by unfold allowsS;rw [if_neg (fun h=>hi h.2.2)]⟩
 have hok:=Hide.mk ok;generalize allowsS ⟨bs,fs⟩ l.xs=r at *;have hlI:(l.xs.length:Int)=bs.xs.length:=by omega
 have hlN:=Hide.mk hlen;clear hc ok hlen;(repeat' first|simp [*,zb,c12,Problem.cells]|(apply za<;>intro _ h<;>try simp [-Nat.le_zero_eq] at h))
 refine zz [(4,7),(25,58)] (fun (i:Nat) env H=>env 25=.pure (.int .i64 i)/\i<=bs.xs.length/\Hide (∀ j (h:j < bs.xs.length) (h':j < l.xs.length),j < i->inPB l.xs[j] bs.xs[j]=true)) (fun i=>bs.xs.length - i) 0 ?_ ?_ ?_ ?_
 ·decide
 ·exact ⟨by simp,by omega,⟨fun _ _ _ h=>by omega⟩⟩
 ·simp only [zx];omega
 rintro i env H ⟨g0,hi,hn⟩
 by_cases hlt:i < bs.xs.length
 ·have hlt2:i < l.xs.length:=by have:=hlN.h;omega
  have w1:IntKind.i64.wrap ((i:Int)+1)=(i+1:Nat):=by rw [wrap64 (by omega) (by omega)];omega
  have hp:=Hide.mk (hn.h)
  cases hin:inPB l.xs[i] bs.xs[i] with
  | true =>
   have hn':Hide (∀ j (h:j < bs.xs.length) (h':j < l.xs.length),j < i+1->inPB l.xs[j] bs.xs[j]=true):=⟨fun j h h' hj=>by
    by_cases e:j=i
    ·subst e;exact hin
    ·exact hn.h j h h' (by omega)⟩
   unfold inPB at hin;rw [Bool.and_eq_true] at hin;obtain ⟨i1,i2⟩:=hin;clear hn hp;(repeat' first|simp [*,zb,Pt.cells,Box.cells,Span.cells]|(apply za<;>intro _ h<;>try simp [-Nat.le_zero_eq] at h));exact ⟨i+1,by omega,rfl,by omega,hn'⟩
  | false =>
   have hrr:r=(-1,false):=hr2.h fun h=>by rw [h i hlt hlt2] at hin;simp at hin
   subst hrr;unfold inPB at hin;clear hn hp hr hr2
   cases i1:inB l.xs[i].x bs.xs[i].x.lo bs.xs[i].x.hi with
   | true =>
    rw [i1,Bool.true_and] at hin;(repeat' first|simp [*,zb,Pt.cells,Box.cells,Span.cells]|(apply za<;>intro _ h<;>try simp [-Nat.le_zero_eq] at h))
   | false =>
    clear hin;(repeat' first|simp [*,zb,Pt.cells,Box.cells,Span.cells]|(apply za<;>intro _ h<;>try simp [-Nat.le_zero_eq] at h))
 ·have hil:i=bs.xs.length:=by omega
  subst hil;have hins:insB l.xs bs.xs:=fun j h h'=>hn.h j h h' h;have hrr:=Hide.mk (hr.h hins);have hfv:=Hide.mk fun (f:Fact) (hf:f∈fs.xs) H=>zh (G:=G) (n:=n+6) (H:=H) (caps:=[]) (ps:=[.agg f.cells,(Sl.of (l.xs.map atB)).pv Box.cells 4]) sh33 (e33 (n+1) f (Sl.of (l.xs.map atB)) (by
   rw [Sl.xs_of];exact zlR (hok.h.fine (by simpa using hlN.h) (znp hok.h hlN.h hins) hf)))
  clear hr hr2 hn hins hok;simp only [Sl.xs_of] at hfv;generalize Sl.of (l.xs.map atB)=s at *;(repeat' first|simp [*,zb]|(apply za<;>intro _ h<;>try simp [-Nat.le_zero_eq] at h))
  refine zz [(4,5),(9,10),(64,73)] (fun (i:Nat) env H=>env 64=.pure (.int .i64 i)/\i<=fs.xs.length/\Hide (∀ j (h:j < fs.xs.length),j < i->zQ fs.xs[j] (l.xs.map atB)=false)) (fun i=>fs.xs.length - i) 0 ?_ ?_ ?_ ?_
  ·decide
  ·exact ⟨by simp,by omega,⟨fun _ _ h=>by omega⟩⟩
  ·simp only [zx];omega
  rintro i env H ⟨g0,hi,hn⟩
  by_cases hlt:i < fs.xs.length
  ·have w1:IntKind.i64.wrap ((i:Int)+1)=(i+1:Nat):=by rw [wrap64 (by omega) (by omega)];omega
   have hv:=hfv.h fs.xs[i] (List.getElem_mem hlt);simp only [Fact.cells,List.map_cons,List.map_nil] at hv
   cases hf:zQ fs.xs[i] (l.xs.map atB) with
   | true =>
    have hrr:=hrr.h.trans (zhQ fs.xs 0 i hlt hn.h hf);subst hrr;rw [hf] at hv;clear hf hn hfv;(repeat' first|simp [*,zb,Fact.cells]|(apply za<;>intro _ h<;>try simp [-Nat.le_zero_eq] at h))
   | false =>
    have hn':Hide (∀ j (h:j < fs.xs.length),j < i+1->zQ fs.xs[j] (l.xs.map atB)=false):=⟨fun j h hj=>by
     by_cases e:j=i
     ·subst e;exact hf
     ·exact hn.h j h (by omega)⟩
    rw [hf] at hv;clear hf hn hfv hrr;(repeat' first|simp [*,zb,Fact.cells]|(apply za<;>intro _ h<;>try simp [-Nat.le_zero_eq] at h));exact ⟨i+1,by omega,rfl,by omega,hn'⟩
  ·have hil:i=fs.xs.length:=by omega
   subst hil;have hrr:=hrr.h.trans (zea fs.xs 0 fun j h=>hn.h j h h);subst hrr;clear hn hfv;(repeat' first|simp [*,zb]|(apply za<;>intro _ h<;>try simp [-Nat.le_zero_eq] at h))
set_option maxRecDepth 4000
def keyS (p:Pt) (k:Nat):Int:=if k=0 then p.x else if k=1 then -p.x else if k=2 then p.y else -p.y
theorem sh71:G.shared 71=false:=by decide
theorem e71 (n:Nat) (p:Pt) (k:Nat) (hk:k < 4) (hx:-1048576<=p.x/\p.x<=1048576) (hy:-1048576<=p.y/\p.y<=1048576):zI G (n+1) 71 [.agg p.cells,.int .i64 k]=some (.int .i64 (keyS p k)):=by
 refine zA (zB _) rfl g71 rfl ?_
 have w1:IntKind.i64.wrap (-p.x)=-p.x:=wrap64 (by omega) (by omega);have w2:IntKind.i64.wrap (-p.y)=-p.y:=wrap64 (by omega) (by omega);have hk4:k=0\/k=1\/k=2\/k=3:=by omega
 clear hx hy;rcases hk4 with rfl|rfl|rfl|rfl
 ·have e1:((0:Nat):Int)=0:=rfl;(repeat' first|simp [*,zb,c71,Pt.cells,keyS]|(apply za<;>intro _ h<;>try simp [-Nat.le_zero_eq] at h))
 ·have e1:((1:Nat):Int)=1:=rfl;(repeat' first|simp [*,zb,c71,Pt.cells,keyS]|(apply za<;>intro _ h<;>try simp [-Nat.le_zero_eq] at h))
 ·have e1:((2:Nat):Int)=2:=rfl;(repeat' first|simp [*,zb,c71,Pt.cells,keyS]|(apply za<;>intro _ h<;>try simp [-Nat.le_zero_eq] at h))
 ·have e1:((3:Nat):Int)=3:=rfl;(repeat' first|simp [*,zb,c71,Pt.cells,keyS]|(apply za<;>intro _ h<;>try simp [-Nat.le_zero_eq] at h))
def IsIdx (l:List Int) (x q:Int):Prop:=(∃ i,∃ h:i < l.length,q=(i:Nat)/\l[i]=x/\∀ j (h':j < l.length),j < i->l[j]≠x)\/(q=-1/\x ∉ l)
theorem IsIdx.unique {l:List Int} {x q q':Int} (h:IsIdx l x q) (h':IsIdx l x q'):q=q':=by
 rcases h with ⟨i,hi,rfl,e,hj⟩|⟨rfl,hn⟩
 ·rcases h' with ⟨i',hi',rfl,e',hj'⟩|⟨rfl,hn'⟩
  ·rcases Nat.lt_trichotomy i i' with h|h|h
   ·exact absurd e (hj' i hi h)
   ·rw [h]
   ·exact absurd e' (hj i' hi' h)
  ·exact absurd (e ▸ List.getElem_mem hi) hn'
 ·rcases h' with ⟨i',hi',rfl,e',hj'⟩|⟨rfl,hn'⟩
  ·exact absurd (e' ▸ List.getElem_mem hi') hn
  ·rfl
theorem sh51:G.shared 51=false:=by decide
theorem e51 (n:Nat) (l:Sl Int) (x q:Int) (hl:l.xs.length < 1000) (hq:IsIdx l.xs x q):zI G (n+1) 51 [l.pv intF 1,.int .i64 x]=some (.int .i64 q):=by
 refine zA (zB _) rfl g51 rfl ?_
 have hqH:=Hide.mk hq;clear hq;(repeat' first|simp [*,zb,c51]|(apply za<;>intro _ h<;>try simp [-Nat.le_zero_eq] at h))
 refine zz [(4,5),(8,18)] (fun (i:Nat) env H=>env 8=.pure (.int .i64 i)/\i<=l.xs.length/\Hide (∀ j (h':j < l.xs.length),j < i->l.xs[j]≠x)) (fun i=>l.xs.length - i) 0 ?_ ?_ ?_ ?_
 ·decide
 ·exact ⟨by simp,by omega,⟨fun _ _ h=>by omega⟩⟩
 ·simp only [zx];omega
 rintro i env H ⟨g8,hi,hn⟩
 by_cases hlt:i < l.xs.length
 ·have w1:IntKind.i64.wrap ((i:Int)+1)=(i+1:Nat):=by rw [wrap64 (by omega) (by omega)];omega
  have hltI:(i:Int) < l.xs.length:=by omega
  by_cases e:l.xs[i]=x
  ·have hqi:q=(i:Nat):=hqH.h.unique (.inl ⟨i,hlt,rfl,e,hn.h⟩);subst hqi;clear hn hqH;subst e;(repeat' first|simp [*,zb,intF]|(apply za<;>intro _ h<;>try simp [-Nat.le_zero_eq] at h))
  ·have hn':Hide (∀ j (h':j < l.xs.length),j < i+1->l.xs[j]≠x):=⟨fun j h hj=>by
    by_cases ej:j=i
    ·subst ej;exact e
    ·exact hn.h j h (by omega)⟩
   have e':¬ x=l.xs[i]:=fun h=>e h.symm;clear hn e;(repeat' first|simp [*,zb,intF]|(apply za<;>intro _ h<;>try simp [-Nat.le_zero_eq] at h));exact ⟨i+1,by omega,by omega,by omega,hn'⟩
 ·have hiN:i=l.xs.length:=by omega
  subst hiN;have hqi:q=-1:=hqH.h.unique (.inr ⟨rfl,fun hm=>by
   obtain ⟨j,hj,e⟩:=List.mem_iff_getElem.1 hm;exact hn.h j hj hj e⟩)
  subst hqi;clear hn hqH;(repeat' first|simp [*,zb]|(apply za<;>intro _ h<;>try simp [-Nat.le_zero_eq] at h))
theorem znj (x:Int):∀ l:List Int,∃ q,IsIdx l x q
 | []=>⟨-1,.inr ⟨rfl,by simp⟩⟩
 | a::l=>by
  by_cases e:a=x
  ·exact ⟨0,.inl ⟨0,by simp,rfl,e,fun j _ h=>by omega⟩⟩
  ·obtain ⟨q,hq⟩:=znj x l;rcases hq with ⟨i,hi,rfl,e1,hj⟩|⟨rfl,hn⟩
   ·refine ⟨((i+1:Nat):Int),.inl ⟨i+1,by simp;omega,rfl,by simpa using e1,fun j h' h=>?_⟩⟩
    cases j with
    | zero=>simpa using e
    | succ j=>simpa using hj j (by simpa using h') (by omega)
   ·exact ⟨-1,.inr ⟨rfl,by simp [hn];omega⟩⟩
theorem IsIdx.mem {l:List Int} {x q:Int} (h:IsIdx l x q):0<=q↔x∈l:=by
 rcases h with ⟨i,hi,rfl,e,_⟩|⟨rfl,hn⟩
 ·exact ⟨fun _=>e ▸ List.getElem_mem hi,fun _=>by omega⟩
 ·exact ⟨fun h=>by omega,fun h=>absurd h hn⟩
theorem sh28:G.shared 28=false:=by decide
theorem e28 (n:Nat) (l:Sl Int) (x:Int) (hl:l.xs.length < 1000):zI G (n+2) 28 [l.pv intF 1,.int .i64 x]=some (.bool (decide (x∈l.xs))):=by
 refine zA (zB _) rfl g28 rfl ?_
 obtain ⟨q,hq⟩:=znj x l.xs;have c1:=fun H=>zh (G:=G) (n:=n+1) (H:=H) (caps:=[]) (ps:=[l.pv intF 1,.int .i64 x]) sh51 (e51 n l x q hl hq);simp only [List.map_cons,List.map_nil] at c1;have hm:decide (x∈l.xs)=decide (0<=q):=by rw [decide_eq_decide];exact hq.mem.symm
 rw [hm];clear hm hq;(repeat' first|simp [*,zb,c28]|(apply za<;>intro _ h<;>try simp [-Nat.le_zero_eq] at h))
theorem sh70:G.shared 70=false:=by decide
theorem e70 (n:Nat) (hot:Bool) (l:List Pt) (h0:l≠[]) (hl:l.length < 1000):zI G (n+1) 70 [(Sl.mk hot l).pv Pt.cells 2]=some ((Sl.mk false l).pv Pt.cells 2):=by
 refine zA (zB _) rfl g70 rfl ?_
 have hsc:Hide (∀ Hx,zJ Hx 2 (.pure ((Sl.mk hot l).pv Pt.cells 2))=some (zm Pt.cells l,l.length)):=⟨fun Hx=>zbU (f:=Pt.cells) (sz:=2) (fun _=>rfl) _⟩
 have h0H:=Hide.mk h0;clear h0;have hb:vbin .eql .slice (.pure ((Sl.mk hot l).pv Pt.cells 2)) (.pure .nils)=some (.pure (.bool false)):=zey rfl;(repeat' first|simp [*,zb,c70]|(apply za<;>intro _ h<;>try simp [-Nat.le_zero_eq] at h))
 refine zjY (f:=Pt.cells) (l:=[]) (m:=l) (.inr ⟨0,rfl,by simp [zfx]⟩) (fun _=>rfl) (by decide) (fun _=>rfl) (hsc.h _) (by simp [zn];omega) ?_
 intro v H1 hv hnx hsame hnm;simp only [List.nil_append] at hv;obtain ⟨id,rfl,hg⟩:=hv.row h0H.h;have hres:=Hide.mk (zbz (n:=10) (f:=Pt.cells) (sz:=2) (fun _=>rfl) hg rfl);clear hv hnx hsame hnm hsc;(repeat' first|simp [*,zb]|(apply za<;>intro _ h<;>try simp [-Nat.le_zero_eq] at h));exact hres.h
end Go.Proofs.Ytleggocccaeemaa.Vm
