/- What the specification's functions that check facts and problems compute. Check of the program and of the specification: the same error of a problem. Problems that Check accepts; Allows of the program. What look calls: at, key, slices.Index and slices.Contains of numbers. -/
import Derived.Test.YtmmhnfghklppiaaGreatWk14
import Derived.Test.YtmmhnfghklppiaaGreatWk16
import Derived.Test.YtmmhnfghklppiaaGreatWk15
import Derived.Test.YtmmhnfghklppiaaGreatWk8
namespace Go.Proofs.YtmmhnfghklppiaaGreat.Vm
open Go
set_option linter.unusedSimpArgs false
set_option linter.unusedVariables false
set_option maxHeartbeats 4000000
theorem CZ (f:Fact) (n:Int):qX f n=true↔(0<=f.id/\f.id<=1099511627776)/\(0<=f.a/\f.a < n)/\(0<=f.b/\f.b < n)/\f.a≠f.b/\(-17592186044416<=f.span.lo/\f.span.lo<=f.span.hi/\f.span.hi<=17592186044416) /\
  (f.kind=2->0<=f.c/\f.c < n/\f.c≠f.a/\f.c≠f.b/\f.quarter=0)/\(f.kind≠2->f.c=0/\1<=f.kind/\f.kind<=6/\(f.kind≠3->f.quarter=0)/\(f.kind=4->f.span.lo=0)/\(f.kind=3->0<=f.quarter/\f.quarter<=3/\f.span.lo=0/\f.span.hi=0)):=by
 unfold qX mZ E9
 by_cases k2:f.kind=2
 .simp only [k2,if_true,Bool.and_eq_true,Bool.not_eq_true',decide_eq_true_eq,decide_eq_false_iff_not,ne_eq,true_implies,not_true,false_implies,and_true];omega
 .rw [if_neg k2]
  by_cases k:f.kind=1\/f.kind=5\/f.kind=6
  .rw [if_pos k];simp only [Bool.and_eq_true,Bool.not_eq_true',decide_eq_true_eq,decide_eq_false_iff_not,ne_eq];omega
  .rw [if_neg k]
   by_cases k4:f.kind=4
   .rw [if_pos k4];simp only [Bool.and_eq_true,Bool.not_eq_true',decide_eq_true_eq,decide_eq_false_iff_not,ne_eq];omega
   .rw [if_neg k4]
    by_cases k3:f.kind=3
    .rw [if_pos k3];simp only [Bool.and_eq_true,Bool.not_eq_true',decide_eq_true_eq,decide_eq_false_iff_not,ne_eq];omega
    .rw [if_neg k3];simp only [Bool.and_false,Bool.false_eq_true,false_iff,ne_eq];omega
theorem WX {f:Fact} {n:Int} {b:Bool} (h:b=true↔qX f n=true):b=qX f n:=by
 cases b<;>cases hf:qX f n<;>simp_all
theorem sh50:G.shared 50=false:=by decide
theorem e50 (n:Nat) (f:Fact) (m:Nat) (hm:m < 1000):zK G (n+2) 50 [.agg f.cells,.int .i64 m]=some (.bool (qX f m)):=by
 refine zz (zy _) rfl g50 rfl ?_
 have key:=CZ f m;have hk:=Hide.mk key;clear key;(repeat' first|simp [*,zb,c50,Fact.cells,zmh,xZ,DV,Span.cells,E9]|(apply za<;>intro _ h<;>try simp [-Nat.le_zero_eq] at h))
 all_goals try ((first|refine Eq.symm (WX ?_)|refine WX ?_|skip);(try rw [<- Bool.not_eq_true]);rw [hk.h];first|omega|(simp only [Bool.and_eq_true,Bool.or_eq_true,decide_eq_true_eq,Bool.false_eq_true,false_iff,true_iff,Bool.not_eq_true',decide_eq_false_iff_not];omega))
 all_goals (by_cases e1:f.span.lo=0<;>by_cases e2:f.span.hi=0)
 all_goals (repeat' first|simp [*,zb]|(apply za<;>intro _ h<;>try simp [-Nat.le_zero_eq] at h))
 all_goals try ((first|refine Eq.symm (WX ?_)|refine WX ?_|skip);(try rw [<- Bool.not_eq_true]);rw [hk.h];first|omega|(simp only [Bool.and_eq_true,Bool.or_eq_true,decide_eq_true_eq,Bool.false_eq_true,false_iff,true_iff,Bool.not_eq_true',decide_eq_false_iff_not];omega))
def zQ (p:Problem):Int :=
 if 12 < p.boxes.xs.length\/60 < p.facts.xs.length then 2
 else if p.boxes.xs.all jU&&p.facts.xs.all (qX · p.boxes.xs.length) then 0 else 1
theorem zkr {b:Box} (h:o7 b=true):(-1048576<=b.x.lo/\b.x.lo<=b.x.hi/\b.x.hi<=1048576)/\(-1048576<=b.y.lo/\b.y.lo<=b.y.hi/\b.y.hi<=1048576):=by
 simp only [o7,E9,Bool.and_eq_true,decide_eq_true_eq] at h;omega
def Ik {α:Type} (p:α->Bool) (l:List α) (i:Nat):Prop:=∀ j (h:j < l.length),j < i->p l[j]=true
theorem WY {α:Type} {p:α->Bool} {l:List α} (h:Ik p l l.length):l.all p=true:=by
 rw [List.all_eq_true];intro b hb;obtain ⟨j,hj,rfl⟩:=List.mem_iff_getElem.1 hb;exact h j hj hj
theorem WZ {α:Type} {p:α->Bool} {l:List α} {i:Nat} (h:Ik p l i) (hi:i < l.length) (hp:p l[i]=true):Ik p l (i+1):=fun j h' hj=>by
 by_cases e:j=i
 .subst e;exact hp
 .exact h j h' (by omega)
theorem QQ {α:Type} {p:α->Bool} {l:List α} {i:Nat} (hi:i < l.length) (hp:p l[i]=false):l.all p=false:=by
 rw [List.all_eq_false];exact ⟨_,List.getElem_mem hi,by simp [hp]⟩
theorem sh45:G.shared 45=false:=by decide
theorem e45 (n:Nat) (p:Problem):zK G (n+3) 45 [.agg p.cells]=some (.int .i64 (zQ p)):=by
 refine zz (zy _) rfl g45 rfl ?_
 obtain ⟨bs,fs⟩:=p
 by_cases hb:12 < bs.xs.length
 .have hc:zQ ⟨bs,fs⟩=2:=by unfold zQ;rw [if_pos (.inl hb)]
  have jR:(12:Int) < bs.xs.length:=by omega
  simp [*,zb,c45,Problem.cells]
 by_cases hf:60 < fs.xs.length
 .have hc:zQ ⟨bs,fs⟩=2:=by unfold zQ;rw [if_pos (.inr hf)]
  have jR:¬ (12:Int) < bs.xs.length:=by omega
  have GR:(60:Int) < fs.xs.length:=by omega
  simp [*,zb,c45,Problem.cells]
 have hc:Hide (zQ ⟨bs,fs⟩=if bs.xs.all jU&&fs.xs.all (qX · bs.xs.length) then 0 else 1):=⟨by unfold zQ;rw [if_neg (by rintro (h|h);exact hb h;exact hf h)]⟩
 have jR:¬ (12:Int) < bs.xs.length:=by omega
 have GR:¬ (60:Int) < fs.xs.length:=by omega
 generalize zQ ⟨bs,fs⟩=r at *;(repeat' first|simp [*,zb,c45,Problem.cells]|(apply za<;>intro _ h<;>try simp [-Nat.le_zero_eq] at h))
 refine zL [(2,2),(4,4),(20,39)] (fun (i:Nat) env H=>env 20=.pure (.int .i64 i)/\i<=bs.xs.length/\Hide (Ik jU bs.xs i)) (fun i=>bs.xs.length - i) 0 ?_ ?_ ?_ ?_
 .decide
 .exact ⟨by simp,by omega,⟨fun _ _ h=>by omega⟩⟩
 .simp only [zF];omega
 .rintro i env H ⟨g0,hi,hn⟩
  by_cases aO:i < bs.xs.length
  .have w1:IntKind.i64.wrap ((i:Int)+1)=(i+1:Nat):=by rw [wrap64 (by omega) (by omega)];omega
   have lU:=fun H=>ze (G:=G) (n:=n+2) (H:=H) (caps:=[]) (ps:=[.agg (bs.xs[i]).cells]) sh91 (e91 n bs.xs[i]);simp only [Box.cells,Span.cells,List.map] at lU
   cases hv:o7 bs.xs[i] with
   | false =>
    have hB:jU bs.xs[i]=false:=by unfold jU;rw [hv];rfl
    have hr:r=1:=by rw [hc.h,QQ aO hB];rfl
    rw [hv] at lU;clear hv hB hc hn;simp [*,zb,Box.cells,Span.cells]
   | true =>
    have Il:=zkr hv;have h1:=fun H=>ze (G:=G) (n:=n+2) (H:=H) (caps:=[]) (ps:=[.agg (bs.xs[i]).x.cells]) sh92 (e92 (n+1) (bs.xs[i]).x (by omega) (by omega));have h2:=fun H=>ze (G:=G) (n:=n+2) (H:=H) (caps:=[]) (ps:=[.agg (bs.xs[i]).y.cells]) sh92 (e92 (n+1) (bs.xs[i]).y (by omega) (by omega));simp only [Span.cells,List.map] at h1 h2
    by_cases hB:jU bs.xs[i]=true
    .have jD:Hide (Ik jU bs.xs (i+1)):=⟨WZ hn.h aO hB⟩
     unfold jU at hB;simp only [Bool.and_eq_true,decide_eq_true_eq] at hB;have e1:¬ (1024 < (bs.xs[i]).x.hi - (bs.xs[i]).x.lo+1):=by omega
     have e2:¬ (1024 < (bs.xs[i]).y.hi - (bs.xs[i]).y.lo+1):=by omega
     rw [hv] at lU;clear hv hB hc hn Il;(repeat' first|simp [*,zb,Box.cells,Span.cells]|(apply za<;>intro _ h<;>try simp [-Nat.le_zero_eq] at h));exact ⟨i+1,by omega,rfl,by omega,jD⟩
    .have hB:jU bs.xs[i]=false:=by simpa using hB
     have hr:r=1:=by rw [hc.h,QQ aO hB];rfl
     unfold jU at hB;rw [hv,Bool.true_and,Bool.and_eq_false_iff,decide_eq_false_iff_not,decide_eq_false_iff_not] at hB;have e1:1024 < (bs.xs[i]).x.hi - (bs.xs[i]).x.lo+1\/(¬ 1024 < (bs.xs[i]).x.hi - (bs.xs[i]).x.lo+1/\1024 < (bs.xs[i]).y.hi - (bs.xs[i]).y.lo+1):=by omega
     rw [hv] at lU;clear hv hB hc hn Il;rcases e1 with e1|⟨e1,e2⟩
     .simp [*,zb,Box.cells,Span.cells]
     .simp [*,zb,Box.cells,Span.cells]
  .have aX:i=bs.xs.length:=by omega
   subst aX;have fq:=WY hn.h;have hc:Hide (r=if fs.xs.all (qX · bs.xs.length) then 0 else 1):=⟨by rw [hc.h,fq,Bool.true_and]⟩
   clear fq hn;(repeat' first|simp [*,zb]|(apply za<;>intro _ h<;>try simp [-Nat.le_zero_eq] at h))
   refine zL [(2,2),(6,6),(43,53)] (fun (i:Nat) env H=>env 43=.pure (.int .i64 i)/\i<=fs.xs.length/\Hide (Ik (qX · bs.xs.length) fs.xs i)) (fun i=>fs.xs.length - i) 0 ?_ ?_ ?_ ?_
   .decide
   .exact ⟨by simp,by omega,⟨fun _ _ h=>by omega⟩⟩
   .simp only [zF];omega
   rintro i env H ⟨g0,hi,hn⟩
   by_cases aO:i < fs.xs.length
   .have w1:IntKind.i64.wrap ((i:Int)+1)=(i+1:Nat):=by rw [wrap64 (by omega) (by omega)];omega
    have lU:=fun H=>ze (G:=G) (n:=n+2) (H:=H) (caps:=[]) (ps:=[.agg (fs.xs[i]).cells,.int .i64 (bs.xs.length:Nat)]) sh93 (e93 n fs.xs[i] bs.xs.length (by omega));simp only [Fact.cells,List.map] at lU
    cases hv:qX fs.xs[i] bs.xs.length with
    | false =>
     have hr:r=1:=by rw [hc.h,QQ aO hv];rfl
     rw [hv] at lU;clear hv hc hn;simp [*,zb,Fact.cells]
    | true =>
     have jD:Hide (Ik (qX · bs.xs.length) fs.xs (i+1)):=⟨WZ hn.h aO hv⟩
     rw [hv] at lU;clear hv hc hn;(repeat' first|simp [*,zb,Fact.cells]|(apply za<;>intro _ h<;>try simp [-Nat.le_zero_eq] at h));exact ⟨i+1,by omega,rfl,by omega,jD⟩
   .have aX:i=fs.xs.length:=by omega
    subst aX;have hr:r=0:=by rw [hc.h,WY hn.h];rfl
    clear hn hc;simp [*,zb]
theorem sh27:G.shared 27=false:=by decide
theorem e27 (n:Nat) (p:Problem):zK G (n+3) 27 [.agg p.cells]=some (.int .i64 (zQ p)):=by
 refine zz (zy _) rfl g27 rfl ?_
 obtain ⟨bs,fs⟩:=p
 by_cases hb:12 < bs.xs.length
 .have hc:zQ ⟨bs,fs⟩=2:=by unfold zQ;rw [if_pos (.inl hb)]
  have jR:(12:Int) < bs.xs.length:=by omega
  simp [*,zb,c27,Problem.cells]
 by_cases hf:60 < fs.xs.length
 .have hc:zQ ⟨bs,fs⟩=2:=by unfold zQ;rw [if_pos (.inr hf)]
  have jR:¬ (12:Int) < bs.xs.length:=by omega
  have GR:(60:Int) < fs.xs.length:=by omega
  simp [*,zb,c27,Problem.cells]
 have hc:Hide (zQ ⟨bs,fs⟩=if bs.xs.all jU&&fs.xs.all (qX · bs.xs.length) then 0 else 1):=⟨by unfold zQ;rw [if_neg (by rintro (h|h);exact hb h;exact hf h)]⟩
 have jR:¬ (12:Int) < bs.xs.length:=by omega
 have GR:¬ (60:Int) < fs.xs.length:=by omega
 generalize zQ ⟨bs,fs⟩=r at *;(repeat' first|simp [*,zb,c27,Problem.cells]|(apply za<;>intro _ h<;>try simp [-Nat.le_zero_eq] at h))
 refine zL [(2,5),(18,53)] (fun (i:Nat) env H=>env 3=.pure (.int .i64 i)/\i<=bs.xs.length/\Hide (Ik jU bs.xs i)) (fun i=>bs.xs.length - i) 0 ?_ ?_ ?_ ?_
 .decide
 .exact ⟨by simp,by omega,⟨fun _ _ h=>by omega⟩⟩
 .simp only [zF];omega
 .rintro i env H ⟨g0,hi,hn⟩
  by_cases aO:i < bs.xs.length
  .have w1:IntKind.i64.wrap ((i:Int)+1)=(i+1:Nat):=by rw [wrap64 (by omega) (by omega)];omega
   have lU:=fun H=>ze (G:=G) (n:=n+2) (H:=H) (caps:=[]) (ps:=[.agg (bs.xs[i]).cells]) sh37 (e37 n bs.xs[i]);simp only [Box.cells,Span.cells,List.map] at lU
   cases hv:o7 bs.xs[i] with
   | false =>
    have hB:jU bs.xs[i]=false:=by unfold jU;rw [hv];rfl
    have hr:r=1:=by rw [hc.h,QQ aO hB];rfl
    rw [hv] at lU;clear hv hB hc hn;simp [*,zb,Box.cells,Span.cells]
   | true =>
    have Il:=zkr hv;have w2:IntKind.i64.wrap ((bs.xs[i]).x.hi - (bs.xs[i]).x.lo)=(bs.xs[i]).x.hi - (bs.xs[i]).x.lo:=wrap64 (by omega) (by omega);have w3:IntKind.i64.wrap ((bs.xs[i]).y.hi - (bs.xs[i]).y.lo)=(bs.xs[i]).y.hi - (bs.xs[i]).y.lo:=wrap64 (by omega) (by omega)
    by_cases hB:jU bs.xs[i]=true
    .have jD:Hide (Ik jU bs.xs (i+1)):=⟨WZ hn.h aO hB⟩
     unfold jU at hB;simp only [Bool.and_eq_true,decide_eq_true_eq] at hB;have e1:¬ (1024<=(bs.xs[i]).x.hi - (bs.xs[i]).x.lo):=by omega
     have e2:¬ (1024<=(bs.xs[i]).y.hi - (bs.xs[i]).y.lo):=by omega
     rw [hv] at lU;clear hv hB hc hn Il;(repeat' first|simp [*,zb,Box.cells,Span.cells]|(apply za<;>intro _ h<;>try simp [-Nat.le_zero_eq] at h));exact ⟨i+1,by omega,rfl,by omega,jD⟩
    .have hB:jU bs.xs[i]=false:=by simpa using hB
     have hr:r=1:=by rw [hc.h,QQ aO hB];rfl
     unfold jU at hB;rw [hv,Bool.true_and,Bool.and_eq_false_iff,decide_eq_false_iff_not,decide_eq_false_iff_not] at hB;have e1:1024<=(bs.xs[i]).x.hi - (bs.xs[i]).x.lo\/(¬ 1024<=(bs.xs[i]).x.hi - (bs.xs[i]).x.lo/\1024<=(bs.xs[i]).y.hi - (bs.xs[i]).y.lo):=by omega
     rw [hv] at lU;clear hv hB hc hn Il;rcases e1 with e1|⟨e1,e2⟩
     .simp [*,zb,Box.cells,Span.cells]
     .simp [*,zb,Box.cells,Span.cells]
  .have aX:i=bs.xs.length:=by omega
   subst aX;have fq:=WY hn.h;have hc:Hide (r=if fs.xs.all (qX · bs.xs.length) then 0 else 1):=⟨by rw [hc.h,fq,Bool.true_and]⟩
   clear fq hn;(repeat' first|simp [*,zb]|(apply za<;>intro _ h<;>try simp [-Nat.le_zero_eq] at h))
   refine zL [(2,2),(6,7),(54,71)] (fun (i:Nat) env H=>env 6=.pure (.int .i64 i)/\i<=fs.xs.length/\Hide (Ik (qX · bs.xs.length) fs.xs i)) (fun i=>fs.xs.length - i) 0 ?_ ?_ ?_ ?_
   .decide
   .exact ⟨by simp,by omega,⟨fun _ _ h=>by omega⟩⟩
   .simp only [zF];omega
   rintro i env H ⟨g0,hi,hn⟩
   by_cases aO:i < fs.xs.length
   .have w1:IntKind.i64.wrap ((i:Int)+1)=(i+1:Nat):=by rw [wrap64 (by omega) (by omega)];omega
    have lU:=fun H=>ze (G:=G) (n:=n+2) (H:=H) (caps:=[]) (ps:=[.agg (fs.xs[i]).cells,.int .i64 (bs.xs.length:Nat)]) sh50 (e50 n fs.xs[i] bs.xs.length (by omega));simp only [Fact.cells,List.map] at lU
    cases hv:qX fs.xs[i] bs.xs.length with
    | false =>
     have hr:r=1:=by rw [hc.h,QQ aO hv];rfl
     rw [hv] at lU;clear hv hc hn;simp [*,zb,Fact.cells]
    | true =>
     have jD:Hide (Ik (qX · bs.xs.length) fs.xs (i+1)):=⟨WZ hn.h aO hv⟩
     rw [hv] at lU;clear hv hc hn;(repeat' first|simp [*,zb,Fact.cells]|(apply za<;>intro _ h<;>try simp [-Nat.le_zero_eq] at h));exact ⟨i+1,by omega,rfl,by omega,jD⟩
   .have aX:i=fs.xs.length:=by omega
    subst aX;have hr:r=0:=by rw [hc.h,WY hn.h];rfl
    clear hn hc;simp [*,zb]
structure ae (p:Problem):Prop where
 nb:p.boxes.xs.length<=12
 nf:p.facts.xs.length<=60
 box:∀ b∈p.boxes.xs,jU b=true
 fact:∀ f∈p.facts.xs,qX f p.boxes.xs.length=true
theorem bW {p:Problem}:zQ p=0↔ae p:=by
 unfold zQ
 constructor
 .intro h
  split at h
  .simp at h
  .rename_i h1
   split at h
   .rename_i h2;rw [Bool.and_eq_true,List.all_eq_true,List.all_eq_true] at h2;exact ⟨by omega,by omega,h2.1,h2.2⟩
   .simp at h
 ·intro h;have e1:p.boxes.xs.all jU=true:=List.all_eq_true.2 h.box;have e2:p.facts.xs.all (qX · p.boxes.xs.length)=true:=List.all_eq_true.2 h.fact;rw [if_neg (by have:=h.nb;have:=h.nf;omega),e1,e2];rfl
theorem ae.valid {p:Problem} (h:ae p):∀ b∈p.boxes.xs,o7 b=true:=fun b hb=>by
 have:=h.box b hb;unfold jU at this;simp only [Bool.and_eq_true] at this;exact this.1.1
theorem ae.fine {p:Problem} (h:ae p) {l:List Box} (hl:l.length=p.boxes.xs.length) (hv:∀ b∈l,o7 b=true) {f:Fact} (hf:f∈p.facts.xs):QP f l=true:=by
 unfold QP;rw [hl,h.fact f hf,Bool.and_true];exact List.all_eq_true.2 hv
def Fe (b:List Box):List Fact->Int->Int×Bool
 | [],_=>(-1,true)
 | f::fs,k=>if zJ f b=true then (k,false) else Fe b fs (k+1)
theorem zgY {b:List Box}:∀ (fs:List Fact) (k:Int) (i:Nat) (h:i < fs.length),(∀ j (h:j < fs.length),j < i->zJ fs[j] b=false)->zJ fs[i] b=true->Fe b fs k=(k+i,false)
 | [],k,i,h,_,_=>by simp at h
 | f::fs,k,0,h,_,hf=>by
  have:zJ f b=true:=hf;simp [Fe,this]
 | f::fs,k,i+1,h,hn,hf=>by
  have h0:zJ f b=false:=hn 0 (by simp) (by omega);rw [Fe,h0,if_neg (by simp),zgY fs (k+1) i (by simpa using h) (fun j hj EX=>hn (j+1) (by simpa using hj) (by omega)) hf];simp only [Prod.mk.injEq,and_true];omega
theorem ze8 {b:List Box}:∀ (fs:List Fact) (k:Int),(∀ j (h:j < fs.length),zJ fs[j] b=false)->Fe b fs k=(-1,true)
 | [],k,_=>rfl
 | f::fs,k,hn=>by
  have h0:zJ f b=false:=hn 0 (by simp);rw [Fe,h0,if_neg (by simp)];exact ze8 fs (k+1) fun j hj=>hn (j+1) (by simpa using hj)
def qY (p:Pt) (b:Box):Bool:=mZ p.x b.x.lo b.x.hi&&mZ p.y b.y.lo b.y.hi
def xM (l:List Pt) (bs:List Box):Prop:=∀ i (h:i < bs.length) (h':i < l.length),qY l[i] bs[i]=true
open Classical in
noncomputable def ak (p:Problem) (l:List Pt):Int×Bool :=
 if zQ p=0/\l.length=p.boxes.xs.length/\xM l p.boxes.xs then Fe (l.map bT) p.facts.xs 0 else (-1,false)
theorem zix {p:Problem} {l:List Pt} (h:ae p) (hl:l.length=p.boxes.xs.length) (hi:xM l p.boxes.xs):∀ b∈l.map bT,o7 b=true:=by
 intro b hb;obtain ⟨i,bR,rfl⟩:=List.mem_iff_getElem.1 hb;have bR:i < l.length:=by simpa using bR
 have h1:=hi i (by omega) bR;have h2:=aF.1 (h.valid _ (List.getElem_mem (show i < p.boxes.xs.length by omega)));rw [List.getElem_map,aF];simp only [qY,mZ,Bool.and_eq_true,decide_eq_true_eq] at h1;simp only [bT];omega
theorem sh28:G.shared 28=false:=by decide
theorem e28 (n:Nat) (p:Problem) (l:Sl Pt) (hl:l.xs.length < 1000):zK G (n+7) 28 [.agg p.cells,l.pv Pt.cells 2]=some (.aQ [.int .i64 (ak p l.xs).1,.bool (ak p l.xs).2]):=by
 refine zz (zy _) rfl g28 rfl ?_
 obtain ⟨bs,fs⟩:=p;have hC:=fun H=>ze (G:=G) (n:=n+6) (H:=H) (caps:=[]) (ps:=[.agg (Problem.mk bs fs).cells]) sh45 (e45 (n+3) ⟨bs,fs⟩);have hA:=fun H=>ze (G:=G) (n:=n+6) (H:=H) (caps:=[]) (ps:=[l.pv Pt.cells 2]) sh59 (e59 (n+4) l hl);simp only [Problem.cells,List.map] at hC hA
 by_cases hc:zQ ⟨bs,fs⟩=0
 case neg =>
  have hr:ak ⟨bs,fs⟩ l.xs=(-1,false):=by unfold ak;rw [if_neg (fun h=>hc h.1)]
  generalize zQ ⟨bs,fs⟩=c at *;rw [hr];clear hr;simp [*,zb,c28,Problem.cells]
 have ok:=bW.1 hc;rw [hc] at hC;have nb:bs.xs.length<=12:=ok.nb;have nf:fs.xs.length<=60:=ok.nf
 by_cases hlen:l.xs.length=bs.xs.length
 case neg =>
  have hr:ak ⟨bs,fs⟩ l.xs=(-1,false):=by unfold ak;rw [if_neg (fun h=>hlen h.2.1)]
  rw [hr];have TN:¬ (l.xs.length:Int)=bs.xs.length:=by omega
  clear hr hc ok;simp [*,zb,c28,Problem.cells]
 have hr:Hide (xM l.xs bs.xs->ak ⟨bs,fs⟩ l.xs=Fe (l.xs.map bT) fs.xs 0):=⟨fun hi=>by unfold ak;rw [if_pos ⟨hc,hlen,hi⟩]⟩
 have Eo:Hide (¬ xM l.xs bs.xs->ak ⟨bs,fs⟩ l.xs=(-1,false)):=⟨fun hi=>by unfold ak;rw [if_neg (fun h=>hi h.2.2)]⟩
 have bH:=Hide.mk ok;generalize ak ⟨bs,fs⟩ l.xs=r at *;have Ii:(l.xs.length:Int)=bs.xs.length:=by omega
 have Ky:=Hide.mk hlen;clear hc ok hlen;(repeat' first|simp [*,zb,c28,Problem.cells]|(apply za<;>intro _ h<;>try simp [-Nat.le_zero_eq] at h))
 refine zL [(4,7),(25,58)] (fun (i:Nat) env H=>env 25=.pure (.int .i64 i)/\i<=bs.xs.length/\Hide (∀ j (h:j < bs.xs.length) (h':j < l.xs.length),j < i->qY l.xs[j] bs.xs[j]=true)) (fun i=>bs.xs.length - i) 0 ?_ ?_ ?_ ?_
 .decide
 .exact ⟨by simp,by omega,⟨fun _ _ _ h=>by omega⟩⟩
 .simp only [zF];omega
 rintro i env H ⟨g0,hi,hn⟩
 by_cases aO:i < bs.xs.length
 .have oK:i < l.xs.length:=by have:=Ky.h;omega
  have w1:IntKind.i64.wrap ((i:Int)+1)=(i+1:Nat):=by rw [wrap64 (by omega) (by omega)];omega
  have hp:=Hide.mk (hn.h)
  cases bD:qY l.xs[i] bs.xs[i] with
  | true =>
   have jD:Hide (∀ j (h:j < bs.xs.length) (h':j < l.xs.length),j < i+1->qY l.xs[j] bs.xs[j]=true):=⟨fun j h h' hj=>by
    by_cases e:j=i
    .subst e;exact bD
    .exact hn.h j h h' (by omega)⟩
   unfold qY at bD;rw [Bool.and_eq_true] at bD;obtain ⟨i1,i2⟩:=bD;clear hn hp;(repeat' first|simp [*,zb,Pt.cells,Box.cells,Span.cells]|(apply za<;>intro _ h<;>try simp [-Nat.le_zero_eq] at h));exact ⟨i+1,by omega,rfl,by omega,jD⟩
  | false =>
   have xN:r=(-1,false):=Eo.h fun h=>by rw [h i aO oK] at bD;simp at bD
   subst xN;unfold qY at bD;clear hn hp hr Eo
   cases i1:mZ l.xs[i].x bs.xs[i].x.lo bs.xs[i].x.hi with
   | true =>
    rw [i1,Bool.true_and] at bD;simp [*,zb,Pt.cells,Box.cells,Span.cells]
   | false =>
    clear bD;simp [*,zb,Pt.cells,Box.cells,Span.cells]
 .have aX:i=bs.xs.length:=by omega
  subst aX;have Ah:xM l.xs bs.xs:=fun j h h'=>hn.h j h h' h;have xN:=Hide.mk (hr.h Ah);have wB:=Hide.mk fun (f:Fact) (hf:f∈fs.xs) H=>ze (G:=G) (n:=n+6) (H:=H) (caps:=[]) (ps:=[.agg f.cells,(Sl.of (l.xs.map bT)).pv Box.cells 4]) sh60 (e60 (n+1) f (Sl.of (l.xs.map bT)) (by
   rw [Sl.iV];exact zkY (bH.h.fine (by simpa using Ky.h) (zix bH.h Ky.h Ah) hf)))
  clear hr Eo hn Ah bH;simp only [Sl.iV] at wB;generalize Sl.of (l.xs.map bT)=s at *;(repeat' first|simp [*,zb]|(apply za<;>intro _ h<;>try simp [-Nat.le_zero_eq] at h))
  refine zL [(4,5),(9,10),(64,73)] (fun (i:Nat) env H=>env 64=.pure (.int .i64 i)/\i<=fs.xs.length/\Hide (∀ j (h:j < fs.xs.length),j < i->zJ fs.xs[j] (l.xs.map bT)=false)) (fun i=>fs.xs.length - i) 0 ?_ ?_ ?_ ?_
  .decide
  .exact ⟨by simp,by omega,⟨fun _ _ h=>by omega⟩⟩
  .simp only [zF];omega
  rintro i env H ⟨g0,hi,hn⟩
  by_cases aO:i < fs.xs.length
  .have w1:IntKind.i64.wrap ((i:Int)+1)=(i+1:Nat):=by rw [wrap64 (by omega) (by omega)];omega
   have hv:=wB.h fs.xs[i] (List.getElem_mem aO);simp only [Fact.cells,List.map] at hv
   cases hf:zJ fs.xs[i] (l.xs.map bT) with
   | true =>
    have xN:=xN.h.trans (zgY fs.xs 0 i aO hn.h hf);subst xN;rw [hf] at hv;clear hf hn wB;simp [*,zb,Fact.cells]
   | false =>
    have jD:Hide (∀ j (h:j < fs.xs.length),j < i+1->zJ fs.xs[j] (l.xs.map bT)=false):=⟨fun j h hj=>by
     by_cases e:j=i
     .subst e;exact hf
     .exact hn.h j h (by omega)⟩
    rw [hf] at hv;clear hf hn wB xN;(repeat' first|simp [*,zb,Fact.cells]|(apply za<;>intro _ h<;>try simp [-Nat.le_zero_eq] at h));exact ⟨i+1,by omega,rfl,by omega,jD⟩
  .have aX:i=fs.xs.length:=by omega
   subst aX;have xN:=xN.h.trans (ze8 fs.xs 0 fun j h=>hn.h j h h);subst xN;clear hn wB;simp [*,zb]
set_option maxRecDepth 4000
def lY (p:Pt) (k:Nat):Int:=if k=0 then p.x else if k=1 then -p.x else if k=2 then p.y else -p.y
theorem zto:G.shared 116=false:=by decide
theorem e116 (n:Nat) (p:Pt) (k:Nat) (hk:k < 4) (hx:-1048576<=p.x/\p.x<=1048576) (hy:-1048576<=p.y/\p.y<=1048576):zK G (n+1) 116 [.agg p.cells,.int .i64 k]=some (.int .i64 (lY p k)):=by
 refine zz (zy _) rfl g116 rfl ?_
 have w1:IntKind.i64.wrap (-p.x)=-p.x:=wrap64 (by omega) (by omega);have w2:IntKind.i64.wrap (-p.y)=-p.y:=wrap64 (by omega) (by omega);have nW:k=0\/k=1\/k=2\/k=3:=by omega
 clear hx hy;rcases nW with rfl|rfl|rfl|rfl
 .have e1:((0:Nat):Int)=0:=rfl;simp [*,zb,c116,Pt.cells,lY]
 .have e1:((1:Nat):Int)=1:=rfl;simp [*,zb,c116,Pt.cells,lY]
 .have e1:((2:Nat):Int)=2:=rfl;simp [*,zb,c116,Pt.cells,lY]
 .have e1:((3:Nat):Int)=3:=rfl;simp [*,zb,c116,Pt.cells,lY]
def sD (l:List Int) (x q:Int):Prop:=(∃ i,∃ h:i < l.length,q=(i:Nat)/\l[i]=x/\∀ j (h':j < l.length),j < i->l[j]≠x)\/(q=-1/\x ∉ l)
theorem sD.unique {l:List Int} {x q q':Int} (h:sD l x q) (h':sD l x q'):q=q':=by
 rcases h with ⟨i,hi,rfl,e,hj⟩|⟨rfl,hn⟩
 .rcases h' with ⟨i',bR,rfl,e',oZ⟩|⟨rfl,jD⟩
  .rcases Nat.lt_trichotomy i i' with h|h|h
   .exact absurd e (oZ i hi h)
   .rw [h]
   .exact absurd e' (hj i' bR h)
  .exact absurd (e ▸ List.getElem_mem hi) jD
 .rcases h' with ⟨i',bR,rfl,e',oZ⟩|⟨rfl,jD⟩
  .exact absurd (e' ▸ List.getElem_mem bR) hn
  .rfl
theorem sh99:G.shared 99=false:=by decide
theorem e99 (n:Nat) (l:Sl Int) (x q:Int) (hl:l.xs.length < 1000) (hq:sD l.xs x q):zK G (n+1) 99 [l.pv aI 1,.int .i64 x]=some (.int .i64 q):=by
 refine zz (zy _) rfl g99 rfl ?_
 have QR:=Hide.mk hq;clear hq;(repeat' first|simp [*,zb,c99]|(apply za<;>intro _ h<;>try simp [-Nat.le_zero_eq] at h))
 refine zL [(4,5),(8,18)] (fun (i:Nat) env H=>env 8=.pure (.int .i64 i)/\i<=l.xs.length/\Hide (∀ j (h':j < l.xs.length),j < i->l.xs[j]≠x)) (fun i=>l.xs.length - i) 0 ?_ ?_ ?_ ?_
 .decide
 .exact ⟨by simp,by omega,⟨fun _ _ h=>by omega⟩⟩
 .simp only [zF];omega
 rintro i env H ⟨g8,hi,hn⟩
 by_cases aO:i < l.xs.length
 .have w1:IntKind.i64.wrap ((i:Int)+1)=(i+1:Nat):=by rw [wrap64 (by omega) (by omega)];omega
  have qh:(i:Int) < l.xs.length:=by omega
  by_cases e:l.xs[i]=x
  .have hqi:q=(i:Nat):=QR.h.unique (.inl ⟨i,aO,rfl,e,hn.h⟩);subst hqi;clear hn QR;subst e;simp [*,zb,aI]
  .have jD:Hide (∀ j (h':j < l.xs.length),j < i+1->l.xs[j]≠x):=⟨fun j h hj=>by
    by_cases ej:j=i
    .subst ej;exact e
    .exact hn.h j h (by omega)⟩
   have e':¬ x=l.xs[i]:=fun h=>e h.symm;clear hn e;(repeat' first|simp [*,zb,aI]|(apply za<;>intro _ h<;>try simp [-Nat.le_zero_eq] at h));exact ⟨i+1,by omega,by omega,by omega,jD⟩
 .have xO:i=l.xs.length:=by omega
  subst xO;have hqi:q=-1:=QR.h.unique (.inr ⟨rfl,fun hm=>by
   obtain ⟨j,hj,e⟩:=List.mem_iff_getElem.1 hm;exact hn.h j hj hj e⟩)
  subst hqi;clear hn QR;simp [*,zb]
theorem zse (x:Int):∀ l:List Int,∃ q,sD l x q
 | []=>⟨-1,.inr ⟨rfl,by simp⟩⟩
 | a::l=>by
  by_cases e:a=x
  .exact ⟨0,.inl ⟨0,by simp,rfl,e,fun j _ h=>by omega⟩⟩
  .obtain ⟨q,hq⟩:=zse x l;rcases hq with ⟨i,hi,rfl,e1,hj⟩|⟨rfl,hn⟩
   .refine ⟨((i+1:Nat):Int),.inl ⟨i+1,by simp;omega,rfl,by simpa using e1,fun j h' h=>?_⟩⟩
    cases j with
    | zero=>simpa using e
    | succ j=>simpa using hj j (by simpa using h') (by omega)
   .exact ⟨-1,.inr ⟨rfl,by simp [hn];omega⟩⟩
theorem sD.mem {l:List Int} {x q:Int} (h:sD l x q):0<=q↔x∈l:=by
 rcases h with ⟨i,hi,rfl,e,_⟩|⟨rfl,hn⟩
 .exact ⟨fun _=>e ▸ List.getElem_mem hi,fun _=>by omega⟩
 .exact ⟨fun h=>by omega,fun h=>absurd h hn⟩
theorem sh70:G.shared 70=false:=by decide
theorem e70 (n:Nat) (l:Sl Int) (x:Int) (hl:l.xs.length < 1000):zK G (n+2) 70 [l.pv aI 1,.int .i64 x]=some (.bool (decide (x∈l.xs))):=by
 refine zz (zy _) rfl g70 rfl ?_
 obtain ⟨q,hq⟩:=zse x l.xs;have c1:=fun H=>ze (G:=G) (n:=n+1) (H:=H) (caps:=[]) (ps:=[l.pv aI 1,.int .i64 x]) sh99 (e99 n l x q hl hq);simp only [List.map] at c1;have hm:decide (x∈l.xs)=decide (0<=q):=by rw [decide_eq_decide];exact hq.mem.symm
 rw [hm];clear hm hq;simp [*,zb,c70]
theorem zrC:G.shared 115=false:=by decide
theorem e115 (n:Nat) (uq:Bool) (l:List Pt) (h0:l≠[]) (hl:l.length < 1000):zK G (n+1) 115 [(Sl.mk uq l).pv Pt.cells 2]=some ((Sl.mk false l).pv Pt.cells 2):=by
 refine zz (zy _) rfl g115 rfl ?_
 have GZ:Hide (∀ Hx,zO Hx 2 (.pure ((Sl.mk uq l).pv Pt.cells 2))=some (zq Pt.cells l,l.length)):=⟨fun Hx=>Kr (f:=Pt.cells) (sz:=2) (fun _=>rfl) _⟩
 have h0H:=Hide.mk h0;clear h0;have hb:iM .eql .slice (.pure ((Sl.mk uq l).pv Pt.cells 2)) (.pure .nils)=some (.pure (.bool false)):=ZZ rfl;(repeat' first|simp [*,zb,c115]|(apply za<;>intro _ h<;>try simp [-Nat.le_zero_eq] at h))
 refine Z0 (f:=Pt.cells) (l:=[]) (m:=l) (.inr ⟨0,rfl,by simp [QG]⟩) (fun _=>rfl) (by decide) (fun _=>rfl) (GZ.h _) (by simp [zo];omega) ?_
 intro v H1 hv bX ah JN;simp only [List.nil_append] at hv;obtain ⟨id,rfl,hg⟩:=hv.row h0H.h;have bA:=Hide.mk (sO (n:=10) (f:=Pt.cells) (sz:=2) (fun _=>rfl) hg rfl);clear hv bX ah JN GZ;(repeat' first|simp [*,zb]|(apply za<;>intro _ h<;>try simp [-Nat.le_zero_eq] at h));exact bA.h
end Go.Proofs.YtmmhnfghklppiaaGreat.Vm
