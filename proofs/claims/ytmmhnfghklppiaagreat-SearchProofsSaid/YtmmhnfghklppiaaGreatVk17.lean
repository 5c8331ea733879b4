/- What the specification's functions that check facts and problems compute. Check of the program and of the specification: the same error of a problem. Problems that Check accepts; Allows of the program. What look calls: at, key, slices.Index and slices.Contains of numbers. -/
import Derived.Test.YtmmhnfghklppiaaGreatVk14
import Derived.Test.YtmmhnfghklppiaaGreatVk16
import Derived.Test.YtmmhnfghklppiaaGreatVk15
import Derived.Test.YtmmhnfghklppiaaGreatVk8
namespace Go.Proofs.YtmmhnfghklppiaaGreat.Vm
open Go
set_option linter.unusedSimpArgs false
set_option linter.unusedVariables false
set_option maxHeartbeats 4000000
theorem Au (f:Fact) (n:Int):zX f n=true↔(0<=f.id/\f.id<=1099511627776)/\(0<=f.a/\f.a < n)/\(0<=f.b/\f.b < n)/\f.a≠f.b/\(-17592186044416<=f.span.lo/\f.span.lo<=f.span.hi/\f.span.hi<=17592186044416) /\
  (f.kind=2->0<=f.c/\f.c < n/\f.c≠f.a/\f.c≠f.b/\f.quarter=0)/\(f.kind≠2->f.c=0/\1<=f.kind/\f.kind<=6/\(f.kind≠3->f.quarter=0)/\(f.kind=4->f.span.lo=0)/\(f.kind=3->0<=f.quarter/\f.quarter<=3/\f.span.lo=0/\f.span.hi=0)):=by
 unfold zX qz CV
 by_cases k2:f.kind=2
 .simp only [k2,if_true,Bool.and_eq_true,Bool.not_eq_true',decide_eq_true_eq,decide_eq_false_iff_not,ne_eq,true_implies,not_true,false_implies,and_true];omega
 .rw [if_neg k2]
  by_cases k:f.kind=1\/f.kind=5\/f.kind=6
  .rw [if_pos k];simp only [Bool.and_eq_true,Bool.not_eq_true',decide_eq_true_eq,decide_eq_false_iff_not,ne_eq];omega
  .rw [if_neg k]
   by_cases k4:f.kind=4
   .rw [if_pos k4];simp only [Bool.and_eq_true,Bool.not_eq_true',decide_eq_true_eq,decide_eq_false_iff_not,ne_eq];omega
   .rw [if_neg k4]
    by_cases k3:f.kind=3
    .rw [if_pos k3];simp only [Bool.and_eq_true,Bool.not_eq_true',decide_eq_true_eq,decide_eq_false_iff_not,ne_eq];omega
    .rw [if_neg k3];simp only [Bool.and_false,Bool.false_eq_true,false_iff,ne_eq];omega
theorem UH {f:Fact} {n:Int} {b:Bool} (h:b=true↔zX f n=true):b=zX f n:=by
 cases b<;>cases hf:zX f n<;>simp_all
theorem sh50:G.shared 50=false:=by decide
theorem e50 (n:Nat) (f:Fact) (m:Nat) (hm:m < 1000):zF G (n+2) 50 [.agg f.cells,.int .i64 m]=some (.bool (zX f m)):=by
 refine zx (zw _) rfl g50 rfl ?_
 have key:=Au f m;have hk:=Hide.mk key;clear key;(repeat' first|simp [*,za,c50,Fact.cells,zlg,vI,Bj,Span.cells,CV]|(apply zb<;>intro _ h<;>try simp [-Nat.le_zero_eq] at h))
 all_goals try ((first|refine Eq.symm (UH ?_)|refine UH ?_|skip);(try rw [<- Bool.not_eq_true]);rw [hk.h];first|omega|(simp only [Bool.and_eq_true,Bool.or_eq_true,decide_eq_true_eq,Bool.false_eq_true,false_iff,true_iff,Bool.not_eq_true',decide_eq_false_iff_not];omega))
 all_goals (by_cases e1:f.span.lo=0<;>by_cases e2:f.span.hi=0)
 all_goals (repeat' first|simp [*,za]|(apply zb<;>intro _ h<;>try simp [-Nat.le_zero_eq] at h))
 all_goals try ((first|refine Eq.symm (UH ?_)|refine UH ?_|skip);(try rw [<- Bool.not_eq_true]);rw [hk.h];first|omega|(simp only [Bool.and_eq_true,Bool.or_eq_true,decide_eq_true_eq,Bool.false_eq_true,false_iff,true_iff,Bool.not_eq_true',decide_eq_false_iff_not];omega))
def nT (p:Problem):Int :=
 if 12 < p.boxes.xs.length\/60 < p.facts.xs.length then 2
 else if p.boxes.xs.all jD&&p.facts.xs.all (zX · p.boxes.xs.length) then 0 else 1
theorem zjm {b:Box} (h:ny b=true):(-1048576<=b.x.lo/\b.x.lo<=b.x.hi/\b.x.hi<=1048576)/\(-1048576<=b.y.lo/\b.y.lo<=b.y.hi/\b.y.hi<=1048576):=by
 simp only [ny,CV,Bool.and_eq_true,decide_eq_true_eq] at h;omega
def Ff {α:Type} (p:α->Bool) (l:List α) (i:Nat):Prop:=∀ j (h:j < l.length),j < i->p l[j]=true
theorem UI {α:Type} {p:α->Bool} {l:List α} (h:Ff p l l.length):l.all p=true:=by
 rw [List.all_eq_true];intro b hb;obtain ⟨j,hj,rfl⟩:=List.mem_iff_getElem.1 hb;exact h j hj hj
theorem UJ {α:Type} {p:α->Bool} {l:List α} {i:Nat} (h:Ff p l i) (hi:i < l.length) (hp:p l[i]=true):Ff p l (i+1):=fun j h' hj=>by
 by_cases e:j=i
 .subst e;exact hp
 .exact h j h' (by omega)
theorem Oz {α:Type} {p:α->Bool} {l:List α} {i:Nat} (hi:i < l.length) (hp:p l[i]=false):l.all p=false:=by
 rw [List.all_eq_false];exact ⟨_,List.getElem_mem hi,by simp [hp]⟩
theorem sh45:G.shared 45=false:=by decide
theorem e45 (n:Nat) (p:Problem):zF G (n+3) 45 [.agg p.cells]=some (.int .i64 (nT p)):=by
 refine zx (zw _) rfl g45 rfl ?_
 obtain ⟨bs,fs⟩:=p
 by_cases hb:12 < bs.xs.length
 .have hc:nT ⟨bs,fs⟩=2:=by unfold nT;rw [if_pos (.inl hb)]
  have jf:(12:Int) < bs.xs.length:=by omega
  simp [*,za,c45,Problem.cells]
 by_cases hf:60 < fs.xs.length
 .have hc:nT ⟨bs,fs⟩=2:=by unfold nT;rw [if_pos (.inr hf)]
  have jf:¬ (12:Int) < bs.xs.length:=by omega
  have CJ:(60:Int) < fs.xs.length:=by omega
  simp [*,za,c45,Problem.cells]
 have hc:Hide (nT ⟨bs,fs⟩=if bs.xs.all jD&&fs.xs.all (zX · bs.xs.length) then 0 else 1):=⟨by unfold nT;rw [if_neg (by rintro (h|h);exact hb h;exact hf h)]⟩
 have jf:¬ (12:Int) < bs.xs.length:=by omega
 have CJ:¬ (60:Int) < fs.xs.length:=by omega
 generalize nT ⟨bs,fs⟩=r at *;(repeat' first|simp [*,za,c45,Problem.cells]|(apply zb<;>intro _ h<;>try simp [-Nat.le_zero_eq] at h))
 refine zN [(2,2),(4,4),(20,39)] (fun (i:Nat) env H=>env 20=.pure (.int .i64 i)/\i<=bs.xs.length/\Hide (Ff jD bs.xs i)) (fun i=>bs.xs.length - i) 0 ?_ ?_ ?_ ?_
 .decide
 .exact ⟨by simp,by omega,⟨fun _ _ h=>by omega⟩⟩
 .simp only [zI];omega
 .rintro i env H ⟨g0,hi,hn⟩
  by_cases aK:i < bs.xs.length
  .have w1:IntKind.i64.wrap ((i:Int)+1)=(i+1:Nat):=by rw [wrap64 (by omega) (by omega)];omega
   have jX:=fun H=>zg (G:=G) (n:=n+2) (H:=H) (caps:=[]) (ps:=[.agg (bs.xs[i]).cells]) sh91 (e91 n bs.xs[i]);simp only [Box.cells,Span.cells,List.map] at jX
   cases hv:ny bs.xs[i] with
   | false =>
    have hB:jD bs.xs[i]=false:=by unfold jD;rw [hv];rfl
    have hr:r=1:=by rw [hc.h,Oz aK hB];rfl
    rw [hv] at jX;clear hv hB hc hn;simp [*,za,Box.cells,Span.cells]
   | true =>
    have Fg:=zjm hv;have h1:=fun H=>zg (G:=G) (n:=n+2) (H:=H) (caps:=[]) (ps:=[.agg (bs.xs[i]).x.cells]) sh92 (e92 (n+1) (bs.xs[i]).x (by omega) (by omega));have h2:=fun H=>zg (G:=G) (n:=n+2) (H:=H) (caps:=[]) (ps:=[.agg (bs.xs[i]).y.cells]) sh92 (e92 (n+1) (bs.xs[i]).y (by omega) (by omega));simp only [Span.cells,List.map] at h1 h2
    by_cases hB:jD bs.xs[i]=true
    .have jh:Hide (Ff jD bs.xs (i+1)):=⟨UJ hn.h aK hB⟩
     unfold jD at hB;simp only [Bool.and_eq_true,decide_eq_true_eq] at hB;have e1:¬ (1024 < (bs.xs[i]).x.hi - (bs.xs[i]).x.lo+1):=by omega
     have e2:¬ (1024 < (bs.xs[i]).y.hi - (bs.xs[i]).y.lo+1):=by omega
     rw [hv] at jX;clear hv hB hc hn Fg;(repeat' first|simp [*,za,Box.cells,Span.cells]|(apply zb<;>intro _ h<;>try simp [-Nat.le_zero_eq] at h));exact ⟨i+1,by omega,rfl,by omega,jh⟩
    .have hB:jD bs.xs[i]=false:=by simpa using hB
     have hr:r=1:=by rw [hc.h,Oz aK hB];rfl
     unfold jD at hB;rw [hv,Bool.true_and,Bool.and_eq_false_iff,decide_eq_false_iff_not,decide_eq_false_iff_not] at hB;have e1:1024 < (bs.xs[i]).x.hi - (bs.xs[i]).x.lo+1\/(¬ 1024 < (bs.xs[i]).x.hi - (bs.xs[i]).x.lo+1/\1024 < (bs.xs[i]).y.hi - (bs.xs[i]).y.lo+1):=by omega
     rw [hv] at jX;clear hv hB hc hn Fg;rcases e1 with e1|⟨e1,e2⟩
     .simp [*,za,Box.cells,Span.cells]
     .simp [*,za,Box.cells,Span.cells]
  .have aU:i=bs.xs.length:=by omega
   subst aU;have bM:=UI hn.h;have hc:Hide (r=if fs.xs.all (zX · bs.xs.length) then 0 else 1):=⟨by rw [hc.h,bM,Bool.true_and]⟩
   clear bM hn;(repeat' first|simp [*,za]|(apply zb<;>intro _ h<;>try simp [-Nat.le_zero_eq] at h))
   refine zN [(2,2),(6,6),(43,53)] (fun (i:Nat) env H=>env 43=.pure (.int .i64 i)/\i<=fs.xs.length/\Hide (Ff (zX · bs.xs.length) fs.xs i)) (fun i=>fs.xs.length - i) 0 ?_ ?_ ?_ ?_
   .decide
   .exact ⟨by simp,by omega,⟨fun _ _ h=>by omega⟩⟩
   .simp only [zI];omega
   rintro i env H ⟨g0,hi,hn⟩
   by_cases aK:i < fs.xs.length
   .have w1:IntKind.i64.wrap ((i:Int)+1)=(i+1:Nat):=by rw [wrap64 (by omega) (by omega)];omega
    have jX:=fun H=>zg (G:=G) (n:=n+2) (H:=H) (caps:=[]) (ps:=[.agg (fs.xs[i]).cells,.int .i64 (bs.xs.length:Nat)]) sh93 (e93 n fs.xs[i] bs.xs.length (by omega));simp only [Fact.cells,List.map] at jX
    cases hv:zX fs.xs[i] bs.xs.length with
    | false =>
     have hr:r=1:=by rw [hc.h,Oz aK hv];rfl
     rw [hv] at jX;clear hv hc hn;simp [*,za,Fact.cells]
    | true =>
     have jh:Hide (Ff (zX · bs.xs.length) fs.xs (i+1)):=⟨UJ hn.h aK hv⟩
     rw [hv] at jX;clear hv hc hn;(repeat' first|simp [*,za,Fact.cells]|(apply zb<;>intro _ h<;>try simp [-Nat.le_zero_eq] at h));exact ⟨i+1,by omega,rfl,by omega,jh⟩
   .have aU:i=fs.xs.length:=by omega
    subst aU;have hr:r=0:=by rw [hc.h,UI hn.h];rfl
    clear hn hc;simp [*,za]
theorem sh27:G.shared 27=false:=by decide
theorem e27 (n:Nat) (p:Problem):zF G (n+3) 27 [.agg p.cells]=some (.int .i64 (nT p)):=by
 refine zx (zw _) rfl g27 rfl ?_
 obtain ⟨bs,fs⟩:=p
 by_cases hb:12 < bs.xs.length
 .have hc:nT ⟨bs,fs⟩=2:=by unfold nT;rw [if_pos (.inl hb)]
  have jf:(12:Int) < bs.xs.length:=by omega
  simp [*,za,c27,Problem.cells]
 by_cases hf:60 < fs.xs.length
 .have hc:nT ⟨bs,fs⟩=2:=by unfold nT;rw [if_pos (.inr hf)]
  have jf:¬ (12:Int) < bs.xs.length:=by omega
  have CJ:(60:Int) < fs.xs.length:=by omega
  simp [*,za,c27,Problem.cells]
 have hc:Hide (nT ⟨bs,fs⟩=if bs.xs.all jD&&fs.xs.all (zX · bs.xs.length) then 0 else 1):=⟨by unfold nT;rw [if_neg (by rintro (h|h);exact hb h;exact hf h)]⟩
 have jf:¬ (12:Int) < bs.xs.length:=by omega
 have CJ:¬ (60:Int) < fs.xs.length:=by omega
 generalize nT ⟨bs,fs⟩=r at *;(repeat' first|simp [*,za,c27,Problem.cells]|(apply zb<;>intro _ h<;>try simp [-Nat.le_zero_eq] at h))
 refine zN [(2,5),(18,53)] (fun (i:Nat) env H=>env 3=.pure (.int .i64 i)/\i<=bs.xs.length/\Hide (Ff jD bs.xs i)) (fun i=>bs.xs.length - i) 0 ?_ ?_ ?_ ?_
 .decide
 .exact ⟨by simp,by omega,⟨fun _ _ h=>by omega⟩⟩
 .simp only [zI];omega
 .rintro i env H ⟨g0,hi,hn⟩
  by_cases aK:i < bs.xs.length
  .have w1:IntKind.i64.wrap ((i:Int)+1)=(i+1:Nat):=by rw [wrap64 (by omega) (by omega)];omega
   have jX:=fun H=>zg (G:=G) (n:=n+2) (H:=H) (caps:=[]) (ps:=[.agg (bs.xs[i]).cells]) sh37 (e37 n bs.xs[i]);simp only [Box.cells,Span.cells,List.map] at jX
   cases hv:ny bs.xs[i] with
   | false =>
    have hB:jD bs.xs[i]=false:=by unfold jD;rw [hv];rfl
    have hr:r=1:=by rw [hc.h,Oz aK hB];rfl
    rw [hv] at jX;clear hv hB hc hn;simp [*,za,Box.cells,Span.cells]
   | true =>
    have Fg:=zjm hv;have w2:IntKind.i64.wrap ((bs.xs[i]).x.hi - (bs.xs[i]).x.lo)=(bs.xs[i]).x.hi - (bs.xs[i]).x.lo:=wrap64 (by omega) (by omega);have w3:IntKind.i64.wrap ((bs.xs[i]).y.hi - (bs.xs[i]).y.lo)=(bs.xs[i]).y.hi - (bs.xs[i]).y.lo:=wrap64 (by omega) (by omega)
    by_cases hB:jD bs.xs[i]=true
    .have jh:Hide (Ff jD bs.xs (i+1)):=⟨UJ hn.h aK hB⟩
     unfold jD at hB;simp only [Bool.and_eq_true,decide_eq_true_eq] at hB;have e1:¬ (1024<=(bs.xs[i]).x.hi - (bs.xs[i]).x.lo):=by omega
     have e2:¬ (1024<=(bs.xs[i]).y.hi - (bs.xs[i]).y.lo):=by omega
     rw [hv] at jX;clear hv hB hc hn Fg;(repeat' first|simp [*,za,Box.cells,Span.cells]|(apply zb<;>intro _ h<;>try simp [-Nat.le_zero_eq] at h));exact ⟨i+1,by omega,rfl,by omega,jh⟩
    .have hB:jD bs.xs[i]=false:=by simpa using hB
     have hr:r=1:=by rw [hc.h,Oz aK hB];rfl
     unfold jD at hB;rw [hv,Bool.true_and,Bool.and_eq_false_iff,decide_eq_false_iff_not,decide_eq_false_iff_not] at hB;have e1:1024<=(bs.xs[i]).x.hi - (bs.xs[i]).x.lo\/(¬ 1024<=(bs.xs[i]).x.hi - (bs.xs[i]).x.lo/\1024<=(bs.xs[i]).y.hi - (bs.xs[i]).y.lo):=by omega
     rw [hv] at jX;clear hv hB hc hn Fg;rcases e1 with e1|⟨e1,e2⟩
     .simp [*,za,Box.cells,Span.cells]
     .simp [*,za,Box.cells,Span.cells]
  .have aU:i=bs.xs.length:=by omega
   subst aU;have bM:=UI hn.h;have hc:Hide (r=if fs.xs.all (zX · bs.xs.length) then 0 else 1):=⟨by rw [hc.h,bM,Bool.true_and]⟩
   clear bM hn;(repeat' first|simp [*,za]|(apply zb<;>intro _ h<;>try simp [-Nat.le_zero_eq] at h))
   refine zN [(2,2),(6,7),(54,71)] (fun (i:Nat) env H=>env 6=.pure (.int .i64 i)/\i<=fs.xs.length/\Hide (Ff (zX · bs.xs.length) fs.xs i)) (fun i=>fs.xs.length - i) 0 ?_ ?_ ?_ ?_
   .decide
   .exact ⟨by simp,by omega,⟨fun _ _ h=>by omega⟩⟩
   .simp only [zI];omega
   rintro i env H ⟨g0,hi,hn⟩
   by_cases aK:i < fs.xs.length
   .have w1:IntKind.i64.wrap ((i:Int)+1)=(i+1:Nat):=by rw [wrap64 (by omega) (by omega)];omega
    have jX:=fun H=>zg (G:=G) (n:=n+2) (H:=H) (caps:=[]) (ps:=[.agg (fs.xs[i]).cells,.int .i64 (bs.xs.length:Nat)]) sh50 (e50 n fs.xs[i] bs.xs.length (by omega));simp only [Fact.cells,List.map] at jX
    cases hv:zX fs.xs[i] bs.xs.length with
    | false =>
     have hr:r=1:=by rw [hc.h,Oz aK hv];rfl
     rw [hv] at jX;clear hv hc hn;simp [*,za,Fact.cells]
    | true =>
     have jh:Hide (Ff (zX · bs.xs.length) fs.xs (i+1)):=⟨UJ hn.h aK hv⟩
     rw [hv] at jX;clear hv hc hn;(repeat' first|simp [*,za,Fact.cells]|(apply zb<;>intro _ h<;>try simp [-Nat.le_zero_eq] at h));exact ⟨i+1,by omega,rfl,by omega,jh⟩
   .have aU:i=fs.xs.length:=by omega
    subst aU;have hr:r=0:=by rw [hc.h,UI hn.h];rfl
    clear hn hc;simp [*,za]
structure af (p:Problem):Prop where
 nb:p.boxes.xs.length<=12
 nf:p.facts.xs.length<=60
 box:∀ b∈p.boxes.xs,jD b=true
 fact:∀ f∈p.facts.xs,zX f p.boxes.xs.length=true
theorem rX {p:Problem}:nT p=0↔af p:=by
 unfold nT
 constructor
 .intro h
  split at h
  .simp at h
  .rename_i h1
   split at h
   .rename_i h2;rw [Bool.and_eq_true,List.all_eq_true,List.all_eq_true] at h2;exact ⟨by omega,by omega,h2.1,h2.2⟩
   .simp at h
 ·intro h;have e1:p.boxes.xs.all jD=true:=List.all_eq_true.2 h.box;have e2:p.facts.xs.all (zX · p.boxes.xs.length)=true:=List.all_eq_true.2 h.fact;rw [if_neg (by have:=h.nb;have:=h.nf;omega),e1,e2];rfl
theorem af.valid {p:Problem} (h:af p):∀ b∈p.boxes.xs,ny b=true:=fun b hb=>by
 have:=h.box b hb;unfold jD at this;simp only [Bool.and_eq_true] at this;exact this.1.1
theorem af.fine {p:Problem} (h:af p) {l:List Box} (hl:l.length=p.boxes.xs.length) (hv:∀ b∈l,ny b=true) {f:Fact} (hf:f∈p.facts.xs):UG f l=true:=by
 unfold UG;rw [hl,h.fact f hf,Bool.and_true];exact List.all_eq_true.2 hv
set_option maxRecDepth 4000
def jL (p:Pt) (k:Nat):Int:=if k=0 then p.x else if k=1 then -p.x else if k=2 then p.y else -p.y
theorem zsx:G.shared 116=false:=by decide
theorem e116 (n:Nat) (p:Pt) (k:Nat) (hk:k < 4) (hx:-1048576<=p.x/\p.x<=1048576) (hy:-1048576<=p.y/\p.y<=1048576):zF G (n+1) 116 [.agg p.cells,.int .i64 k]=some (.int .i64 (jL p k)):=by
 refine zx (zw _) rfl g116 rfl ?_
 have w1:IntKind.i64.wrap (-p.x)=-p.x:=wrap64 (by omega) (by omega);have w2:IntKind.i64.wrap (-p.y)=-p.y:=wrap64 (by omega) (by omega);have uz:k=0\/k=1\/k=2\/k=3:=by omega
 clear hx hy;rcases uz with rfl|rfl|rfl|rfl
 .have e1:((0:Nat):Int)=0:=rfl;simp [*,za,c116,Pt.cells,jL]
 .have e1:((1:Nat):Int)=1:=rfl;simp [*,za,c116,Pt.cells,jL]
 .have e1:((2:Nat):Int)=2:=rfl;simp [*,za,c116,Pt.cells,jL]
 .have e1:((3:Nat):Int)=3:=rfl;simp [*,za,c116,Pt.cells,jL]
def qj (l:List Int) (x q:Int):Prop:=(∃ i,∃ h:i < l.length,q=(i:Nat)/\l[i]=x/\∀ j (h':j < l.length),j < i->l[j]≠x)\/(q=-1/\x ∉ l)
theorem qj.unique {l:List Int} {x q q':Int} (h:qj l x q) (h':qj l x q'):q=q':=by
 rcases h with ⟨i,hi,rfl,e,hj⟩|⟨rfl,hn⟩
 .rcases h' with ⟨i',bT,rfl,e',ng⟩|⟨rfl,jh⟩
  .rcases Nat.lt_trichotomy i i' with h|h|h
   .exact absurd e (ng i hi h)
   .rw [h]
   .exact absurd e' (hj i' bT h)
  .exact absurd (e ▸ List.getElem_mem hi) jh
 .rcases h' with ⟨i',bT,rfl,e',ng⟩|⟨rfl,jh⟩
  .exact absurd (e' ▸ List.getElem_mem bT) hn
  .rfl
theorem sh99:G.shared 99=false:=by decide
theorem e99 (n:Nat) (l:Sl Int) (x q:Int) (hl:l.xs.length < 1000) (hq:qj l.xs x q):zF G (n+1) 99 [l.pv aD 1,.int .i64 x]=some (.int .i64 q):=by
 refine zx (zw _) rfl g99 rfl ?_
 have OA:=Hide.mk hq;clear hq;(repeat' first|simp [*,za,c99]|(apply zb<;>intro _ h<;>try simp [-Nat.le_zero_eq] at h))
 refine zN [(4,5),(8,18)] (fun (i:Nat) env H=>env 8=.pure (.int .i64 i)/\i<=l.xs.length/\Hide (∀ j (h':j < l.xs.length),j < i->l.xs[j]≠x)) (fun i=>l.xs.length - i) 0 ?_ ?_ ?_ ?_
 .decide
 .exact ⟨by simp,by omega,⟨fun _ _ h=>by omega⟩⟩
 .simp only [zI];omega
 rintro i env H ⟨g8,hi,hn⟩
 by_cases aK:i < l.xs.length
 .have w1:IntKind.i64.wrap ((i:Int)+1)=(i+1:Nat):=by rw [wrap64 (by omega) (by omega)];omega
  have pO:(i:Int) < l.xs.length:=by omega
  by_cases e:l.xs[i]=x
  .have Yt:q=(i:Nat):=OA.h.unique (.inl ⟨i,aK,rfl,e,hn.h⟩);subst Yt;clear hn OA;subst e;simp [*,za,aD]
  .have jh:Hide (∀ j (h':j < l.xs.length),j < i+1->l.xs[j]≠x):=⟨fun j h hj=>by
    by_cases ej:j=i
    .subst ej;exact e
    .exact hn.h j h (by omega)⟩
   have e':¬ x=l.xs[i]:=fun h=>e h.symm;clear hn e;(repeat' first|simp [*,za,aD]|(apply zb<;>intro _ h<;>try simp [-Nat.le_zero_eq] at h));exact ⟨i+1,by omega,by omega,by omega,jh⟩
 .have wL:i=l.xs.length:=by omega
  subst wL;have Yt:q=-1:=OA.h.unique (.inr ⟨rfl,fun hm=>by
   obtain ⟨j,hj,e⟩:=List.mem_iff_getElem.1 hm;exact hn.h j hj hj e⟩)
  subst Yt;clear hn OA;simp [*,za]
theorem zre (x:Int):∀ l:List Int,∃ q,qj l x q
 | []=>⟨-1,.inr ⟨rfl,by simp⟩⟩
 | a::l=>by
  by_cases e:a=x
  .exact ⟨0,.inl ⟨0,by simp,rfl,e,fun j _ h=>by omega⟩⟩
  .obtain ⟨q,hq⟩:=zre x l;rcases hq with ⟨i,hi,rfl,e1,hj⟩|⟨rfl,hn⟩
   .refine ⟨((i+1:Nat):Int),.inl ⟨i+1,by simp;omega,rfl,by simpa using e1,fun j h' h=>?_⟩⟩
    cases j with
    | zero=>simpa using e
    | succ j=>simpa using hj j (by simpa using h') (by omega)
   .exact ⟨-1,.inr ⟨rfl,by simp [hn];omega⟩⟩
theorem qj.mem {l:List Int} {x q:Int} (h:qj l x q):0<=q↔x∈l:=by
 rcases h with ⟨i,hi,rfl,e,_⟩|⟨rfl,hn⟩
 .exact ⟨fun _=>e ▸ List.getElem_mem hi,fun _=>by omega⟩
 .exact ⟨fun h=>by omega,fun h=>absurd h hn⟩
theorem sh70:G.shared 70=false:=by decide
theorem e70 (n:Nat) (l:Sl Int) (x:Int) (hl:l.xs.length < 1000):zF G (n+2) 70 [l.pv aD 1,.int .i64 x]=some (.bool (decide (x∈l.xs))):=by
 refine zx (zw _) rfl g70 rfl ?_
 obtain ⟨q,hq⟩:=zre x l.xs;have c1:=fun H=>zg (G:=G) (n:=n+1) (H:=H) (caps:=[]) (ps:=[l.pv aD 1,.int .i64 x]) sh99 (e99 n l x q hl hq);simp only [List.map] at c1;have hm:decide (x∈l.xs)=decide (0<=q):=by rw [decide_eq_decide];exact hq.mem.symm
 rw [hm];clear hm hq;simp [*,za,c70]
theorem Yu:G.shared 115=false:=by decide
theorem e115 (n:Nat) (sF:Bool) (l:List Pt) (h0:l≠[]) (hl:l.length < 1000):zF G (n+1) 115 [(Sl.mk sF l).pv Pt.cells 2]=some ((Sl.mk false l).pv Pt.cells 2):=by
 refine zx (zw _) rfl g115 rfl ?_
 have ED:Hide (∀ Hx,zH Hx 2 (.pure ((Sl.mk sF l).pv Pt.cells 2))=some (zm Pt.cells l,l.length)):=⟨fun Hx=>LQ (f:=Pt.cells) (sz:=2) (fun _=>rfl) _⟩
 have h0H:=Hide.mk h0;clear h0;have hb:fK .eql .slice (.pure ((Sl.mk sF l).pv Pt.cells 2)) (.pure .nils)=some (.pure (.bool false)):=XX rfl;(repeat' first|simp [*,za,c115]|(apply zb<;>intro _ h<;>try simp [-Nat.le_zero_eq] at h))
 refine QC (f:=Pt.cells) (l:=[]) (m:=l) (.inr ⟨0,rfl,by simp [Om]⟩) (fun _=>rfl) (by decide) (fun _=>rfl) (ED.h _) (by simp [zl];omega) ?_
 intro v H1 hv fD ag G5;simp only [List.nil_append] at hv;obtain ⟨id,rfl,hg⟩:=hv.row h0H.h;have aY:=Hide.mk (xY (n:=10) (f:=Pt.cells) (sz:=2) (fun _=>rfl) hg rfl);clear hv fD ag G5 ED;(repeat' first|simp [*,za]|(apply zb<;>intro _ h<;>try simp [-Nat.le_zero_eq] at h));exact aY.h
end Go.Proofs.YtmmhnfghklppiaaGreat.Vm
