/- The specification's about, join and next, walked. -/
import Derived.Test.YtmmhnfghklppiaaGreatPk33
import Derived.Test.YtmmhnfghklppiaaGreatPk35
import Derived.Test.YtmmhnfghklppiaaGreatPk36
namespace Go.Proofs.YtmmhnfghklppiaaGreat.Vm
open Go
set_option linter.unusedSimpArgs false
set_option linter.unusedVariables false
set_option maxHeartbeats 4000000
set_option maxRecDepth 4000
def inL (l:List Nat) (x:Int):Bool:=l.any fun k=>decide (x=(k:Int))
def zbJ (fs:List Fact) (l:List Nat):List Fact:=fs.filter fun f=>inL l f.a
def ifL (b:Bool) (f:Fact):List Fact:=if b=true then [f] else []
theorem zrM {fs:List Fact} {l:List Nat} {i:Nat} (h:i < fs.length):zbJ (fs.take (i+1)) l=zbJ (fs.take i) l++ifL (inL l fs[i].a) fs[i]:=by
 unfold zbJ ifL;rw [<- zaZ h,List.filter_append,List.filter_cons,List.filter_nil]
theorem zqH {l:List Nat} {x:Int} {j:Nat} (h:j < l.length):inL (l.take (j+1)) x=(inL (l.take j) x||decide (x=(l[j]:Int))):=by
 unfold inL;rw [<- zaZ h,List.any_append];simp
theorem zpO {l:List Nat} {x:Int} {j:Nat} (hn:l.Nodup) (h:j < l.length) (hx:x=(l[j]:Int)):inL (l.take j) x=false:=by
 unfold inL;rw [List.any_eq_false];intro k hk he;simp only [decide_eq_true_eq] at he;obtain ⟨i,hi,rfl⟩:=List.getElem_of_mem hk;have hij:i < j:=by have:=hi;rw [List.length_take] at this;omega
 rw [List.getElem_take] at he;have:l[i]=l[j]:=by omega
 exact List.pairwise_iff_getElem.1 hn i j (by omega) h hij this
theorem sh86:G.shared 86=false:=by decide
theorem e86 (n:Nat) (p:Problem) (l:List Nat) (nf:p.facts.xs.length<=60) (nl:l.length<=12) (hn:l.Nodup):zH G (n+1) 86 [.agg p.cells,.agg (za7 l)]=some ((Sl.of (zbJ p.facts.xs l)).pv Fact.cells 9):=by
 refine zy (zx _) rfl g86 rfl ?_
 obtain ⟨bs,fs⟩:=p;have nf:fs.xs.length<=60:=nf;have hle:Hide (∀ i,(zbJ (fs.xs.take i) l).length<=60):=⟨fun i=>by
  have h1:(zbJ (fs.xs.take i) l).length<=(fs.xs.take i).length:=List.length_filter_le _ _;rw [List.length_take] at h1;omega⟩
 have hnH:=Hide.mk hn;clear hn;have e1:(zM l).length=l.length:=zab l;(repeat' first|simp [*,za,c86,Problem.cells,za7]|(apply zb<;>intro _ h<;>try simp [-Nat.le_zero_eq] at h)|(show wpE 0 (zi ..) ..;refine zm ?_)|(refine zg fun v2 H2 hv2 hnx2 hget2 hnew2 hone2 hcel2=>?_))
 refine zB [(5,41)] (fun (i:Nat) env H=>env 6=.pure (.int .i64 i)/\i<=fs.xs.length/\GrowV Fact.cells 9 H (env 5) (zbJ (fs.xs.take i) l)) (fun i=>fs.xs.length - i) 0 ?_ ?_ ?_ ?_
 ·decide
 ·exact ⟨by simp,by omega,by simpa [zbJ] using GrowV.nil⟩
 ·simp only [zz];omega
 rintro i env H ⟨g0,hi,hv1⟩;generalize g5:env 5=v at *
 by_cases hlt:i < fs.xs.length
 ·have w1:IntKind.i64.wrap ((i:Int)+1)=(i+1:Nat):=by rw [wrap64 (by omega) (by omega)];omega
  have hst:=Hide.mk (zrM (l:=l) hlt);have hlA:=hle.h i;generalize zbJ (fs.xs.take i) l=A at *;(repeat' first|simp [*,za]|(apply zb<;>intro _ h<;>try simp [-Nat.le_zero_eq] at h)|(show wpE 0 (zi ..) ..;refine zm ?_)|(refine zg fun v2 H2 hv2 hnx2 hget2 hnew2 hone2 hcel2=>?_))
  refine zB [(5,5),(7,7),(15,41)] (fun (j:Nat) env H=>env 7=.pure (.int .i64 j)/\j<=l.length/\GrowV Fact.cells 9 H (env 5) (A++ifL (inL (l.take j) fs.xs[i].a) fs.xs[i])) (fun j=>l.length - j) 0 ?_ ?_ ?_ ?_
  ·decide
  ·exact ⟨by simp,by omega,by simpa [inL,ifL,g5] using hv1⟩
  ·simp only [zz];omega
  clear hv1;rintro j env2 H2 ⟨g7,hj,hv1⟩;generalize g25:env2 5=v2 at *
  by_cases hjl:j < l.length
  ·have w2:IntKind.i64.wrap ((j:Int)+1)=(j+1:Nat):=by rw [wrap64 (by omega) (by omega)];omega
   have hjI:(j:Int) < l.length:=by omega
   have hjx:j < (zM l).length:=by rw [e1];exact hjl
   have gj:(zM l)[j]=(l[j]:Int):=by simp [zM]
   have hs:=zqH (x:=fs.xs[i].a) hjl;have hnd:=zpO (x:=fs.xs[i].a) hnH.h hjl
   by_cases hx:fs.xs[i].a=(l[j]:Int)
   ·have hnd:=hnd hx;rw [hnd] at hv1 hs;have hs2:Hide (A++ifL (inL (l.take (j+1)) fs.xs[i].a) fs.xs[i]=A++[fs.xs[i]]):=⟨by rw [hs,decide_eq_true hx];rfl⟩
    have hv1:GrowV Fact.cells 9 H2 v2 A:=hv1.cast (by simp [ifL]);rw [<- hx] at gj;clear hs hnd hst hx;(repeat' first|simp [*,za,Fact.cells]|(apply zb<;>intro _ h<;>try simp [-Nat.le_zero_eq] at h)|(show wpE 0 (zi ..) ..;refine zm ?_)|(refine zg fun v2 H2 hv2 hnx2 hget2 hnew2 hone2 hcel2=>?_));exact ⟨j+1,by omega,by omega,by omega,hv2.cast hs2.h.symm⟩
   ·have hs2:Hide (A++ifL (inL (l.take j) fs.xs[i].a) fs.xs[i]=A++ifL (inL (l.take (j+1)) fs.xs[i].a) fs.xs[i]):=⟨by rw [hs,decide_eq_false hx,Bool.or_false]⟩
    clear hs hnd hst;(repeat' first|simp [*,za,Fact.cells]|(apply zb<;>intro _ h<;>try simp [-Nat.le_zero_eq] at h)|(show wpE 0 (zi ..) ..;refine zm ?_)|(refine zg fun v2 H2 hv2 hnx2 hget2 hnew2 hone2 hcel2=>?_));exact ⟨j+1,by omega,by omega,by omega,hv1.cast hs2.h⟩
  ·have hjl:j=l.length:=by omega
   subst hjl;rw [List.take_length,<- hst.h] at hv1;clear hst;(repeat' first|simp [*,za]|(apply zb<;>intro _ h<;>try simp [-Nat.le_zero_eq] at h)|(show wpE 0 (zi ..) ..;refine zm ?_)|(refine zg fun v2 H2 hv2 hnx2 hget2 hnew2 hone2 hcel2=>?_));exact ⟨i+1,by omega,by omega,by omega,hv1⟩
 ·have hil:i=fs.xs.length:=by omega
  subst hil;rw [List.take_length] at hv1;have h1:=hv1.res (n:=10) (fun _=>rfl);clear hnH;(repeat' first|simp [*,za]|(apply zb<;>intro _ h<;>try simp [-Nat.le_zero_eq] at h)|(show wpE 0 (zi ..) ..;refine zm ?_)|(refine zg fun v2 H2 hv2 hnx2 hget2 hnew2 hone2 hcel2=>?_));exact h1
end Go.Proofs.YtmmhnfghklppiaaGreat.Vm
