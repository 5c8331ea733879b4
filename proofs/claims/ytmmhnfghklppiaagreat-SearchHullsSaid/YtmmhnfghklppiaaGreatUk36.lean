/- The specification's about, join and next, walked. -/
import Derived.Test.YtmmhnfghklppiaaGreatUk32
import Derived.Test.YtmmhnfghklppiaaGreatUk34
import Derived.Test.YtmmhnfghklppiaaGreatUk35
namespace Go.Proofs.YtmmhnfghklppiaaGreat.Vm
open Go
set_option linter.unusedSimpArgs false
set_option linter.unusedVariables false
set_option maxHeartbeats 4000000
set_option maxRecDepth 4000
def Ew (l:List Nat) (x:Int):Bool:=l.any fun k=>decide (x=(k:Int))
def yf (fs:List Fact) (l:List Nat):List Fact:=fs.filter fun f=>Ew l f.a
def OG (b:Bool) (f:Fact):List Fact:=if b=true then [f] else []
theorem zq1 {fs:List Fact} {l:List Nat} {i:Nat} (h:i < fs.length):yf (fs.take (i+1)) l=yf (fs.take i) l++OG (Ew l fs[i].a) fs[i]:=by
 unfold yf OG;rw [<- DY h,List.filter_append,List.filter_cons,List.filter_nil]
theorem zrB {l:List Nat} {x:Int} {j:Nat} (h:j < l.length):Ew (l.take (j+1)) x=(Ew (l.take j) x||decide (x=(l[j]:Int))):=by
 unfold Ew;rw [<- DY h,List.any_append];simp
theorem zqj {l:List Nat} {x:Int} {j:Nat} (hn:l.Nodup) (h:j < l.length) (hx:x=(l[j]:Int)):Ew (l.take j) x=false:=by
 unfold Ew;rw [List.any_eq_false];intro k hk he;simp only [decide_eq_true_eq] at he;obtain ⟨i,hi,rfl⟩:=List.getElem_of_mem hk;have FZ:i < j:=by have:=hi;rw [List.length_take] at this;omega
 rw [List.getElem_take] at he;have:l[i]=l[j]:=by omega
 exact List.pairwise_iff_getElem.1 hn i j (by omega) h FZ this
theorem sh86:G.shared 86=false:=by decide
theorem e86 (n:Nat) (p:Problem) (l:List Nat) (nf:p.facts.xs.length<=60) (nl:l.length<=12) (hn:l.Nodup):zF G (n+1) 86 [.agg p.cells,.agg (qz l)]=some ((Sl.of (yf p.facts.xs l)).pv Fact.cells 9):=by
 refine zy (zx _) rfl g86 rfl ?_
 obtain ⟨bs,fs⟩:=p;have nf:fs.xs.length<=60:=nf;have hle:Hide (∀ i,(yf (fs.xs.take i) l).length<=60):=⟨fun i=>by
  have h1:(yf (fs.xs.take i) l).length<=(fs.xs.take i).length:=List.length_filter_le _ _;rw [List.length_take] at h1;omega⟩
 have MF:=Hide.mk hn;clear hn;have e1:(zL l).length=l.length:=z8 l;(repeat' first|simp [*,zb,c86,Problem.cells,qz]|(apply za<;>intro _ h<;>try simp [-Nat.le_zero_eq] at h)|(show wpE 0 (zh ..) ..;refine zm ?_)|(refine ze fun v2 H2 aV aD ae af ai aj=>?_))
 refine zA [(5,41)] (fun (i:Nat) env H=>env 6=.pure (.int .i64 i)/\i<=fs.xs.length/\aC Fact.cells 9 H (env 5) (yf (fs.xs.take i) l)) (fun i=>fs.xs.length - i) 0 ?_ ?_ ?_ ?_
 .decide
 .exact ⟨by simp,by omega,by simpa [yf] using aC.nil⟩
 .simp only [zz];omega
 rintro i env H ⟨g0,hi,pq⟩;generalize g5:env 5=v at *
 by_cases aK:i < fs.xs.length
 .have w1:IntKind.i64.wrap ((i:Int)+1)=(i+1:Nat):=by rw [wrap64 (by omega) (by omega)];omega
  have bu:=Hide.mk (zq1 (l:=l) aK);have hlA:=hle.h i;generalize yf (fs.xs.take i) l=A at *;(repeat' first|simp [*,zb]|(apply za<;>intro _ h<;>try simp [-Nat.le_zero_eq] at h)|(show wpE 0 (zh ..) ..;refine zm ?_)|(refine ze fun v2 H2 aV aD ae af ai aj=>?_))
  refine zA [(5,5),(7,7),(15,41)] (fun (j:Nat) env H=>env 7=.pure (.int .i64 j)/\j<=l.length/\aC Fact.cells 9 H (env 5) (A++OG (Ew (l.take j) fs.xs[i].a) fs.xs[i])) (fun j=>l.length - j) 0 ?_ ?_ ?_ ?_
  .decide
  .exact ⟨by simp,by omega,by simpa [Ew,OG,g5] using pq⟩
  .simp only [zz];omega
  clear pq;rintro j iB H2 ⟨g7,hj,pq⟩;generalize g25:iB 5=v2 at *
  by_cases iX:j < l.length
  .have w2:IntKind.i64.wrap ((j:Int)+1)=(j+1:Nat):=by rw [wrap64 (by omega) (by omega)];omega
   have SX:(j:Int) < l.length:=by omega
   have SY:j < (zL l).length:=by rw [e1];exact iX
   have gj:(zL l)[j]=(l[j]:Int):=by simp [zL]
   have hs:=zrB (x:=fs.xs[i].a) iX;have tZ:=zqj (x:=fs.xs[i].a) MF.h iX
   by_cases hx:fs.xs[i].a=(l[j]:Int)
   .have tZ:=tZ hx;rw [tZ] at pq hs;have sN:Hide (A++OG (Ew (l.take (j+1)) fs.xs[i].a) fs.xs[i]=A++[fs.xs[i]]):=⟨by rw [hs,decide_eq_true hx];rfl⟩
    have pq:aC Fact.cells 9 H2 v2 A:=pq.cast (by simp [OG]);rw [<- hx] at gj;clear hs tZ bu hx;(repeat' first|simp [*,zb,Fact.cells]|(apply za<;>intro _ h<;>try simp [-Nat.le_zero_eq] at h)|(show wpE 0 (zh ..) ..;refine zm ?_)|(refine ze fun v2 H2 aV aD ae af ai aj=>?_));exact ⟨j+1,by omega,by omega,by omega,aV.cast sN.h.symm⟩
   .have sN:Hide (A++OG (Ew (l.take j) fs.xs[i].a) fs.xs[i]=A++OG (Ew (l.take (j+1)) fs.xs[i].a) fs.xs[i]):=⟨by rw [hs,decide_eq_false hx,Bool.or_false]⟩
    clear hs tZ bu;(repeat' first|simp [*,zb,Fact.cells]|(apply za<;>intro _ h<;>try simp [-Nat.le_zero_eq] at h)|(show wpE 0 (zh ..) ..;refine zm ?_)|(refine ze fun v2 H2 aV aD ae af ai aj=>?_));exact ⟨j+1,by omega,by omega,by omega,pq.cast sN.h⟩
  .have iX:j=l.length:=by omega
   subst iX;rw [List.take_length,<- bu.h] at pq;clear bu;(repeat' first|simp [*,zb]|(apply za<;>intro _ h<;>try simp [-Nat.le_zero_eq] at h)|(show wpE 0 (zh ..) ..;refine zm ?_)|(refine ze fun v2 H2 aV aD ae af ai aj=>?_));exact ⟨i+1,by omega,by omega,by omega,pq⟩
 .have aT:i=fs.xs.length:=by omega
  subst aT;rw [List.take_length] at pq;have h1:=pq.res (n:=10) (fun _=>rfl);clear MF;(repeat' first|simp [*,zb]|(apply za<;>intro _ h<;>try simp [-Nat.le_zero_eq] at h)|(show wpE 0 (zh ..) ..;refine zm ?_)|(refine ze fun v2 H2 aV aD ae af ai aj=>?_));exact h1
end Go.Proofs.YtmmhnfghklppiaaGreat.Vm
