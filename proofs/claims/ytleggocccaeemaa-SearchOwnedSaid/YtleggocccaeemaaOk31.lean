/- Few of the laws, walked; without what other laws need. -/
import Derived.Test.YtleggocccaeemaaOk17
namespace Go.Proofs.Ytleggocccaeemaa.Vm
open Go
set_option linter.unusedSimpArgs false
set_option linter.unusedVariables false
set_option maxHeartbeats 4000000
set_option maxRecDepth 4000
def zhk (b:Box):Bool:=zaz b&&(decide (60 < b.x.hi - b.x.lo)||decide (60 < b.y.hi - b.y.lo))
def fewB (p:Problem):Bool:=decide (p.boxes.xs.length<=5)&&decide (p.facts.xs.length<=16)&&p.boxes.xs.all fun b=>!zhk b
def zoi (l:List Box) (i:Nat):Prop:=∀ j (h:j < l.length),j < i->zhk l[j]=false
theorem sh5:G.shared 5=false:=by decide
theorem e5 (n:Nat) (p:Problem):zI G (n+3) 5 [.agg p.cells]=some (.bool (fewB p)):=by
 refine zA (zB _) rfl g5 rfl ?_
 obtain ⟨bs,fs⟩:=p;have hvd:Hide (∀ b:Box,∀ H,zM (zq G (n+2)) H (.pure (.func 19 [])) [.pure (.agg b.cells)]=some (.val (.pure (.bool (zaz b))))):=⟨fun b H=>zh (caps:=[]) (ps:=[_]) sh19 (e19 n b)⟩
 by_cases h1:5 < bs.xs.length
 ·have h1I:(5:Int) < bs.xs.length:=by omega
  have hR:fewB ⟨bs,fs⟩=false:=by
   have:decide (bs.xs.length<=5)=false:=by simp;omega
   simp [fewB,this]
  rw [hR];(repeat' first|simp [*,zb,c5,Problem.cells]|(apply za<;>intro _ h<;>try simp [-Nat.le_zero_eq] at h))
 have h1I:¬ (5:Int) < bs.xs.length:=by omega
 by_cases h2:16 < fs.xs.length
 ·have h2I:(16:Int) < fs.xs.length:=by omega
  have hR:fewB ⟨bs,fs⟩=false:=by
   have:decide (fs.xs.length<=16)=false:=by simp;omega
   simp [fewB,this]
  rw [hR];(repeat' first|simp [*,zb,c5,Problem.cells]|(apply za<;>intro _ h<;>try simp [-Nat.le_zero_eq] at h))
 have h2I:¬ (16:Int) < fs.xs.length:=by omega
 have hRe:Hide (fewB ⟨bs,fs⟩=bs.xs.all fun b=>!zhk b):=⟨by
  have a1:decide (bs.xs.length<=5)=true:=by simp;omega
  have a2:decide (fs.xs.length<=16)=true:=by simp;omega
  simp [fewB,a1,a2]⟩
 generalize hR:fewB ⟨bs,fs⟩=R;rw [hR] at hRe;clear hR;(repeat' first|simp [*,zb,c5,Problem.cells]|(apply za<;>intro _ h<;>try simp [-Nat.le_zero_eq] at h))
 refine zz [(2,5),(16,50)] (fun (i:Nat) env H=>env 3=.pure (.int .i64 i)/\i<=bs.xs.length/\Hide (zoi bs.xs i)) (fun i=>bs.xs.length - i) 0 ?_ ?_ ?_ ?_
 ·decide
 ·exact ⟨by simp,by omega,⟨fun _ _ h=>by omega⟩⟩
 ·simp only [zx];omega
 rintro i env H ⟨g3,hi,hn⟩
 by_cases hlt:i < bs.xs.length
 ·have w1:IntKind.i64.wrap ((i:Int)+1)=(i+1:Nat):=by rw [wrap64 (by omega) (by omega)];omega
  have hltI:(i:Int) < bs.xs.length:=by omega
  have c1:=hvd.h bs.xs[i];simp only [Box.cells,Span.cells] at c1
  by_cases hw:zhk bs.xs[i]=true
  ·have hRf:R=false:=by
    rw [hRe.h,List.all_eq_false];exact ⟨_,List.getElem_mem hlt,by simp [hw]⟩
   subst hRf;unfold zhk at hw;rw [Bool.and_eq_true,Bool.or_eq_true,decide_eq_true_eq,decide_eq_true_eq] at hw;obtain ⟨hv,hw⟩:=hw;have hvv:=valid_iff.1 hv;have x1:IntKind.i64.wrap (bs.xs[i].x.hi - bs.xs[i].x.lo)=bs.xs[i].x.hi - bs.xs[i].x.lo:=wrap64 (by omega) (by omega);have x2:IntKind.i64.wrap (bs.xs[i].y.hi - bs.xs[i].y.lo)=bs.xs[i].y.hi - bs.xs[i].y.lo:=wrap64 (by omega) (by omega);rw [hv] at c1;clear hRe hn hvv hv hvd
   by_cases hx:60 < bs.xs[i].x.hi - bs.xs[i].x.lo
   ·clear hw;(repeat' first|simp [*,zb,Box.cells,Span.cells]|(apply za<;>intro _ h<;>try simp [-Nat.le_zero_eq] at h))
   ·have hy:60 < bs.xs[i].y.hi - bs.xs[i].y.lo:=by omega
    clear hw;(repeat' first|simp [*,zb,Box.cells,Span.cells]|(apply za<;>intro _ h<;>try simp [-Nat.le_zero_eq] at h))
  ·have hw':zhk bs.xs[i]=false:=by simpa using hw
   have hn':Hide (zoi bs.xs (i+1)):=⟨fun j h hj=>by
    by_cases e:j=i
    ·subst e;exact hw'
    ·exact hn.h j h (by omega)⟩
   clear hw hn;unfold zhk at hw'
   cases hv:zaz bs.xs[i] with
   | false =>
    rw [hv] at c1;clear hw' hRe hvd hv;(repeat' first|simp [*,zb,Box.cells,Span.cells]|(apply za<;>intro _ h<;>try simp [-Nat.le_zero_eq] at h));exact ⟨i+1,by omega,by omega,by omega,hn'⟩
   | true =>
    rw [hv] at hw' c1;rw [Bool.true_and,Bool.or_eq_false_iff,decide_eq_false_iff_not,decide_eq_false_iff_not] at hw';obtain ⟨hx,hy⟩:=hw';have hvv:=valid_iff.1 hv;have x1:IntKind.i64.wrap (bs.xs[i].x.hi - bs.xs[i].x.lo)=bs.xs[i].x.hi - bs.xs[i].x.lo:=wrap64 (by omega) (by omega);have x2:IntKind.i64.wrap (bs.xs[i].y.hi - bs.xs[i].y.lo)=bs.xs[i].y.hi - bs.xs[i].y.lo:=wrap64 (by omega) (by omega);clear hRe hvv hv hvd;(repeat' first|simp [*,zb,Box.cells,Span.cells]|(apply za<;>intro _ h<;>try simp [-Nat.le_zero_eq] at h));exact ⟨i+1,by omega,by omega,by omega,hn'⟩
 ·have hiN:i=bs.xs.length:=by omega
  subst hiN;have hRt:R=true:=by
   rw [hRe.h,List.all_eq_true];intro b hb;obtain ⟨j,hj,rfl⟩:=List.mem_iff_getElem.1 hb;rw [hn.h j hj hj];rfl
  subst hRt;clear hn hRe hvd;(repeat' first|simp [*,zb]|(apply za<;>intro _ h<;>try simp [-Nat.le_zero_eq] at h))
@[simp] theorem d5 (n:Nat) (H:Heap) (p_boxes:Sl Box) (p_facts:Sl Fact):zM (zq G (n+3)) H (.pure (.func 5 [])) [.pure (.agg [(p_boxes).pv Box.cells 4,(p_facts).pv Fact.cells 9])]=some (.val (.pure ((fun (p:Problem)=>.bool (fewB p)) (⟨p_boxes,p_facts⟩:Problem)))) :=
 zh (ps:=[_]) (caps:=[]) sh5 (e5 n (⟨p_boxes,p_facts⟩:Problem))
end Go.Proofs.Ytleggocccaeemaa.Vm
