/- solved, Count: the program's, walked. found.hull and Hull: the program's, walked. with, further and Decide: the program's, walked. Few, boxes, ints, With and lies of the laws, walked. -/
import Derived.Test.YtmghcpdpilgplaaGreatPk25
import Derived.Test.YtmghcpdpilgplaaGreatPk17
namespace Go.Proofs.YtmghcpdpilgplaaGreat.Vm
open Go
set_option maxHeartbeats 4000000
set_option maxRecDepth 4000
def SolvedOut (p:Problem) (D:FoundD) (e:Int):Prop:=(checkS p≠0∧D=⟨false,[]⟩∧e=checkS p)∨(checkS p=0∧FindOut p D e)
theorem sh69:G.shared 69=false:=by decide
theorem e69 (n:Nat) (p:Problem) (D:FoundD) (e:Int) (h:SolvedOut p D e):callP G (n+52) 69 [.agg p.cells]=some (.tup [.agg D.cells,.int .i64 e]):=by
 refine callP_of (ext_none _) rfl g69 rfl ?_
 have hc:=fun H=>call_pureC (G:=G) (n:=n+51) (H:=H) (caps:=[]) (ps:=[.agg p.cells]) sh49 (e49 (n+48) p);rcases h with ⟨h0,rfl,rfl⟩|⟨h0,hf⟩
 ·generalize checkS p=c at *;simp only [Problem.cells,List.map_cons,List.map_nil] at hc;(repeat' first|simp [*,initEnv,c69,Problem.cells]|(apply wpIf_two<;>intro _ h<;>try simp [-Nat.le_zero_eq] at h))
 ·have hn:=fun H=>call_pureC (G:=G) (n:=n+51) (H:=H) (caps:=[]) (ps:=[.agg p.cells]) sh77 (e77 n p (check_ok.1 h0) D e hf);rw [h0] at hc;obtain ⟨De,Ds⟩:=D;simp only [Problem.cells,FoundD.cells,List.map_cons,List.map_nil] at hc hn ⊢;clear h0 hf;(repeat' first|simp [*,initEnv,c69,Problem.cells]|(apply wpIf_two<;>intro _ h<;>try simp [-Nat.le_zero_eq] at h))
def countL:List Nat→Int→Option Int
 | [],n=>some n
 | c::cs,n=>if 4611686018427387904 / n < (c:Int) then none else countL cs (n*c)
def countF (D:FoundD) (e:Int):Int×Int:=if e≠0∨D.empty=true then (0,e) else match countL (D.seens.map (·.n)) 1 with
 | none=>(0,3)
 | some n=>(n,0)
def endP (s:SeenD) (j k:Nat):Pt:=match s.ends[j]! with
 | some c=>c[k]!
 | none=>⟨0,0⟩
def hullP (s:SeenD) (k:Nat):Box:=⟨⟨(endP s (4*k) k).x,(endP s (4*k+1) k).x⟩,⟨(endP s (4*k+2) k).y,(endP s (4*k+3) k).y⟩⟩
def hullL (pt:Nat):List SeenD→Nat→Box×Int×Int
 | [],_=>(⟨⟨0,0⟩,⟨0,0⟩⟩,-1,-1)
 | s::ss,i=>if pt∈s.part then (hullP s (s.part.idxOf pt),(i:Int),(s.part.idxOf pt:Nat)) else hullL pt ss (i+1)
structure SeenGood (s:SeenD):Prop where
 few:s.part.length≤12
 len:s.ends.length=4*s.part.length
 all:∀ o∈s.ends,∃ c,o=some c∧c.length=s.part.length
theorem SeenGood.at {s:SeenD} (h:SeenGood s) {j k:Nat} (hj:j < s.ends.length) (hk:k < s.part.length):∃ (c:List Pt) (hc:k < c.length),s.ends[j]=some c∧endP s j k=c[k]:=by
 obtain ⟨c,h1,h2⟩:=h.all _ (List.getElem_mem hj)
 refine ⟨c,by omega,h1,?_⟩
 unfold endP;rw [getElem!_pos s.ends j hj,h1];simp only;rw [getElem!_pos c k (by omega)]
theorem sh27:G.shared 27=false:=by decide
theorem e27 (n:Nat) (a b:Sl Box) (h:a.xs=b.xs) (hl:a.xs.length≤100):callP G (n+1) 27 [a.pv Box.cells 4,b.pv Box.cells 4]=some (.bool true):=by
 refine callP_of (ext_none _) rfl g27 rfl ?_
 have hlb:b.xs.length=a.xs.length:=by rw [h]
 have hg:Hide (∀ i (h1:i < a.xs.length) (h2:i < b.xs.length),b.xs[i]=a.xs[i]):=⟨fun i h1 h2=>by simp only [h]⟩
 clear h;(repeat' first|simp [*,initEnv,c27]|(apply wpIf_two<;>intro _ h<;>try simp [-Nat.le_zero_eq] at h))
 refine wp_loopF [(4,5),(11,25)] (fun (i:Nat) env H=>env 5=.pure (.int .i64 i)∧i≤a.xs.length) (fun i=>a.xs.length - i) 0 ?_ ?_ ?_ ?_
 ·decide
 ·exact ⟨by simp,by omega⟩
 ·simp only [loopFuel];omega
 rintro i env H ⟨g5,hi⟩
 by_cases hlt:i < a.xs.length
 ·have w1:IntKind.i64.wrap ((i:Int)+1)=(i+1:Nat):=by rw [wrap64 (by omega) (by omega)];omega
  have hltI:(i:Int) < a.xs.length:=by omega
  have hlt2:i < b.xs.length:=by omega
  have ge:=hg.h i hlt hlt2;(repeat' first|simp [*,initEnv,Box.cells,Span.cells,st_aggEq,cellsEq,isAggV]|(apply wpIf_two<;>intro _ h<;>try simp [-Nat.le_zero_eq] at h));exact ⟨i+1,by omega,by omega,by omega⟩
 ·have hiN:i=a.xs.length:=by omega
  subst hiN;(repeat' first|simp [*,initEnv]|(apply wpIf_two<;>intro _ h<;>try simp [-Nat.le_zero_eq] at h))
theorem sh30:G.shared 30=false:=by decide
theorem e30 (n:Nat) (a b:Sl Int) (h:a.xs=b.xs) (hl:a.xs.length≤100):callP G (n+1) 30 [a.pv intF 1,b.pv intF 1]=some (.bool true):=by
 refine callP_of (ext_none _) rfl g30 rfl ?_
 have hlb:b.xs.length=a.xs.length:=by rw [h]
 have hg:Hide (∀ i (h1:i < a.xs.length) (h2:i < b.xs.length),b.xs[i]=a.xs[i]):=⟨fun i h1 h2=>by simp only [h]⟩
 clear h;(repeat' first|simp [*,initEnv,c30]|(apply wpIf_two<;>intro _ h<;>try simp [-Nat.le_zero_eq] at h))
 refine wp_loopF [(4,5),(11,25)] (fun (i:Nat) env H=>env 5=.pure (.int .i64 i)∧i≤a.xs.length) (fun i=>a.xs.length - i) 0 ?_ ?_ ?_ ?_
 ·decide
 ·exact ⟨by simp,by omega⟩
 ·simp only [loopFuel];omega
 rintro i env H ⟨g5,hi⟩
 by_cases hlt:i < a.xs.length
 ·have w1:IntKind.i64.wrap ((i:Int)+1)=(i+1:Nat):=by rw [wrap64 (by omega) (by omega)];omega
  have hltI:(i:Int) < a.xs.length:=by omega
  have hlt2:i < b.xs.length:=by omega
  have ge:=hg.h i hlt hlt2;(repeat' first|simp [*,initEnv,intF]|(apply wpIf_two<;>intro _ h<;>try simp [-Nat.le_zero_eq] at h));exact ⟨i+1,by omega,by omega,by omega⟩
 ·have hiN:i=a.xs.length:=by omega
  subst hiN;(repeat' first|simp [*,initEnv]|(apply wpIf_two<;>intro _ h<;>try simp [-Nat.le_zero_eq] at h))
def wideB (b:Box):Bool:=validB b&&(decide (60 < b.x.hi - b.x.lo)||decide (60 < b.y.hi - b.y.lo))
def fewB (p:Problem):Bool:=decide (p.boxes.xs.length≤5)&&decide (p.facts.xs.length≤16)&&p.boxes.xs.all fun b=>!wideB b
def noWide (l:List Box) (i:Nat):Prop:=∀ j (h:j < l.length),j < i→wideB l[j]=false
theorem sh21:G.shared 21=false:=by decide
theorem e21 (n:Nat) (p:Problem):callP G (n+3) 21 [.agg p.cells]=some (.bool (fewB p)):=by
 refine callP_of (ext_none _) rfl g21 rfl ?_
 obtain ⟨bs,fs⟩:=p;have hvd:Hide (∀ b:Box,∀ H,doCall (calleeOf G (n+2)) H (.pure (.func 61 [])) [.pure (.agg b.cells)]=some (.val (.pure (.bool (validB b))))):=⟨fun b H=>call_pureC (caps:=[]) (ps:=[_]) sh61 (e61 n b)⟩
 by_cases h1:5 < bs.xs.length
 ·have h1I:(5:Int) < bs.xs.length:=by omega
  have hR:fewB ⟨bs,fs⟩=false:=by
   have:decide (bs.xs.length≤5)=false:=by simp;omega
   simp [fewB,this]
  rw [hR];(repeat' first|simp [*,initEnv,c21,Problem.cells]|(apply wpIf_two<;>intro _ h<;>try simp [-Nat.le_zero_eq] at h))
 have h1I:¬ (5:Int) < bs.xs.length:=by omega
 by_cases h2:16 < fs.xs.length
 ·have h2I:(16:Int) < fs.xs.length:=by omega
  have hR:fewB ⟨bs,fs⟩=false:=by
   have:decide (fs.xs.length≤16)=false:=by simp;omega
   simp [fewB,this]
  rw [hR];(repeat' first|simp [*,initEnv,c21,Problem.cells]|(apply wpIf_two<;>intro _ h<;>try simp [-Nat.le_zero_eq] at h))
 have h2I:¬ (16:Int) < fs.xs.length:=by omega
 have hRe:Hide (fewB ⟨bs,fs⟩=bs.xs.all fun b=>!wideB b):=⟨by
  have a1:decide (bs.xs.length≤5)=true:=by simp;omega
  have a2:decide (fs.xs.length≤16)=true:=by simp;omega
  simp [fewB,a1,a2]⟩
 generalize hR:fewB ⟨bs,fs⟩=R;rw [hR] at hRe;clear hR;(repeat' first|simp [*,initEnv,c21,Problem.cells]|(apply wpIf_two<;>intro _ h<;>try simp [-Nat.le_zero_eq] at h))
 refine wp_loopF [(2,5),(16,50)] (fun (i:Nat) env H=>env 3=.pure (.int .i64 i)∧i≤bs.xs.length∧Hide (noWide bs.xs i)) (fun i=>bs.xs.length - i) 0 ?_ ?_ ?_ ?_
 ·decide
 ·exact ⟨by simp,by omega,⟨fun _ _ h=>by omega⟩⟩
 ·simp only [loopFuel];omega
 rintro i env H ⟨g3,hi,hn⟩
 by_cases hlt:i < bs.xs.length
 ·have w1:IntKind.i64.wrap ((i:Int)+1)=(i+1:Nat):=by rw [wrap64 (by omega) (by omega)];omega
  have hltI:(i:Int) < bs.xs.length:=by omega
  have c1:=hvd.h bs.xs[i];simp only [Box.cells,Span.cells] at c1
  by_cases hw:wideB bs.xs[i]=true
  ·have hRf:R=false:=by
    rw [hRe.h,List.all_eq_false];exact ⟨_,List.getElem_mem hlt,by simp [hw]⟩
   subst hRf;unfold wideB at hw;rw [Bool.and_eq_true,Bool.or_eq_true,decide_eq_true_eq,decide_eq_true_eq] at hw;obtain ⟨hv,hw⟩:=hw;have hvv:=valid_iff.1 hv;have x1:IntKind.i64.wrap (bs.xs[i].x.hi - bs.xs[i].x.lo)=bs.xs[i].x.hi - bs.xs[i].x.lo:=wrap64 (by omega) (by omega);have x2:IntKind.i64.wrap (bs.xs[i].y.hi - bs.xs[i].y.lo)=bs.xs[i].y.hi - bs.xs[i].y.lo:=wrap64 (by omega) (by omega);rw [hv] at c1;clear hRe hn hvv hv hvd
   by_cases hx:60 < bs.xs[i].x.hi - bs.xs[i].x.lo
   ·clear hw;(repeat' first|simp [*,initEnv,Box.cells,Span.cells]|(apply wpIf_two<;>intro _ h<;>try simp [-Nat.le_zero_eq] at h))
   ·have hy:60 < bs.xs[i].y.hi - bs.xs[i].y.lo:=by omega
    clear hw;(repeat' first|simp [*,initEnv,Box.cells,Span.cells]|(apply wpIf_two<;>intro _ h<;>try simp [-Nat.le_zero_eq] at h))
  ·have hw':wideB bs.xs[i]=false:=by simpa using hw
   have hn':Hide (noWide bs.xs (i+1)):=⟨fun j h hj=>by
    by_cases e:j=i
    ·subst e;exact hw'
    ·exact hn.h j h (by omega)⟩
   clear hw hn;unfold wideB at hw'
   cases hv:validB bs.xs[i] with
   | false =>
    rw [hv] at c1;clear hw' hRe hvd hv;(repeat' first|simp [*,initEnv,Box.cells,Span.cells]|(apply wpIf_two<;>intro _ h<;>try simp [-Nat.le_zero_eq] at h));exact ⟨i+1,by omega,by omega,by omega,hn'⟩
   | true =>
    rw [hv] at hw' c1;rw [Bool.true_and,Bool.or_eq_false_iff,decide_eq_false_iff_not,decide_eq_false_iff_not] at hw';obtain ⟨hx,hy⟩:=hw';have hvv:=valid_iff.1 hv;have x1:IntKind.i64.wrap (bs.xs[i].x.hi - bs.xs[i].x.lo)=bs.xs[i].x.hi - bs.xs[i].x.lo:=wrap64 (by omega) (by omega);have x2:IntKind.i64.wrap (bs.xs[i].y.hi - bs.xs[i].y.lo)=bs.xs[i].y.hi - bs.xs[i].y.lo:=wrap64 (by omega) (by omega);clear hRe hvv hv hvd;(repeat' first|simp [*,initEnv,Box.cells,Span.cells]|(apply wpIf_two<;>intro _ h<;>try simp [-Nat.le_zero_eq] at h));exact ⟨i+1,by omega,by omega,by omega,hn'⟩
 ·have hiN:i=bs.xs.length:=by omega
  subst hiN;have hRt:R=true:=by
   rw [hRe.h,List.all_eq_true];intro b hb;obtain ⟨j,hj,rfl⟩:=List.mem_iff_getElem.1 hb;rw [hn.h j hj hj];rfl
  subst hRt;clear hn hRe hvd;(repeat' first|simp [*,initEnv]|(apply wpIf_two<;>intro _ h<;>try simp [-Nat.le_zero_eq] at h))
end Go.Proofs.YtmghcpdpilgplaaGreat.Vm
