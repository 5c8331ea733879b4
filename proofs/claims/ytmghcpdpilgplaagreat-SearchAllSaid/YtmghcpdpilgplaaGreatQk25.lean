/- What facts say of boxes, as the specification computes it. -/
import Derived.Test.YtmghcpdpilgplaaGreatQk15
import Derived.Test.YtmghcpdpilgplaaGreatQk16
namespace Go.Proofs.YtmghcpdpilgplaaGreat.Vm
open Go
set_option linter.unusedSimpArgs false
set_option linter.unusedVariables false
set_option maxHeartbeats 1000000
theorem tmod_2 (a:Nat):Int.tmod (a:Int) 2=((a % 2:Nat):Int):=rfl
theorem tdiv_2 (a:Nat):Int.tdiv (a:Int) 2=((a / 2:Nat):Int):=rfl
theorem tdiv_4 (a:Nat):Int.tdiv (a:Int) 4=((a / 4:Nat):Int):=rfl
theorem tdiv_8 (a:Nat):Int.tdiv (a:Int) 8=((a / 8:Nat):Int):=rfl
theorem tdiv_16 (a:Nat):Int.tdiv (a:Int) 16=((a / 16:Nat):Int):=rfl
theorem tdiv_32 (a:Nat):Int.tdiv (a:Int) 32=((a / 32:Nat):Int):=rfl
theorem sh139:G.shared 139=false:=by decide
theorem e139 (n:Nat) (s:Span) (k:Nat):callP G (n+1) 139 [.agg s.cells,.int .i64 k]=some (.int .i64 (endS s k)):=by
 refine callP_of (ext_none _) rfl g139 rfl ?_
 have h2:k % 2=0∨k % 2=1:=by omega
 unfold endS;rcases h2 with h2|h2
 ·have h:Int.tmod (k:Int) 2=0:=by rw [tmod_2,h2];rfl
  rw [if_pos h2];(repeat' first|simp [*,initEnv,c139,Span.cells]|(apply wpIf_two<;>intro _ h<;>try simp [-Nat.le_zero_eq] at h))
 ·have h:Int.tmod (k:Int) 2=1:=by rw [tmod_2,h2];rfl
  rw [if_neg (by omega)];(repeat' first|simp [*,initEnv,c139,Span.cells]|(apply wpIf_two<;>intro _ h<;>try simp [-Nat.le_zero_eq] at h))
theorem endS_in {s:Span} {M:Int} (h:inS s M) (k:Nat):-M≤endS s k∧endS s k≤M:=by
 unfold endS inS at *
 split<;>omega
theorem turnTo_more {a b c:Box} {k:Nat} {v:Span} (h:turnTo a b c (max k 1) v):turnTo a b c (max (k+1) 1) ⟨min v.lo (turnK a b c k),max v.hi (turnK a b c k)⟩:=by
 by_cases hk:k=0
 ·subst hk;have h0:=turnTo_start a b c;have e:v=⟨turnK a b c 0,turnK a b c 0⟩:=SpanOf.unique h h0;subst e
  simpa using h0
 ·rw [show max (k+1) 1=max k 1+1 by omega,show max k 1=k by omega];rw [show max k 1=k by omega] at h;exact turnTo_step h
theorem sh133:G.shared 133=false:=by decide
theorem e133 (n:Nat) (a b c:Box) (ha:validB a=true) (hb:validB b=true) (hc:validB c=true):callP G (n+3) 133 [.agg a.cells,.agg b.cells,.agg c.cells]=some (.agg (turnS a b c).cells):=by
 refine callP_of (ext_none _) rfl g133 rfl ?_
 have va:=valid_iff.1 ha;have vb:=valid_iff.1 hb;have vc:=valid_iff.1 hc;have sax:inS a.x 1048576:=by unfold inS;omega
 have say:inS a.y 1048576:=by unfold inS;omega
 have sbx:inS b.x 1048576:=by unfold inS;omega
 have sby:inS b.y 1048576:=by unfold inS;omega
 have scx:inS c.x 1048576:=by unfold inS;omega
 have scy:inS c.y 1048576:=by unfold inS;omega
 clear va vb vc ha hb hc;have hT:∀ i j x y z w H,doCall (calleeOf G (n+2)) H (.pure (.func 153 [])) [.pure (.int .i64 (endS a.x i)),.pure (.int .i64 (endS a.y j)),.pure (.int .i64 (endS b.x x)),.pure (.int .i64 (endS b.y y)),.pure (.int .i64 (endS c.x z)),.pure (.int .i64 (endS c.y w))]=some (.val (.pure (.int .i64 (turnV ⟨endS a.x i,endS a.y j⟩ ⟨endS b.x x,endS b.y y⟩ ⟨endS c.x z,endS c.y w⟩)))):=fun i j x y z w H =>
  call_pureC (caps:=[]) (ps:=[_,_,_,_,_,_]) sh153 (e153 (n+1) _ _ _ _ _ _ ⟨endS_in sax i,endS_in say j⟩ ⟨endS_in sbx x,endS_in sby y⟩ ⟨endS_in scx z,endS_in scy w⟩)
 have hE:∀ (s:Span) (k:Nat) H,doCall (calleeOf G (n+2)) H (.pure (.func 139 [])) [.pure (.agg s.cells),.pure (.int .i64 k)]=some (.val (.pure (.int .i64 (endS s k)))):=fun s k H=>call_pureC (caps:=[]) (ps:=[_,_]) sh139 (e139 (n+1) s k);clear sax say sbx sby scx scy;have hT0:=hT 0 0 0 0 0 0;have k0:turnV ⟨endS a.x 0,endS a.y 0⟩ ⟨endS b.x 0,endS b.y 0⟩ ⟨endS c.x 0,endS c.y 0⟩=turnK a b c 0:=rfl;rw [k0] at hT0;simp only [endS,Nat.zero_mod,if_true] at hT0;have hT:=Hide.mk hT;have hE:=Hide.mk hE;have hs:=turnTo_start a b c;generalize hk0:turnK a b c 0=t0 at *;clear k0 hk0;have hs:=Hide.mk hs;(repeat' first|simp [*,initEnv,c133,Box.cells,Span.cells]|(apply wpIf_two<;>intro _ h<;>try simp [-Nat.le_zero_eq] at h))
 refine wp_loopF [(9,10),(33,76)] (fun (k:Nat) env H=>env 9=.pure (.int .i64 k)∧k≤64∧H.nx=2∧H.get 0=.cells true [.pure (.int .i64 0),.pure (.int .i64 0)]∧∃ v:Span,H.get 1=.cells true [.pure (.int .i64 v.lo),.pure (.int .i64 v.hi)]∧Hide (turnTo a b c (max k 1) v)) (fun k=>64 - k) 0 ?_ ?_ ?_ ?_
 ·decide
 ·exact ⟨by simp,by omega,by simp,by simp,⟨t0,t0⟩,by simp,hs⟩
 ·simp only [loopFuel];omega
 clear hs hT0;rintro k env H ⟨g9,hk,hnx,g0,v,gv,hv⟩
 by_cases hlt:k < 64
 ·have hlI:(k:Int) < 64:=by omega
  have w1:IntKind.i64.wrap ((k:Int)+1)=(k+1:Nat):=by rw [wrap64 (by omega) (by omega)];omega
  have q1:=tdiv_2 k;have q2:=tdiv_4 k;have q3:=tdiv_8 k;have q4:=tdiv_16 k;have q5:=tdiv_32 k;have u1:IntKind.i64.wrap ((k / 2:Nat):Int)=(k / 2:Nat):=wrap64 (by omega) (by omega);have u2:IntKind.i64.wrap ((k / 4:Nat):Int)=(k / 4:Nat):=wrap64 (by omega) (by omega);have u3:IntKind.i64.wrap ((k / 8:Nat):Int)=(k / 8:Nat):=wrap64 (by omega) (by omega);have u4:IntKind.i64.wrap ((k / 16:Nat):Int)=(k / 16:Nat):=wrap64 (by omega) (by omega);have u5:IntKind.i64.wrap ((k / 32:Nat):Int)=(k / 32:Nat):=wrap64 (by omega) (by omega);have e1:=hE.h a.x k;have e2:=hE.h a.y (k / 2);have e3:=hE.h b.x (k / 4);have e4:=hE.h b.y (k / 8);have e5:=hE.h c.x (k / 16);have e6:=hE.h c.y (k / 32);have hTk:=hT.h k (k / 2) (k / 4) (k / 8) (k / 16) (k / 32);have k0:turnV ⟨endS a.x k,endS a.y (k / 2)⟩ ⟨endS b.x (k / 4),endS b.y (k / 8)⟩ ⟨endS c.x (k / 16),endS c.y (k / 32)⟩=turnK a b c k:=rfl;rw [k0] at hTk;have hm:=Hide.mk (turnTo_more hv.h);clear hE hT k0 hv;generalize turnK a b c k=tk at *;generalize endS a.x k=x1 at *;generalize endS a.y (k / 2)=x2 at *;generalize endS b.x (k / 4)=x3 at *;generalize endS b.y (k / 8)=x4 at *;generalize endS c.x (k / 16)=x5 at *;generalize endS c.y (k / 32)=x6 at *;generalize k / 2=y2 at *;generalize k / 4=y3 at *;generalize k / 8=y4 at *;generalize k / 16=y5 at *;generalize k / 32=y6 at *;simp only [Span.cells] at e1 e2 e3 e4 e5 e6;(repeat' first|simp [*,initEnv]|(apply wpIf_two<;>intro _ h<;>try simp [-Nat.le_zero_eq] at h));exact ⟨k+1,by omega,by omega,by omega,⟨min v.lo tk,max v.hi tk⟩,⟨rfl,rfl⟩,hm⟩
 ·have hk64:k=64:=by omega
  subst hk64;have:=turnTo_end hv.h;subst this;clear hE hT hv;(repeat' first|simp [*,initEnv]|(apply wpIf_two<;>intro _ h<;>try simp [-Nat.le_zero_eq] at h))
theorem ROk.vec {f:Fact} {l:List Box} (h:ROk f l) (n:Nat):∃ (i j:Nat) (hi:i < l.length) (hj:j < l.length),f.a=i∧f.b=j∧vecS f l=(lessS l[j].x l[i].x,lessS l[j].y l[i].y) ∧
  (∀ H,doCall (calleeOf G (n+1)) H (.pure (.func 104 [])) [.pure (.agg (l[j]).x.cells),.pure (.agg (l[i]).x.cells)]=some (.val (.pure (.agg (vecS f l).1.cells)))) ∧
  (∀ H,doCall (calleeOf G (n+1)) H (.pure (.func 104 [])) [.pure (.agg (l[j]).y.cells),.pure (.agg (l[i]).y.cells)]=some (.val (.pure (.agg (vecS f l).2.cells)))):=by
 obtain ⟨i,hi,ea,ga⟩:=getB h.a.1 h.a.2;obtain ⟨j,hj,eb,gb⟩:=getB h.b.1 h.b.2;obtain ⟨h1,h2⟩:=h.box hi;obtain ⟨h3,h4⟩:=h.box hj;have hv:vecS f l=(lessS l[j].x l[i].x,lessS l[j].y l[i].y):=by unfold vecS;rw [ga,gb]
 refine ⟨i,j,hi,hj,ea,eb,hv,fun H=>?_,fun H=>?_⟩
 ·rw [hv];exact call_pureC (caps:=[]) (ps:=[_,_]) sh104 (e104 n _ _ h3 h1)
 ·rw [hv];exact call_pureC (caps:=[]) (ps:=[_,_]) sh104 (e104 n _ _ h4 h2)
theorem ROk.amt {f:Fact} {l:List Box} (h:ROk f l) (n:Nat):(∀ H,doCall (calleeOf G (n+1)) H (.pure (.func 103 [])) [.pure (.agg (vecS f l).1.cells)]=some (.val (.pure (.agg (amountS (vecS f l).1).cells)))) ∧
  (∀ H,doCall (calleeOf G (n+1)) H (.pure (.func 103 [])) [.pure (.agg (vecS f l).2.cells)]=some (.val (.pure (.agg (amountS (vecS f l).2).cells)))):=by
 obtain ⟨v1,v2⟩:=vec_inS h;exact ⟨fun H=>call_pureC (caps:=[]) (ps:=[_]) sh103 (e103 n _ (inS_mono v1 (by omega))),fun H=>call_pureC (caps:=[]) (ps:=[_]) sh103 (e103 n _ (inS_mono v2 (by omega)))⟩
def valuesS (f:Fact) (l:List Box):Span:=if f.kind=2 then turnS l[f.a.toNat]! l[f.b.toNat]! l[f.c.toNat]! else if f.kind=5 then (vecS f l).1 else if f.kind=6 then (vecS f l).2 else distS (amountS (vecS f l).1) (amountS (vecS f l).2)
theorem sh105:G.shared 105=false:=by decide
theorem e105 (n:Nat) (f:Fact) (l:Sl Box) (hr:ROk f l.xs):callP G (n+4) 105 [.agg f.cells,l.pv Box.cells 4]=some (.agg (valuesS f l.xs).cells):=by
 refine callP_of (ext_none _) rfl g105 rfl ?_
 obtain ⟨i,j,hi,hj,ea,eb,hv,hx,hy⟩:=hr.vec (n+2);obtain ⟨sx,sy⟩:=hr.amt (n+2);have ga:l.xs[f.a.toNat]! = l.xs[i]:=by rw [ea];simp [hi]
 have gb:l.xs[f.b.toNat]! = l.xs[j]:=by rw [eb];simp [hj]
 have va:validB l.xs[i]=true:=hr.v _ (List.getElem_mem hi);have vb:validB l.xs[j]=true:=hr.v _ (List.getElem_mem hj);obtain ⟨v1,v2⟩:=vec_inS hr;obtain ⟨a1,a2,a3⟩:=amount_inS v1;obtain ⟨b1,b2,b3⟩:=amount_inS v2;have hc:=hr.c;have hvv:=hr.v;clear v1 v2 hr;unfold valuesS;rw [ga,gb];clear hv ga gb;generalize (vecS f l.xs).1=x at *;generalize (vecS f l.xs).2=y at *;generalize amountS x=ax at *;generalize amountS y=ay at *;have s1:=sq_bd a1 (by omega);have s2:=sq_bd (a:=ax.hi) (by omega) a3;have s3:=sq_bd b1 (by omega);have s4:=sq_bd (a:=ay.hi) (by omega) b3;have w1:IntKind.i64.wrap (ax.lo*ax.lo)=ax.lo*ax.lo:=wrap64 (by omega) (by omega);have w2:IntKind.i64.wrap (ax.hi*ax.hi)=ax.hi*ax.hi:=wrap64 (by omega) (by omega);have w3:IntKind.i64.wrap (ay.lo*ay.lo)=ay.lo*ay.lo:=wrap64 (by omega) (by omega);have w4:IntKind.i64.wrap (ay.hi*ay.hi)=ay.hi*ay.hi:=wrap64 (by omega) (by omega);have w5:IntKind.i64.wrap (ax.lo*ax.lo+ay.lo*ay.lo)=ax.lo*ax.lo+ay.lo*ay.lo:=wrap64 (by omega) (by omega);have w6:IntKind.i64.wrap (ax.hi*ax.hi+ay.hi*ay.hi)=ax.hi*ax.hi+ay.hi*ay.hi:=wrap64 (by omega) (by omega);clear a1 a2 a3 b1 b2 b3 s1 s2 s3 s4;simp only [Span.cells] at hx hy sx sy
 by_cases k2:f.kind=2
 ·rw [if_pos k2];obtain ⟨k,hk,ec,gc⟩:=getB (hc k2).1 (hc k2).2;have vc:validB l.xs[k]=true:=hvv _ (List.getElem_mem hk);have ht:=fun H=>call_pureC (G:=G) (n:=n+3) (H:=H) (caps:=[]) (ps:=[.agg (l.xs[i]).cells,.agg (l.xs[j]).cells,.agg (l.xs[k]).cells]) sh133 (e133 n _ _ _ va vb vc);rw [gc];simp only [Box.cells,Span.cells,List.map_cons,List.map_nil] at ht;clear va vb vc hvv hc gc;generalize turnS l.xs[i] l.xs[j] l.xs[k]=T at *;(repeat' first|simp [*,initEnv,c105,Fact.cells,Box.cells,Span.cells]|(apply wpIf_two<;>intro _ h<;>try simp [-Nat.le_zero_eq] at h))
 rw [if_neg k2];clear va vb hvv hc
 by_cases k5:f.kind=5
 ·rw [if_pos k5];(repeat' first|simp [*,initEnv,c105,Fact.cells,Box.cells,Span.cells]|(apply wpIf_two<;>intro _ h<;>try simp [-Nat.le_zero_eq] at h))
 rw [if_neg k5]
 by_cases k6:f.kind=6
 ·rw [if_pos k6];(repeat' first|simp [*,initEnv,c105,Fact.cells,Box.cells,Span.cells]|(apply wpIf_two<;>intro _ h<;>try simp [-Nat.le_zero_eq] at h))
 rw [if_neg k6];(repeat' first|simp [*,initEnv,c105,Fact.cells,Box.cells,Span.cells,distS]|(apply wpIf_two<;>intro _ h<;>try simp [-Nat.le_zero_eq] at h))
theorem vec_neg {s:Span} (h:inS s 2097152):IntKind.i64.wrap (0 - s.lo)=- s.lo∧IntKind.i64.wrap (0 - s.hi)=- s.hi∧IntKind.i64.wrap (- s.lo)=- s.lo∧IntKind.i64.wrap (- s.hi)=- s.hi:=by
 unfold inS at h;exact ⟨by rw [wrap64 (by omega) (by omega)];omega,by rw [wrap64 (by omega) (by omega)];omega,wrap64 (by omega) (by omega),wrap64 (by omega) (by omega)⟩
theorem sh102:G.shared 102=false:=by decide
theorem e102 (n:Nat) (f:Fact) (l:Sl Box) (hr:ROk f l.xs) (hq:0≤f.quarter∧f.quarter≤3):callP G (n+2) 102 [.agg f.cells,l.pv Box.cells 4]=some (.tup [.agg (aheadS f.quarter (vecS f l.xs).1 (vecS f l.xs).2).1.cells,.agg (aheadS f.quarter (vecS f l.xs).1 (vecS f l.xs).2).2.cells]):=by
 refine callP_of (ext_none _) rfl g102 rfl ?_
 obtain ⟨i,j,hi,hj,ea,eb,hv,hx,hy⟩:=hr.vec n;obtain ⟨v1,v2⟩:=vec_inS hr;have n1:=vec_neg v1;have n2:=vec_neg v2;clear hr hv v1 v2;generalize (vecS f l.xs).1=x at *;generalize (vecS f l.xs).2=y at *;obtain ⟨w1,w2,w3,w4⟩:=n1;obtain ⟨w5,w6,w7,w8⟩:=n2;simp only [Span.cells] at hx hy;have hq:f.quarter=0∨f.quarter=1∨f.quarter=2∨f.quarter=3:=by omega
 rcases hq with q|q|q|q
 ·rw [q];(repeat' first|simp [*,initEnv,c102,Fact.cells,Box.cells,Span.cells,aheadS,beside]|(apply wpIf_two<;>intro _ h<;>try simp [-Nat.le_zero_eq] at h))
 ·rw [q];(repeat' first|simp [*,initEnv,c102,Fact.cells,Box.cells,Span.cells,aheadS,beside]|(apply wpIf_two<;>intro _ h<;>try simp [-Nat.le_zero_eq] at h))
 ·rw [q];(repeat' first|simp [*,initEnv,c102,Fact.cells,Box.cells,Span.cells,aheadS,beside]|(apply wpIf_two<;>intro _ h<;>try simp [-Nat.le_zero_eq] at h))
 ·rw [q];(repeat' first|simp [*,initEnv,c102,Fact.cells,Box.cells,Span.cells,aheadS,beside]|(apply wpIf_two<;>intro _ h<;>try simp [-Nat.le_zero_eq] at h))
theorem sh58:G.shared 58=false:=by decide
theorem e58 (n:Nat) (f:Fact) (l:Sl Box) (hr:ROk f l.xs) (hq:f.kind=3→0≤f.quarter∧f.quarter≤3):callP G (n+6) 58 [.agg f.cells,l.pv Box.cells 4]=some (.bool (bareS f l.xs).1):=by
 refine callP_of (ext_none _) rfl g58 rfl ?_
 obtain ⟨i,j,hi,hj,ea,eb,hv,hx,hy⟩:=hr.vec (n+4);obtain ⟨sx,sy⟩:=hr.amt (n+4);have hval:=fun H=>call_pureC (G:=G) (n:=n+5) (H:=H) (caps:=[]) (ps:=[.agg f.cells,l.pv Box.cells 4]) sh105 (e105 (n+1) f l hr);have hah:=fun hq H=>call_pureC (G:=G) (n:=n+5) (H:=H) (caps:=[]) (ps:=[.agg f.cells,l.pv Box.cells 4]) sh102 (e102 (n+3) f l hr hq);have hsz:=fun (s:Span) (hs:inS s 4194304) H=>call_pureC (G:=G) (n:=n+5) (H:=H) (caps:=[]) (ps:=[.agg s.cells]) sh103 (e103 (n+4) s hs);obtain ⟨v1,v2⟩:=vec_inS hr;clear hr hv;rw [bareS_vec];unfold valuesS at hval;simp only [Fact.cells,List.map_cons,List.map_nil] at hval hah
 by_cases k3:f.kind=3
 ·have hah:=hah (hq k3);have hw:inS (aheadS f.quarter (vecS f l.xs).1 (vecS f l.xs).2).2 4194304:=by
   unfold aheadS;(repeat' split)<;>first|exact inS_mono v1 (by omega)|exact inS_mono v2 (by omega)
  have hsz:=hsz _ hw;simp only [k3,ea,eb] at hah;rw [if_neg (by rw [k3];omega),if_pos k3];simp only [Span.cells,List.map_cons,List.map_nil] at hsz hah;clear hval hx hy sx sy v1 v2 hq hw;generalize (aheadS f.quarter (vecS f l.xs).1 (vecS f l.xs).2).1=u at *;generalize (aheadS f.quarter (vecS f l.xs).1 (vecS f l.xs).2).2=w at *;generalize hA:amountS w=aw at *;(repeat' first|simp [*,initEnv,c58,Fact.cells,Span.cells,quarterS]|(apply wpIf_two<;>intro _ h<;>try simp [-Nat.le_zero_eq] at h))
 clear hah hsz v1 v2 hq
 by_cases k4:f.kind=4
 ·rw [if_neg (by omega),if_neg k3,if_pos k4];simp only [Span.cells] at hx hy sx sy;clear hval;generalize (vecS f l.xs).1=x at *;generalize (vecS f l.xs).2=y at *;generalize amountS x=ax at *;generalize amountS y=ay at *;(repeat' first|simp [*,initEnv,c58,Fact.cells,Box.cells,Span.cells,nearS']|(apply wpIf_two<;>intro _ h<;>try simp [-Nat.le_zero_eq] at h))
  all_goals omega
 clear hx hy sx sy;have hb:(if f.kind=2 then valuedS f.span (turnS l.xs[f.a.toNat]! l.xs[f.b.toNat]! l.xs[f.c.toNat]!) else if f.kind=3 then quarterS (aheadS f.quarter (vecS f l.xs).1 (vecS f l.xs).2).1 (aheadS f.quarter (vecS f l.xs).1 (vecS f l.xs).2).2
   else if f.kind=4 then nearS' f.span (amountS (vecS f l.xs).1) (amountS (vecS f l.xs).2) else if f.kind=5 then valuedS f.span (vecS f l.xs).1 else if f.kind=6 then valuedS f.span (vecS f l.xs).2 else valuedS f.span (distS (amountS (vecS f l.xs).1) (amountS (vecS f l.xs).2)))=valuedS f.span (valuesS f l.xs):=by
  unfold valuesS;rw [if_neg k3,if_neg k4];(repeat' split)<;>rfl
 rw [hb];clear hb;have hv:valuesS f l.xs=if f.kind=2 then turnS l.xs[f.a.toNat]! l.xs[f.b.toNat]! l.xs[f.c.toNat]! else if f.kind=5 then (vecS f l.xs).1 else if f.kind=6 then (vecS f l.xs).2 else distS (amountS (vecS f l.xs).1) (amountS (vecS f l.xs).2):=rfl
 rw [← hv] at hval;clear hv;generalize valuesS f l.xs=v at *;simp only [Span.cells,ea,eb] at hval;(repeat' first|simp [*,initEnv,c58,Fact.cells,Span.cells,valuedS]|(apply wpIf_two<;>intro _ h<;>try simp [-Nat.le_zero_eq] at h))
theorem sh60:G.shared 60=false:=by decide
theorem e60 (n:Nat) (f:Fact) (l:Sl Box) (hr:ROk f l.xs) (hq:f.kind=3→0≤f.quarter∧f.quarter≤3):callP G (n+6) 60 [.agg f.cells,l.pv Box.cells 4]=some (.bool (bareS f l.xs).2):=by
 refine callP_of (ext_none _) rfl g60 rfl ?_
 obtain ⟨i,j,hi,hj,ea,eb,hv,hx,hy⟩:=hr.vec (n+4);obtain ⟨sx,sy⟩:=hr.amt (n+4);have hval:=fun H=>call_pureC (G:=G) (n:=n+5) (H:=H) (caps:=[]) (ps:=[.agg f.cells,l.pv Box.cells 4]) sh105 (e105 (n+1) f l hr);have hah:=fun hq H=>call_pureC (G:=G) (n:=n+5) (H:=H) (caps:=[]) (ps:=[.agg f.cells,l.pv Box.cells 4]) sh102 (e102 (n+3) f l hr hq);have hsz:=fun (s:Span) (hs:inS s 4194304) H=>call_pureC (G:=G) (n:=n+5) (H:=H) (caps:=[]) (ps:=[.agg s.cells]) sh103 (e103 (n+4) s hs);obtain ⟨v1,v2⟩:=vec_inS hr;clear hr hv;rw [bareS_vec];unfold valuesS at hval;simp only [Fact.cells,List.map_cons,List.map_nil] at hval hah
 by_cases k3:f.kind=3
 ·have hah:=hah (hq k3);have hw:inS (aheadS f.quarter (vecS f l.xs).1 (vecS f l.xs).2).2 4194304:=by
   unfold aheadS;(repeat' split)<;>first|exact inS_mono v1 (by omega)|exact inS_mono v2 (by omega)
  have hsz:=hsz _ hw;simp only [k3,ea,eb] at hah;rw [if_neg (by rw [k3];omega),if_pos k3];simp only [Span.cells,List.map_cons,List.map_nil] at hsz hah;clear hval hx hy sx sy v1 v2 hq hw;generalize (aheadS f.quarter (vecS f l.xs).1 (vecS f l.xs).2).1=u at *;generalize (aheadS f.quarter (vecS f l.xs).1 (vecS f l.xs).2).2=w at *;generalize hA:amountS w=aw at *;(repeat' first|simp [*,initEnv,c60,Fact.cells,Span.cells,quarterS]|(apply wpIf_two<;>intro _ h<;>try simp [-Nat.le_zero_eq] at h))
 clear hah hsz v1 v2 hq
 by_cases k4:f.kind=4
 ·rw [if_neg (by omega),if_neg k3,if_pos k4];simp only [Span.cells] at hx hy sx sy;clear hval;generalize (vecS f l.xs).1=x at *;generalize (vecS f l.xs).2=y at *;generalize amountS x=ax at *;generalize amountS y=ay at *;(repeat' first|simp [*,initEnv,c60,Fact.cells,Box.cells,Span.cells,nearS']|(apply wpIf_two<;>intro _ h<;>try simp [-Nat.le_zero_eq] at h))
  all_goals omega
 clear hx hy sx sy;have hb:(if f.kind=2 then valuedS f.span (turnS l.xs[f.a.toNat]! l.xs[f.b.toNat]! l.xs[f.c.toNat]!) else if f.kind=3 then quarterS (aheadS f.quarter (vecS f l.xs).1 (vecS f l.xs).2).1 (aheadS f.quarter (vecS f l.xs).1 (vecS f l.xs).2).2
   else if f.kind=4 then nearS' f.span (amountS (vecS f l.xs).1) (amountS (vecS f l.xs).2) else if f.kind=5 then valuedS f.span (vecS f l.xs).1 else if f.kind=6 then valuedS f.span (vecS f l.xs).2 else valuedS f.span (distS (amountS (vecS f l.xs).1) (amountS (vecS f l.xs).2)))=valuedS f.span (valuesS f l.xs):=by
  unfold valuesS;rw [if_neg k3,if_neg k4];(repeat' split)<;>rfl
 rw [hb];clear hb;have hv:valuesS f l.xs=if f.kind=2 then turnS l.xs[f.a.toNat]! l.xs[f.b.toNat]! l.xs[f.c.toNat]! else if f.kind=5 then (vecS f l.xs).1 else if f.kind=6 then (vecS f l.xs).2 else distS (amountS (vecS f l.xs).1) (amountS (vecS f l.xs).2):=rfl
 rw [← hv] at hval;clear hv;generalize valuesS f l.xs=v at *;simp only [Span.cells,ea,eb] at hval;(repeat' first|simp [*,initEnv,c60,Fact.cells,Span.cells,valuedS]|(apply wpIf_two<;>intro _ h<;>try simp [-Nat.le_zero_eq] at h))
theorem fine_q {f:Fact} {l:List Box} (h:fineB f l=true):f.kind=3→0≤f.quarter∧f.quarter≤3:=fun hk=>by
 unfold fineB at h;rw [Bool.and_eq_true] at h;have:=(formedB_iff f l.length).1 h.2;omega
theorem sh55:G.shared 55=false:=by decide
theorem e55 (n:Nat) (f:Fact) (l:Sl Box) (hr:ROk f l.xs) (hq:f.kind=3→0≤f.quarter∧f.quarter≤3):callP G (n+7) 55 [.agg f.cells,l.pv Box.cells 4]=some (.bool (failsS f l.xs)):=by
 refine callP_of (ext_none _) rfl g55 rfl ?_
 have h1:=fun H=>call_pureC (G:=G) (n:=n+6) (H:=H) (caps:=[]) (ps:=[.agg f.cells,l.pv Box.cells 4]) sh58 (e58 n f l hr hq);have h2:=fun H=>call_pureC (G:=G) (n:=n+6) (H:=H) (caps:=[]) (ps:=[.agg f.cells,l.pv Box.cells 4]) sh60 (e60 n f l hr hq);simp only [Fact.cells,List.map_cons,List.map_nil] at h1 h2;clear hr hq;unfold failsS;generalize bareS f l.xs=b at *
 cases hn:f.nt
 ·simp only [hn] at h1 h2;(repeat' first|simp [*,initEnv,c55,Fact.cells]|(apply wpIf_two<;>intro _ h<;>try simp [-Nat.le_zero_eq] at h))
 ·simp only [hn] at h1 h2;(repeat' first|simp [*,initEnv,c55,Fact.cells]|(apply wpIf_two<;>intro _ h<;>try simp [-Nat.le_zero_eq] at h))
end Go.Proofs.YtmghcpdpilgplaaGreat.Vm
