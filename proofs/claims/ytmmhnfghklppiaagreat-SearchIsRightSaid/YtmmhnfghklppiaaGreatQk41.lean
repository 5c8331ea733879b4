/- Prove, CheckProof and CheckTree: the program's, walked. ref3.Fits, CheckTree, Against, Decide, CheckProof: walked. -/
import Derived.Test.YtmmhnfghklppiaaGreatQk33
import Derived.Test.YtmmhnfghklppiaaGreatQk27
import Derived.Test.YtmmhnfghklppiaaGreatQk34
import Derived.Test.YtmmhnfghklppiaaGreatQk28
import Derived.Test.YtmmhnfghklppiaaGreatQk40
namespace Go.Proofs.YtmmhnfghklppiaaGreat.Vm
open Go
set_option linter.unusedSimpArgs false
set_option linter.unusedVariables false
set_option maxHeartbeats 8000000
set_option maxRecDepth 4000
def zbR (r:Int×Int) (T:List Node):List Node×Int:=if r.2≠0 then ([],r.2) else if r.1≠2 then ([],5) else (T,0)
def za3 (p:Problem) (f:Fact) (gs:List (List Nat)) (k:Nat):List Node:=zbB (zas p f true) gs[k]! (muL p.boxes.xs+1) p.boxes.xs
structure ProveIn (p:Problem) (f:Fact) (gs:List (List Nat)) (k:Nat):Prop where
 ok:zM p f=0
 gi:GuiltIn (zas p f true) gs k
 mu:muL p.boxes.xs<=600
 tr:zgK (zas p f true) (za3 p f gs k)
theorem sh17:G.shared 17=false:=by decide
theorem e17 (n:Nat) (p:Problem) (f:Fact) (D1 D2 D3:FoundD) (e1 e2 e3:Int) (h:zM p f=0->FindOut p D1 e1/\FindOut (zas p f false) D2 e2/\FindOut (zas p f true) D3 e3) (gs:List (List Nat)) (k:Nat) (hg:zaS (zM p f) D1 e1 D2 e2 D3 e3=(2,0)->ProveIn p f gs k):zH G (n+700) 17 [.agg p.cells,.agg f.cells]=some (.tup [(Sl.of (zbR (zaS (zM p f) D1 e1 D2 e2 D3 e3) (za3 p f gs k)).1).pv Node.cells 4,.int .i64 (zbR (zaS (zM p f) D1 e1 D2 e2 D3 e3) (za3 p f gs k)).2]):=by
 refine zy (zw _) rfl g17 rfl ?_
 have hd:=fun H=>ze (G:=G) (n:=n+699) (H:=H) (caps:=[]) (ps:=[.agg p.cells,.agg f.cells]) sh15 (e15 (n+647) p f D1 D2 D3 e1 e2 e3 h);obtain ⟨⟨a,e⟩,hr⟩:∃ r,zaS (zM p f) D1 e1 D2 e2 D3 e3=r:=⟨_,rfl⟩
 rw [hr] at hd hg ⊢;simp only [Problem.cells,Fact.cells,Span.cells,List.map_cons,List.map_nil] at hd
 by_cases he:e=0
 case neg =>
  have hp:zbR (a,e) (za3 p f gs k)=([],e):=by unfold zbR;rw [if_pos he]
  rw [hp];clear hp hr hg h;(repeat' first|simp [*,za,c17,Problem.cells,Fact.cells,Span.cells]|(apply zb<;>intro _ h<;>try simp [-Nat.le_zero_eq] at h))
 subst he
 by_cases ha:a=2
 case neg =>
  have hp:zbR (a,0) (za3 p f gs k)=([],5):=by unfold zbR;simp [ha]
  rw [hp];clear hp hr hg h;(repeat' first|simp [*,za,c17,Problem.cells,Fact.cells,Span.cells]|(apply zb<;>intro _ h<;>try simp [-Nat.le_zero_eq] at h))
 subst ha;have hp:zbR (2,0) (za3 p f gs k)=(za3 p f gs k,0):=by unfold zbR;simp
 rw [hp];have hi:=hg rfl;obtain ⟨ok,_,_⟩:=zbV (t:=true) hi.ok;have nf:=ok.nf;have hw:=fun H=>ze (G:=G) (n:=n+699) (H:=H) (caps:=[]) (ps:=[.agg p.cells,.agg f.cells,.bool true]) sh49 (e49 (n+697) p f true (by omega));have hrf:=fun H=>ze (G:=G) (n:=n+699) (H:=H) (caps:=[]) (ps:=[.agg (zas p f true).cells]) sh39 (e39 (n+59) (zas p f true) gs k hi.gi hi.mu (Nat.le_trans hi.tr.2 (by decide)));have hT:zf6 (zas p f true) gs k=za3 p f gs k:=rfl;rw [hT] at hrf;generalize za3 p f gs k=T at *;obtain ⟨q,hq⟩:∃ q,zas p f true=q:=⟨_,rfl⟩
 rw [hq] at hw hrf;obtain ⟨qb,qf⟩:=q;simp only [Problem.cells,Fact.cells,Span.cells,List.map_cons,List.map_nil] at hw hrf;clear hp hr hg h hi hT hq ok nf;(repeat' first|simp [*,za,c17,Problem.cells,Fact.cells,Span.cells]|(apply zb<;>intro _ h<;>try simp [-Nat.le_zero_eq] at h))
def zcA (p:Problem) (f:Fact) (tree:List Node):Int:=if zM p f≠0 then zM p f else if 262144 < tree.length then 2 else if zcL (zas p f true).facts.xs p.boxes.xs tree=true then 0 else 8
theorem sh19:G.shared 19=false:=by decide
theorem e19 (n:Nat) (p:Problem) (f:Fact) (tree:Sl Node) (htl:tree.xs.length < 4000000000000000000) (hmu:zM p f=0->muL p.boxes.xs<=600):zH G (n+700) 19 [.agg p.cells,.agg f.cells,tree.pv Node.cells 4]=some (.int .i64 (zcA p f tree.xs)):=by
 refine zy (zw _) rfl g19 rfl ?_
 have hd:=fun H=>ze (G:=G) (n:=n+699) (H:=H) (caps:=[]) (ps:=[.agg p.cells,.agg f.cells]) sh47 (e47 (n+695) p f);simp only [Problem.cells,Fact.cells,Span.cells,List.map_cons,List.map_nil] at hd
 by_cases he:zM p f=0
 case neg =>
  have hp:zcA p f tree.xs=zM p f:=by unfold zcA;rw [if_pos he]
  rw [hp];generalize zM p f=c at *;clear hp hmu;(repeat' first|simp [*,za,c19,Problem.cells,Fact.cells,Span.cells]|(apply zb<;>intro _ h<;>try simp [-Nat.le_zero_eq] at h))
 by_cases ht:262144 < tree.xs.length
 ·have hp:zcA p f tree.xs=2:=by unfold zcA;rw [if_neg (by simp [he]),if_pos ht]
  have htI:(262144:Int) < tree.xs.length:=by omega
  rw [hp];rw [he] at hd;clear hp hmu he;(repeat' first|simp [*,za,c19,Problem.cells,Fact.cells,Span.cells]|(apply zb<;>intro _ h<;>try simp [-Nat.le_zero_eq] at h))
 obtain ⟨ok,okq,_⟩:=zbV (t:=true) he;have nf:=ok.nf;have htI:¬ (262144:Int) < tree.xs.length:=by omega
 have hw:=fun H=>ze (G:=G) (n:=n+699) (H:=H) (caps:=[]) (ps:=[.agg p.cells,.agg f.cells,.bool true]) sh49 (e49 (n+697) p f true (by omega));have hf:=fun H=>ze (G:=G) (n:=n+699) (H:=H) (caps:=[]) (ps:=[.agg (zas p f true).cells,tree.pv Node.cells 4]) sh46 (e46 (n+59) (zas p f true) okq tree htl (hmu he));have hb:(zas p f true).boxes.xs=p.boxes.xs:=rfl;have hp:zcA p f tree.xs=if zcL (zas p f true).facts.xs p.boxes.xs tree.xs=true then 0 else 8:=by unfold zcA;rw [if_neg (by simp [he]),if_neg ht]
 rw [hb] at hf;rw [hp];rw [he] at hd;generalize zcL (zas p f true).facts.xs p.boxes.xs tree.xs=B at *;obtain ⟨q,hq⟩:∃ q,zas p f true=q:=⟨_,rfl⟩
 rw [hq] at hw hf;obtain ⟨qb,qf⟩:=q;simp only [Problem.cells,Fact.cells,Span.cells,List.map_cons,List.map_nil] at hw hf;clear hp hmu he ok okq nf hb hq ht
 cases B
 ·(repeat' first|simp [*,za,c19,Problem.cells,Fact.cells,Span.cells]|(apply zb<;>intro _ h<;>try simp [-Nat.le_zero_eq] at h))
 ·(repeat' first|simp [*,za,c19,Problem.cells,Fact.cells,Span.cells]|(apply zb<;>intro _ h<;>try simp [-Nat.le_zero_eq] at h))
def zfe (p:Problem) (tree:List Node):Int:=if zX p≠0 then zX p else if 262144 < tree.length then 2 else if zcL p.facts.xs p.boxes.xs tree=true then 0 else 8
theorem sh14:G.shared 14=false:=by decide
theorem e14 (n:Nat) (p:Problem) (tree:Sl Node) (htl:tree.xs.length < 4000000000000000000) (hmu:zX p=0->muL p.boxes.xs<=600):zH G (n+700) 14 [.agg p.cells,tree.pv Node.cells 4]=some (.int .i64 (zfe p tree.xs)):=by
 refine zy (zw _) rfl g14 rfl ?_
 have hd:=fun H=>ze (G:=G) (n:=n+699) (H:=H) (caps:=[]) (ps:=[.agg p.cells]) sh45 (e45 (n+696) p);simp only [Problem.cells,List.map_cons,List.map_nil] at hd
 by_cases he:zX p=0
 case neg =>
  have hp:zfe p tree.xs=zX p:=by unfold zfe;rw [if_pos he]
  rw [hp];generalize zX p=c at *;clear hp hmu;(repeat' first|simp [*,za,c14,Problem.cells]|(apply zb<;>intro _ h<;>try simp [-Nat.le_zero_eq] at h))
 by_cases ht:262144 < tree.xs.length
 ·have hp:zfe p tree.xs=2:=by unfold zfe;rw [if_neg (by simp [he]),if_pos ht]
  have htI:(262144:Int) < tree.xs.length:=by omega
  rw [hp];rw [he] at hd;clear hp hmu he;(repeat' first|simp [*,za,c14,Problem.cells]|(apply zb<;>intro _ h<;>try simp [-Nat.le_zero_eq] at h))
 have ok:=check_ok.1 he;have htI:¬ (262144:Int) < tree.xs.length:=by omega
 have hf:=fun H=>ze (G:=G) (n:=n+699) (H:=H) (caps:=[]) (ps:=[.agg p.cells,tree.pv Node.cells 4]) sh46 (e46 (n+59) p ok tree htl (hmu he));have hp:zfe p tree.xs=if zcL p.facts.xs p.boxes.xs tree.xs=true then 0 else 8:=by unfold zfe;rw [if_neg (by simp [he]),if_neg ht]
 rw [hp];rw [he] at hd;generalize zcL p.facts.xs p.boxes.xs tree.xs=B at *;simp only [Problem.cells,List.map_cons,List.map_nil] at hf;clear hp hmu he ok ht
 cases B
 ·(repeat' first|simp [*,za,c14,Problem.cells]|(apply zb<;>intro _ h<;>try simp [-Nat.le_zero_eq] at h))
 ·(repeat' first|simp [*,za,c14,Problem.cells]|(apply zb<;>intro _ h<;>try simp [-Nat.le_zero_eq] at h))
end Go.Proofs.YtmmhnfghklppiaaGreat.Vm
