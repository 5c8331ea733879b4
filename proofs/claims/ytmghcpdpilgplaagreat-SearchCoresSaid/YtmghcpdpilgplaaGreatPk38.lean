/- The chapter's examples: head() returns true, by the machine's own runs in the kernel. The law SearchCores, on the machine. -/
import Derived.Test.YtmghcpdpilgplaaGreatPk14
import Derived.Test.YtmghcpdpilgplaaGreatPk37
import Derived.Test.YtmghcpdpilgplaaGreatPk9
import Derived.KernelRfl
import Derived.Test.YtmghcpdpilgplaaGreatPk34
import Derived.Test.YtmghcpdpilgplaaGreatPk36
import Derived.Test.YtmghcpdpilgplaaGreatPk26
namespace Go.Proofs.YtmghcpdpilgplaaGreat.Vm
open Go
set_option maxHeartbeats 4000000
def iP (n:Int):PV:=.int .i64 n
def pP (a b c d:Int):PV:=.slice false 2 [[iP a,iP b],[iP c,iP d]]
def exB (a b c d:Int):List PV:=[.int .i64 a,.int .i64 b,.int .i64 c,.int .i64 d]
def exF (id kind lo hi:Int):List PV:=[.int .i64 id,.int .i64 kind,.bool false,.int .i64 0,.int .i64 1,.int .i64 0,.int .i64 lo,.int .i64 hi,.int .i64 0]
def exN:List PV:=[.int .i64 0,.int .i64 6,.bool true,.int .i64 0,.int .i64 1,.int .i64 0,.int .i64 1,.int .i64 5,.int .i64 0]
def exPr (fs:List (List PV)):PV:=.agg [.slice false 4 [exB 0 0 0 0,exB (-5) 5 (-5) 5],.slice false 9 fs]
def exP:PV:=exPr [exF 4 1 25 25,exF 7 3 0 0]
def exQ:PV:=exPr [exF 4 1 25 25,exF 7 3 0 0,exF 9 5 2 2]
theorem ex_run:callP G 59 44 []=some exP:=by kernel_rfl
theorem narrow_run:callP G 59 22 [exP]=some (.tup [.slice false 4 [exB 0 0 0 0,exB 3 5 (-4) 4],.int .i64 0]):=by kernel_rfl
theorem count_run:callP G 59 32 [exP]=some (.tup [.int .i64 3,.int .i64 0]):=by kernel_rfl
theorem hull_run:callP G 59 45 [exP]=some (.tup [.slice false 4 [exB 0 0 0 0,exB 4 5 (-3) 3],.int .i64 0]):=by kernel_rfl
theorem dec_run2:callP G 59 46 [exP,.agg (exF 0 1 20 30)]=some (.tup [.int .i64 2,.int .i64 0]):=by kernel_rfl
theorem with_run:callP G 59 47 [exP,.agg (exF 9 5 2 2)]=some exQ:=by kernel_rfl
def fr0:PV:=(.tup [(.agg [(.bool false),(.slice false 1 [[(.ptr false [(.slice false 1 [[(iP 0)],[(iP 1)]]),(iP 3),(.slice false 4 [[(pP 0 0 4 (-3)),(pP 0 0 4 (-3)),(pP 0 0 4 (-3)),(pP 0 0 4 (-3))],[(pP 0 0 4 (-3)),(pP 0 0 5 0),(pP 0 0 4 (-3)),(pP 0 0 4 3)]]),(pP 0 0 4 (-3))] 0)]])]),(iP 0)])
theorem find_run0:callP G 58 77 [exP]=some fr0:=by kernel_rfl
def fr1:PV:=(.tup [(.agg [(.bool false),(.slice false 1 [[(.ptr false [(.slice false 1 [[(iP 0)],[(iP 1)]]),(iP 1),(.slice false 4 [[(pP 0 0 4 3),(pP 0 0 4 3),(pP 0 0 4 3),(pP 0 0 4 3)],[(pP 0 0 4 3),(pP 0 0 4 3),(pP 0 0 4 3),(pP 0 0 4 3)]]),(pP 0 0 4 3)] 0)]])]),(iP 0)])
theorem find_run1:callP G 58 77 [exPr [exF 4 1 25 25,exF 7 3 0 0,exF 0 6 1 5]]=some fr1:=by kernel_rfl
def fr2:PV:=(.tup [(.agg [(.bool false),(.slice false 1 [[(.ptr false [(.slice false 1 [[(iP 0)],[(iP 1)]]),(iP 2),(.slice false 4 [[(pP 0 0 4 (-3)),(pP 0 0 4 (-3)),(pP 0 0 4 (-3)),(pP 0 0 4 (-3))],[(pP 0 0 4 (-3)),(pP 0 0 5 0),(pP 0 0 4 (-3)),(pP 0 0 5 0)]]),(pP 0 0 4 (-3))] 0)]])]),(iP 0)])
theorem find_run2:callP G 58 77 [exPr [exF 4 1 25 25,exF 7 3 0 0,exN]]=some fr2:=by kernel_rfl
def fr3:PV:=(.tup [(.agg [(.bool true),.nils]),(iP 0)])
theorem find_run3:callP G 58 69 [exQ]=some fr3:=by kernel_rfl
def fr4:PV:=(.tup [(.agg [(.bool false),(.slice false 1 [[(.ptr false [(.slice false 1 [[(iP 0)],[(iP 1)]]),(iP 5),(.slice false 4 [[(pP 0 0 2 (-2)),(pP 0 0 2 (-2)),(pP 0 0 2 (-2)),(pP 0 0 2 (-2))],[(pP 0 0 2 (-2)),(pP 0 0 2 (-2)),(pP 0 0 2 (-2)),(pP 0 0 2 2)]]),(pP 0 0 2 (-2))] 0)]])]),(iP 0)])
theorem find_run4:callP G 58 77 [exPr [exF 7 3 0 0,exF 9 5 2 2]]=some fr4:=by kernel_rfl
def fr5:PV:=(.tup [(.agg [(.bool true),.nils]),(iP 0)])
theorem find_run5:callP G 58 77 [exPr [exF 4 1 25 25,exF 9 5 2 2]]=some fr5:=by kernel_rfl
def fr6:PV:=(.tup [(.agg [(.bool false),(.slice false 1 [[(.ptr false [(.slice false 1 [[(iP 0)],[(iP 1)]]),(iP 12),(.slice false 4 [[(pP 0 0 (-5) 0),(pP 0 0 (-5) 0),(pP 0 0 (-5) 0),(pP 0 0 (-5) 0)],[(pP 0 0 (-5) 0),(pP 0 0 5 0),(pP 0 0 0 (-5)),(pP 0 0 0 5)]]),(pP 0 0 (-5) 0)] 0)]])]),(iP 0)])
theorem find_run6:callP G 58 77 [exPr [exF 4 1 25 25]]=some fr6:=by kernel_rfl
def tabD:Tab:=[(77,[exP],fr0),(77,[exPr [exF 4 1 25 25,exF 7 3 0 0,exF 0 6 1 5]],fr1),(77,[exPr [exF 4 1 25 25,exF 7 3 0 0,exN]],fr2)]
theorem tabD_ok:∀ e∈tabD,callP G 58 e.1 e.2.1=some e.2.2:=all_cons find_run0 <| all_cons find_run1 <| all_cons find_run2 all_nil
theorem dec_run1:callP G 59 46 [exP,.agg (exF 0 6 1 5)]=some (.tup [.int .i64 3,.int .i64 0]):=callP_tab (n:=58) (fs:=[77]) rfl rfl tabD_ok (by kernel_rfl)
def tabC:Tab:=[(69,[exQ],fr3),(77,[exPr [exF 7 3 0 0,exF 9 5 2 2]],fr4),(77,[exPr [exF 4 1 25 25,exF 9 5 2 2]],fr5),(77,[exPr [exF 4 1 25 25]],fr6)]
theorem tabC_ok:∀ e∈tabC,callP G 58 e.1 e.2.1=some e.2.2:=all_cons find_run3 <| all_cons find_run4 <| all_cons find_run5 <| all_cons find_run6 all_nil
theorem core_run:callP G 59 35 [exQ]=some (.tup [.slice false 1 [[.int .i64 4],[.int .i64 9]],.int .i64 0]):=callP_tab (n:=58) (fs:=[77,69]) rfl rfl tabC_ok (by kernel_rfl)
def tabH:Tab:=[(44,[],exP),(22,[exP],.tup [.slice false 4 [exB 0 0 0 0,exB 3 5 (-4) 4],.int .i64 0]),(32,[exP],.tup [.int .i64 3,.int .i64 0]),(45,[exP],.tup [.slice false 4 [exB 0 0 0 0,exB 4 5 (-3) 3],.int .i64 0]),
 (46,[exP,.agg (exF 0 6 1 5)],.tup [.int .i64 3,.int .i64 0]),(46,[exP,.agg (exF 0 1 20 30)],.tup [.int .i64 2,.int .i64 0]),(47,[exP,.agg (exF 9 5 2 2)],exQ),(35,[exQ],.tup [.slice false 1 [[.int .i64 4],[.int .i64 9]],.int .i64 0])]
theorem tabH_ok:∀ e∈tabH,callP G 59 e.1 e.2.1=some e.2.2:=all_cons ex_run <| all_cons narrow_run <| all_cons count_run <| all_cons hull_run <| all_cons dec_run1 <| all_cons dec_run2 <| all_cons with_run <| all_cons core_run all_nil
theorem head_run:callP G 60 9 []=some (.bool true):=callP_tab (n:=59) (fs:=[44,22,32,45,46,47,35]) rfl rfl tabH_ok (by kernel_rfl)
set_option maxRecDepth 4000
theorem all_E:∃ E:Problem→Int,∀ q,∃ D e nS hS oS ns cs,SolvesAll q D e (E q) nS hS oS ns cs:=by
 have h:∀ q:Problem,∃ E,∃ D e nS hS oS ns cs,SolvesAll q D e E nS hS oS ns cs:=fun q=>by
  obtain ⟨D,e,E,nS,hS,oS,ns,cs,h⟩:=solves_sem q;exact ⟨E,D,e,nS,hS,oS,ns,cs,h⟩
 exact ⟨fun q=>Classical.choose (h q),fun q=>Classical.choose_spec (h q)⟩
theorem ans_of {p:Problem} {D:FoundD} {e E:Int} {nS:Sl Int} {hS:Sl Box} {oS:Sl Pt} {ns:List Nat} {cs:List (List Pt)} (h:SolvesAll p D e E nS hS oS ns cs):E=ansE D e:=by
 rw [← h.same];unfold solveF ansE
 by_cases h1:e=0
 ·subst h1
  cases hD:D.empty<;>simp [hD]
 ·simp [h1]
theorem core_ins (p:Problem):∃ (E0:Int) (E:List Int→Int),CoreIn p E0 E∧CoreRIn p E0 E:=by
 obtain ⟨E,hE⟩:=all_E
 refine ⟨E p,fun o=>E (pickR (onlyB o) p),⟨?_,fun ok o=>?_⟩,⟨?_,fun ok o=>?_⟩⟩
 ·obtain ⟨D,e,nS,hS,oS,ns,cs,h⟩:=hE p;exact ⟨D,e,h.so,ans_of h⟩
 ·obtain ⟨D,e,nS,hS,oS,ns,cs,h⟩:=hE (pickR (onlyB o) p);have hq:=check_ok.2 (pickR_ok (q:=onlyB o) ok);rcases h.so with ⟨h0,_⟩|⟨_,hf⟩
  ·exact absurd hq h0
  ·exact ⟨D,e,hf.congr (by simp [pickP,pickR]) (by simp [pickP,pickR]),ans_of h⟩
 ·obtain ⟨D,e,nS,hS,oS,ns,cs,h⟩:=hE p;exact ⟨nS,hS,oS,h.sr⟩
 ·obtain ⟨D,e,nS,hS,oS,ns,cs,h⟩:=hE (pickR (onlyB o) p);exact ⟨nS,hS,oS,h.sr⟩
theorem coreF_len (E0:Int) (E:List Int→Int) (ids:List Int):(coreF E0 E ids).1.length≤ids.length:=by
 unfold coreF
 split
 ·simp
 ·split
  ·simp
  ·cases h:coreK E [] ids with
   | none=>simp
   | some l=>have:=coreK_len h;simpa using this
theorem sh39:G.shared 39=false:=by decide
theorem e39 (n:Nat) (p q:Problem) (hb:p.boxes.xs=q.boxes.xs) (hf:p.facts.xs=q.facts.xs) (hl:p.boxes.xs.length≤100) (hn:p.facts.xs.length≤100):callP G (n+2) 39 [.agg p.cells,.agg q.cells]=some (.bool true):=by
 refine callP_of (ext_none _) rfl g39 rfl ?_
 obtain ⟨pb,pf⟩:=p;obtain ⟨qb,qf⟩:=q;simp only at hb hf hl hn;have hc:=fun H=>call_pureC (G:=G) (n:=n+1) (H:=H) (caps:=[]) (ps:=[pb.pv Box.cells 4,qb.pv Box.cells 4]) sh27 (e27 n pb qb hb hl);simp only [List.map_cons,List.map_nil] at hc;have hlb:qf.xs.length=pf.xs.length:=by rw [hf]
 have hg:Hide (∀ i (h1:i < pf.xs.length) (h2:i < qf.xs.length),qf.xs[i]=pf.xs[i]):=⟨fun i h1 h2=>by simp only [hf]⟩
 clear hb hf hl;(repeat' first|simp [*,initEnv,c39,Problem.cells]|(apply wpIf_two<;>intro _ h<;>try simp [-Nat.le_zero_eq] at h))
 refine wp_loopF [(4,4),(6,6),(23,40)] (fun (i:Nat) env H=>env 6=.pure (.int .i64 i)∧i≤pf.xs.length) (fun i=>pf.xs.length - i) 0 ?_ ?_ ?_ ?_
 ·decide
 ·exact ⟨by simp,by omega⟩
 ·simp only [loopFuel];omega
 rintro i env H ⟨g6,hi⟩
 by_cases hlt:i < pf.xs.length
 ·have w1:IntKind.i64.wrap ((i:Int)+1)=(i+1:Nat):=by rw [wrap64 (by omega) (by omega)];omega
  have hltI:(i:Int) < pf.xs.length:=by omega
  have hlt2:i < qf.xs.length:=by omega
  have ge:=hg.h i hlt hlt2;(repeat' first|simp [*,initEnv,Fact.cells,Span.cells,st_aggEq,cellsEq,isAggV]|(apply wpIf_two<;>intro _ h<;>try simp [-Nat.le_zero_eq] at h));exact ⟨i+1,by omega,by omega,by omega⟩
 ·have hiN:i=pf.xs.length:=by omega
  subst hiN;(repeat' first|simp [*,initEnv]|(apply wpIf_two<;>intro _ h<;>try simp [-Nat.le_zero_eq] at h))
theorem sh_headC:G.shared 9=false:=by decide
theorem d_headC (H:Heap):doCall (calleeOf G 60) H (.pure (.func 9 [])) []=some (.val (.pure (.bool true))):=call_pure (ps:=[]) sh_headC head_run
theorem cores_law (p:Problem) (o:Sl Int) (hb:p.boxes.cold=p.boxes):callP G 61 7 [.agg p.cells,o.pv intF 1]=some (.bool true):=by
 refine callP_of (n:=60) (ext_none _) rfl g7 rfl ?_
 have hh:=d_headC;have hs:=fun H=>call_pureC (G:=G) (n:=60) (H:=H) (caps:=[]) (ps:=[.agg p.cells]) sh21 (e21 57 p);simp only [Problem.cells,List.map_cons,List.map_nil] at hs
 cases hsp:fewB p with
 | false =>
  rw [hsp] at hs;clear hsp hb;(repeat' first|simp [*,initEnv,c7,Problem.cells]|(apply wpIf_two<;>intro _ h<;>try simp [-Nat.le_zero_eq] at h))
 | true =>
  rw [hsp] at hs;clear hsp
  by_cases n1:(4:Int) < p.boxes.xs.length
  ·clear hb;(repeat' first|simp [*,initEnv,c7,Problem.cells]|(apply wpIf_two<;>intro _ h<;>try simp [-Nat.le_zero_eq] at h))
  by_cases n2:(10:Int) < p.facts.xs.length
  ·clear hb;(repeat' first|simp [*,initEnv,c7,Problem.cells]|(apply wpIf_two<;>intro _ h<;>try simp [-Nat.le_zero_eq] at h))
  by_cases n3:(40:Int) < o.xs.length
  ·clear hb;(repeat' first|simp [*,initEnv,c7,Problem.cells]|(apply wpIf_two<;>intro _ h<;>try simp [-Nat.le_zero_eq] at h))
  obtain ⟨E0,E,h1,h2⟩:=core_ins p;have a1:=fun H=>call_pureC (G:=G) (n:=60) (H:=H) (caps:=[]) (ps:=[.agg p.cells]) sh35 (e35 7 p E0 E h1);have a2:=fun H=>call_pureC (G:=G) (n:=60) (H:=H) (caps:=[]) (ps:=[.agg p.cells]) sh36 (e36 49 p E0 E h2 hb);have hx:=coreRS_xs E0 E (idsP p.facts.xs);have hl1:=Nat.le_trans (coreF_len E0 E (idsP p.facts.xs)) (idsP_len p.facts.xs);obtain ⟨⟨X1,X2⟩,hX⟩:∃ X,coreF E0 E (idsP p.facts.xs)=X:=⟨_,rfl⟩
  obtain ⟨S2,hS2⟩:∃ S,coreRS E0 E (idsP p.facts.xs)=S:=⟨_,rfl⟩
  rw [hX] at a1 a2 hx hl1;rw [hS2] at a2 hx;simp only at a1 a2 hx hl1;have a3:=fun H=>call_pureC (G:=G) (n:=60) (H:=H) (caps:=[]) (ps:=[(Sl.of X1).pv intF 1,S2.pv intF 1]) sh30 (e30 59 (Sl.of X1) S2 (by rw [Sl.xs_of,hx]) (by rw [Sl.xs_of];omega));have a4:=fun H=>call_pureC (G:=G) (n:=60) (H:=H) (caps:=[]) (ps:=[.agg p.cells,o.pv intF 1]) sh37 (e37 55 p o (by omega));have a5:=fun H=>call_pureC (G:=G) (n:=60) (H:=H) (caps:=[]) (ps:=[.agg p.cells,o.pv intF 1]) sh38 (e38 55 p o (by omega));have a6:=fun H=>call_pureC (G:=G) (n:=60) (H:=H) (caps:=[]) (ps:=[.agg p.cells]) sh28 (e28 57 p);obtain ⟨S1,hS1⟩:∃ S,Sl.of X1=S:=⟨_,rfl⟩
  rw [hS1] at a1 a3
  by_cases h0:checkS p=0
  case neg =>
   have w1:withoutF (outB o.xs) p=⟨.nil,.nil⟩:=by unfold withoutF;rw [if_neg h0]
   have w2:withoutF (onlyB o.xs) p=⟨.nil,.nil⟩:=by unfold withoutF;rw [if_neg h0]
   rw [w1] at a4;rw [w2] at a5;simp only [Problem.cells,List.map_cons,List.map_nil] at a1 a2 a3 a4 a5 a6;generalize checkS p=c at *;clear h1 h2 hb hx hl1 hX hS2 hS1 w1 w2;(repeat' first|simp [*,initEnv,c7,Problem.cells]|(apply wpIf_two<;>intro _ h<;>try simp [-Nat.le_zero_eq] at h))
  case pos =>
   have w1:withoutF (outB o.xs) p=pickP (outB o.xs) p:=by unfold withoutF;rw [if_pos h0]
   have w2:withoutF (onlyB o.xs) p=pickP (onlyB o.xs) p:=by unfold withoutF;rw [if_pos h0]
   have a7:=fun H=>call_pureC (G:=G) (n:=60) (H:=H) (caps:=[]) (ps:=[.agg p.cells,o.pv intF 1]) sh40 (e40 58 p o (by omega) (by omega));have a8:=fun H=>call_pureC (G:=G) (n:=60) (H:=H) (caps:=[]) (ps:=[.agg p.cells,o.pv intF 1]) sh41 (e41 58 p o (by omega) (by omega));have hfl:∀ q,(pickL q p.facts.xs).length≤100:=fun q=>Nat.le_trans (List.length_filter_le _ _) (by omega);have a9:=fun q H=>call_pureC (G:=G) (n:=60) (H:=H) (caps:=[]) (ps:=[.agg (pickP q p).cells,.agg (pickR q p).cells]) sh39 (e39 58 (pickP q p) (pickR q p) (by simp [pickP,pickR]) (by simp [pickP,pickR]) (by simp [pickP];omega) (by have:=hfl q;simp [pickP];omega));have b1:=a9 (outB o.xs);have b2:=a9 (onlyB o.xs);rw [w1] at a4;rw [w2] at a5;rw [h0] at a4 a5 a6;obtain ⟨⟨q1,q2⟩,hq1⟩:∃ q,pickP (outB o.xs) p=q:=⟨_,rfl⟩
   obtain ⟨⟨q3,q4⟩,hq2⟩:∃ q,pickP (onlyB o.xs) p=q:=⟨_,rfl⟩
   obtain ⟨⟨r1,r2⟩,hr1⟩:∃ q,pickR (outB o.xs) p=q:=⟨_,rfl⟩
   obtain ⟨⟨r3,r4⟩,hr2⟩:∃ q,pickR (onlyB o.xs) p=q:=⟨_,rfl⟩
   rw [hq1] at a4 b1;rw [hq2] at a5 b2;rw [hr1] at a7 b1;rw [hr2] at a8 b2;simp only [Problem.cells,List.map_cons,List.map_nil] at a1 a2 a3 a4 a5 a6 a7 a8 b1 b2;clear h1 h2 hb hx hl1 hX hS2 hS1 w1 w2 a9 hfl hq1 hq2 hr1 hr2 h0;(repeat' first|simp [*,initEnv,c7,Problem.cells]|(apply wpIf_two<;>intro _ h<;>try simp [-Nat.le_zero_eq] at h))
end Go.Proofs.YtmghcpdpilgplaaGreat.Vm
