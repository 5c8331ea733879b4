/- The chapter's examples: head() returns true, by the machine's own runs in the kernel. The law SearchMinimal, on the machine. -/
import Derived.Test.YtmmhnfghklppiaaPk13
import Derived.Test.YtmmhnfghklppiaaPk29
import Derived.Test.YtmmhnfghklppiaaPk9
import Derived.KernelRfl
import Derived.Test.YtmmhnfghklppiaaPk27
import Derived.Test.YtmmhnfghklppiaaPk28
namespace Go.Proofs.Ytmmhnfghklppiaa.Vm
open Go
set_option linter.unusedSimpArgs false
set_option linter.unusedVariables false
set_option maxHeartbeats 4000000
def iP (n:Int):PV:=.int .i64 n
def pP (a b c d:Int):PV:=.slice false 2 [[iP a,iP b],[iP c,iP d]]
def exB (a b c d:Int):List PV:=[.int .i64 a,.int .i64 b,.int .i64 c,.int .i64 d]
def exF (id kind lo hi:Int):List PV:=[.int .i64 id,.int .i64 kind,.bool false,.int .i64 0,.int .i64 1,.int .i64 0,.int .i64 lo,.int .i64 hi,.int .i64 0]
def exN:List PV:=[.int .i64 0,.int .i64 6,.bool true,.int .i64 0,.int .i64 1,.int .i64 0,.int .i64 1,.int .i64 5,.int .i64 0]
def exPr (fs:List (List PV)):PV:=.agg [.slice false 4 [exB 0 0 0 0,exB (-5) 5 (-5) 5],.slice false 9 fs]
def exP:PV:=exPr [exF 4 1 25 25,exF 7 3 0 0]
def exQ:PV:=exPr [exF 4 1 25 25,exF 7 3 0 0,exF 9 5 2 2]
theorem ex_run:callP G 59 11 []=some exP:=by kernel_rfl
theorem narrow_run:callP G 59 10 [exP]=some (.tup [.slice false 4 [exB 0 0 0 0,exB 3 5 (-4) 4],.int .i64 0]):=by kernel_rfl
theorem count_run:callP G 59 12 [exP]=some (.tup [.int .i64 3,.int .i64 0]):=by kernel_rfl
theorem hull_run:callP G 59 13 [exP]=some (.tup [.slice false 4 [exB 0 0 0 0,exB 4 5 (-3) 3],.int .i64 0]):=by kernel_rfl
theorem dec_run2:callP G 59 14 [exP,.agg (exF 0 1 20 30)]=some (.tup [.int .i64 2,.int .i64 0]):=by kernel_rfl
theorem with_run:callP G 59 15 [exP,.agg (exF 9 5 2 2)]=some exQ:=by kernel_rfl
def fr0:PV:=(.tup [(.agg [(.bool false),(.slice false 1 [[(.ptr false [(.slice false 1 [[(iP 0)],[(iP 1)]]),(iP 3),(.slice false 4 [[(pP 0 0 4 (-3)),(pP 0 0 4 (-3)),(pP 0 0 4 (-3)),(pP 0 0 4 (-3))],[(pP 0 0 4 (-3)),(pP 0 0 5 0),(pP 0 0 4 (-3)),(pP 0 0 4 3)]]),(pP 0 0 4 (-3))] 0)]])]),(iP 0)])
theorem find_run0:callP G 58 24 [exP]=some fr0:=by kernel_rfl
def fr1:PV:=(.tup [(.agg [(.bool false),(.slice false 1 [[(.ptr false [(.slice false 1 [[(iP 0)],[(iP 1)]]),(iP 1),(.slice false 4 [[(pP 0 0 4 3),(pP 0 0 4 3),(pP 0 0 4 3),(pP 0 0 4 3)],[(pP 0 0 4 3),(pP 0 0 4 3),(pP 0 0 4 3),(pP 0 0 4 3)]]),(pP 0 0 4 3)] 0)]])]),(iP 0)])
theorem find_run1:callP G 58 24 [exPr [exF 4 1 25 25,exF 7 3 0 0,exF 0 6 1 5]]=some fr1:=by kernel_rfl
def fr2:PV:=(.tup [(.agg [(.bool false),(.slice false 1 [[(.ptr false [(.slice false 1 [[(iP 0)],[(iP 1)]]),(iP 2),(.slice false 4 [[(pP 0 0 4 (-3)),(pP 0 0 4 (-3)),(pP 0 0 4 (-3)),(pP 0 0 4 (-3))],[(pP 0 0 4 (-3)),(pP 0 0 5 0),(pP 0 0 4 (-3)),(pP 0 0 5 0)]]),(pP 0 0 4 (-3))] 0)]])]),(iP 0)])
theorem find_run2:callP G 58 24 [exPr [exF 4 1 25 25,exF 7 3 0 0,exN]]=some fr2:=by kernel_rfl
def fr3:PV:=(.tup [(.agg [(.bool true),.nils]),(iP 0)])
theorem find_run3:callP G 58 18 [exQ]=some fr3:=by kernel_rfl
def fr4:PV:=(.tup [(.agg [(.bool false),(.slice false 1 [[(.ptr false [(.slice false 1 [[(iP 0)],[(iP 1)]]),(iP 5),(.slice false 4 [[(pP 0 0 2 (-2)),(pP 0 0 2 (-2)),(pP 0 0 2 (-2)),(pP 0 0 2 (-2))],[(pP 0 0 2 (-2)),(pP 0 0 2 (-2)),(pP 0 0 2 (-2)),(pP 0 0 2 2)]]),(pP 0 0 2 (-2))] 0)]])]),(iP 0)])
theorem find_run4:callP G 58 24 [exPr [exF 7 3 0 0,exF 9 5 2 2]]=some fr4:=by kernel_rfl
def fr5:PV:=(.tup [(.agg [(.bool true),.nils]),(iP 0)])
theorem find_run5:callP G 58 24 [exPr [exF 4 1 25 25,exF 9 5 2 2]]=some fr5:=by kernel_rfl
def fr6:PV:=(.tup [(.agg [(.bool false),(.slice false 1 [[(.ptr false [(.slice false 1 [[(iP 0)],[(iP 1)]]),(iP 12),(.slice false 4 [[(pP 0 0 (-5) 0),(pP 0 0 (-5) 0),(pP 0 0 (-5) 0),(pP 0 0 (-5) 0)],[(pP 0 0 (-5) 0),(pP 0 0 5 0),(pP 0 0 0 (-5)),(pP 0 0 0 5)]]),(pP 0 0 (-5) 0)] 0)]])]),(iP 0)])
theorem find_run6:callP G 58 24 [exPr [exF 4 1 25 25]]=some fr6:=by kernel_rfl
def tabD:Tab:=[(24,[exP],fr0),(24,[exPr [exF 4 1 25 25,exF 7 3 0 0,exF 0 6 1 5]],fr1),(24,[exPr [exF 4 1 25 25,exF 7 3 0 0,exN]],fr2)]
theorem tabD_ok:∀ e∈tabD,callP G 58 e.1 e.2.1=some e.2.2:=all_cons find_run0 <| all_cons find_run1 <| all_cons find_run2 all_nil
theorem dec_run1:callP G 59 14 [exP,.agg (exF 0 6 1 5)]=some (.tup [.int .i64 3,.int .i64 0]):=callP_tab (n:=58) (fs:=[24]) rfl rfl tabD_ok (by kernel_rfl)
def tabC:Tab:=[(18,[exQ],fr3),(24,[exPr [exF 7 3 0 0,exF 9 5 2 2]],fr4),(24,[exPr [exF 4 1 25 25,exF 9 5 2 2]],fr5),(24,[exPr [exF 4 1 25 25]],fr6)]
theorem tabC_ok:∀ e∈tabC,callP G 58 e.1 e.2.1=some e.2.2:=all_cons find_run3 <| all_cons find_run4 <| all_cons find_run5 <| all_cons find_run6 all_nil
theorem core_run:callP G 59 6 [exQ]=some (.tup [.slice false 1 [[.int .i64 4],[.int .i64 9]],.int .i64 0]):=callP_tab (n:=58) (fs:=[24,18]) rfl rfl tabC_ok (by kernel_rfl)
def tabH:Tab:=[(11,[],exP),(10,[exP],.tup [.slice false 4 [exB 0 0 0 0,exB 3 5 (-4) 4],.int .i64 0]),(12,[exP],.tup [.int .i64 3,.int .i64 0]),(13,[exP],.tup [.slice false 4 [exB 0 0 0 0,exB 4 5 (-3) 3],.int .i64 0]),
 (14,[exP,.agg (exF 0 6 1 5)],.tup [.int .i64 3,.int .i64 0]),(14,[exP,.agg (exF 0 1 20 30)],.tup [.int .i64 2,.int .i64 0]),(15,[exP,.agg (exF 9 5 2 2)],exQ),(6,[exQ],.tup [.slice false 1 [[.int .i64 4],[.int .i64 9]],.int .i64 0])]
theorem tabH_ok:∀ e∈tabH,callP G 59 e.1 e.2.1=some e.2.2:=all_cons ex_run <| all_cons narrow_run <| all_cons count_run <| all_cons hull_run <| all_cons dec_run1 <| all_cons dec_run2 <| all_cons with_run <| all_cons core_run all_nil
theorem head_run:callP G 60 4 []=some (.bool true):=callP_tab (n:=59) (fs:=[11,10,12,13,14,15,6]) rfl rfl tabH_ok (by kernel_rfl)
set_option maxRecDepth 4000
theorem coreF_err {E0:Int} {E:List Int→Int} {ids:List Int} (h:(coreF E0 E ids).2≠0):(coreF E0 E ids).1=[]:=by
 unfold coreF at *
 split at h
 ·rename_i h0;rw [if_pos h0]
 ·rename_i h0;rw [if_neg h0]
  split at h
  ·rename_i h9;rw [if_pos h9]
  ·rename_i h9;rw [if_neg h9]
   split at h
   ·rfl
   ·simp at h
theorem sub_one {s:Sl Int} {i:Nat} (h:i < s.xs.length):(s.sub i (i+1)).xs=[s.xs[i]]:=by
 cases s with
 | nil=>simp at h
 | mk b l =>
  simp only [Sl.sub,Sl.xs_mk];simp only [Sl.xs_mk] at h;rw [List.take_add_one,List.getElem?_eq_getElem h,List.drop_append];simp [List.drop_eq_nil_of_le,Nat.min_eq_left (Nat.le_of_lt h)]
theorem sh_headMin:G.shared 4=false:=by decide
theorem d_headMin (H:Heap):doCall (calleeOf G 60) H (.pure (.func 4 [])) []=some (.val (.pure (.bool true))):=call_pure (ps:=[]) sh_headMin head_run
theorem minimal_law (p:Problem):callP G 61 3 [.agg p.cells]=some (.bool true):=by
 refine callP_of (n:=60) (ext_none _) rfl g3 rfl ?_
 have hh:=d_headMin;have hs:=fun H=>call_pureC (G:=G) (n:=60) (H:=H) (caps:=[]) (ps:=[.agg p.cells]) sh5 (e5 57 p);simp only [Problem.cells,List.map_cons,List.map_nil] at hs
 cases hsp:fewB p with
 | false =>
  rw [hsp] at hs;clear hsp;(repeat' first|simp [*,initEnv,c3,Problem.cells]|(apply wpIf_two<;>intro _ h<;>try simp [-Nat.le_zero_eq] at h))
 | true =>
  rw [hsp] at hs;clear hsp
  by_cases n1:(4:Int) < p.boxes.xs.length
  ·(repeat' first|simp [*,initEnv,c3,Problem.cells]|(apply wpIf_two<;>intro _ h<;>try simp [-Nat.le_zero_eq] at h))
  by_cases n2:(10:Int) < p.facts.xs.length
  ·(repeat' first|simp [*,initEnv,c3,Problem.cells]|(apply wpIf_two<;>intro _ h<;>try simp [-Nat.le_zero_eq] at h))
  obtain ⟨E0,E,h⟩:=coreP_ex p;have a1:=fun H=>call_pureC (G:=G) (n:=60) (H:=H) (caps:=[]) (ps:=[.agg p.cells]) sh6 (e6 7 p E0 E h);have hmin:=core_minimal h;have herr:=coreF_err (E0:=E0) (E:=E) (ids:=idsP p.facts.xs);obtain ⟨⟨X1,X2⟩,hX⟩:∃ X,coreF E0 E (idsP p.facts.xs)=X:=⟨_,rfl⟩
  rw [hX] at a1 hmin herr;simp only at a1 hmin herr
  by_cases he:X2=0
  case neg =>
   have hx1:=herr he;subst hx1;simp only [Problem.cells,List.map_cons,List.map_nil,Sl.of_nil,Sl.pv_nil] at a1;clear h hmin herr hX;(repeat' first|simp [*,initEnv,c3,Problem.cells]|(apply wpIf_two<;>intro _ h<;>try simp [-Nat.le_zero_eq] at h))
  case pos =>
   subst he;obtain ⟨ok,h9,hlen,hx⟩:=hmin rfl;have h0:=check_ok.2 ok;obtain ⟨S1,hS1⟩:∃ S,Sl.of X1=S:=⟨_,rfl⟩
   have hS1x:S1.xs=X1:=by rw [← hS1,Sl.xs_of]
   rw [hS1] at a1;have a2:=fun H=>call_pureC (G:=G) (n:=60) (H:=H) (caps:=[]) (ps:=[.agg p.cells,S1.pv intF 1]) sh7 (e7 55 p S1 (by rw [hS1x];omega));rw [hS1x] at a2;have w1:withoutF (onlyB X1) p=pickP (onlyB X1) p:=by unfold withoutF;rw [if_pos h0]
   rw [w1,h0] at a2;have okq:=pickP_ok (q:=onlyB X1) ok;have hq0:=check_ok.2 okq;obtain ⟨D1,e1,hf1,hE1⟩:=h.sub ok X1;have he1:e1=0:=by
    rcases find_e okq hf1 with h|h
    ·exact h
    ·rw [hE1,h] at h9;simp [ansE] at h9
   subst he1;have hD1:D1.empty=true:=by
    cases hD:D1.empty with
    | true=>rfl
    | false=>rw [hE1] at h9;simp [ansE,hD] at h9
   have a3:=fun H=>call_pureC (G:=G) (n:=60) (H:=H) (caps:=[]) (ps:=[.agg (pickP (onlyB X1) p).cells]) sh8 (e8 7 (pickP (onlyB X1) p) D1 0 (.inr ⟨hq0,hf1⟩) [] (fun _ h=>by rw [hD1] at h;simp at h));have hsf:solveF (pickP (onlyB X1) p) D1 0 []=(.nil,9):=by simp [solveF,hD1]
   rw [hsf] at a3;have hit:Hide (∀ i (hi:i < S1.xs.length),∃ (r:Problem) (sl:Sl Pt) (j:Int),(j=0∨j=2)∧(∀ H,doCall (calleeOf G 60) H (.pure (.func 9 [])) [.pure (.agg (pickP (onlyB X1) p).cells),.pure ((S1.sub i (i+1)).pv intF 1)]=some (.val (.pure (.tup [.agg r.cells,.int .i64 0]))))∧(∀ H,doCall (calleeOf G 60) H (.pure (.func 8 [])) [.pure (.agg r.cells)]=some (.val (.pure (.tup [sl.pv Pt.cells 2,.int .i64 j]))))):=⟨fun i hi=>by
    have hso:=sub_one hi;have b1:=fun H=>call_pureC (G:=G) (n:=60) (H:=H) (caps:=[]) (ps:=[.agg (pickP (onlyB X1) p).cells,(S1.sub i (i+1)).pv intF 1]) sh9 (e9 55 (pickP (onlyB X1) p) (S1.sub i (i+1)) (by rw [hso];simp));have w2:withoutF (outB (S1.sub i (i+1)).xs) (pickP (onlyB X1) p)=pickP (outB (S1.sub i (i+1)).xs) (pickP (onlyB X1) p):=by unfold withoutF;rw [if_pos hq0]
    rw [w2,hq0,hso] at b1;obtain ⟨okr,hr⟩:=hx S1.xs[i] (by rw [← hS1x];exact List.getElem_mem hi) (pickP (outB [S1.xs[i]]) (pickP (onlyB X1) p)) (by simp [pickP]) (by simp [pickP]);obtain ⟨D2,e2,hf2⟩:=find_ex okr;obtain ⟨cs,hcs,_⟩:=soln_ex okr hf2;have b2:=fun H=>call_pureC (G:=G) (n:=60) (H:=H) (caps:=[]) (ps:=[.agg (pickP (outB [S1.xs[i]]) (pickP (onlyB X1) p)).cells]) sh8 (e8 7 (pickP (outB [S1.xs[i]]) (pickP (onlyB X1) p)) D2 e2 (.inr ⟨check_ok.2 okr,hf2⟩) cs hcs)
    refine ⟨_,_,_,?_,b1,b2⟩
    rw [solveF_err];unfold ansE;rcases hr D2 e2 hf2 with h|⟨h,hD⟩
    ·subst h;exact .inr rfl
    ·subst h;simp [hD]⟩
   have hlS:S1.xs.length≤60:=by rw [hS1x];exact hlen
   obtain ⟨⟨q1,q2⟩,hq⟩:∃ q,pickP (onlyB X1) p=q:=⟨_,rfl⟩
   rw [hq] at a2 a3 hit;simp only [Problem.cells,List.map_cons,List.map_nil,Sl.pv_nil] at a1 a2 a3;clear h hmin herr hX ok h9 hlen hx h0 hS1 hS1x w1 okq hq0 hf1 hE1 hD1 hsf hq;(repeat' first|simp [*,initEnv,c3,Problem.cells]|(apply wpIf_two<;>intro _ h<;>try simp [-Nat.le_zero_eq] at h))
   refine wp_loopF [(2,2),(10,14),(62,92)] (fun (i:Nat) env H=>env 10=.pure (.int .i64 i)∧i≤S1.xs.length∧0 < H.nx∧H.get 0=.cells true [.pure (q1.pv Box.cells 4),.pure (q2.pv Fact.cells 9)]) (fun i=>S1.xs.length - i) 0 ?_ ?_ ?_ ?_
   ·decide
   ·exact ⟨by simp,by omega,by simp,by simp⟩
   ·simp only [loopFuel];omega
   rintro i env H ⟨g10,hi,hnx,hg0⟩
   by_cases hlt:i < S1.xs.length
   ·have w1:IntKind.i64.wrap ((i:Int)+1)=(i:Int)+1:=wrap64 (by omega) (by omega);have hltI:(i:Int) < S1.xs.length:=by omega
    have hne0:(0:Nat)≠H.nx:=by omega
    obtain ⟨⟨r1,r2⟩,sl,j,hj,b1,b2⟩:=hit.h i hlt;simp only [Problem.cells] at b1 b2;have hsv:∀ H,sliceV H 1 (.pure (S1.pv intF 1)) (some (.pure (.int .i64 (i:Int)))) (some (.pure (.int .i64 ((i:Int)+1))))=some (.val (.pure ((S1.sub i (i+1)).pv intF 1))):=fun H=>sliceV_sl_both (H:=H) (f:=intF) (sz:=1) (k:=.i64) (k':=.i64) (s:=S1) (j:=i+1) (i:=i) (by omega) (by omega);clear hit;rcases hj with rfl|rfl
    ·(repeat' first|simp [*,initEnv]|(apply wpIf_two<;>intro _ h<;>try simp [-Nat.le_zero_eq] at h));exact ⟨i+1,by omega,by omega,by omega⟩
    ·(repeat' first|simp [*,initEnv]|(apply wpIf_two<;>intro _ h<;>try simp [-Nat.le_zero_eq] at h));exact ⟨i+1,by omega,by omega,by omega⟩
   ·clear hit;(repeat' first|simp [*,initEnv]|(apply wpIf_two<;>intro _ h<;>try simp [-Nat.le_zero_eq] at h))
end Go.Proofs.Ytmmhnfghklppiaa.Vm
