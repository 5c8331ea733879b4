/- The chapter's examples: head() returns true, by the machine's own runs in the kernel. The law SearchAll, on the machine. -/
import Derived.Test.YtmghcpdpilgplaaGreatQk13
import Derived.Test.YtmghcpdpilgplaaGreatQk33
import Derived.Test.YtmghcpdpilgplaaGreatQk8
import Derived.KernelRfl
import Derived.Test.YtmghcpdpilgplaaGreatQk32
import Derived.Test.YtmghcpdpilgplaaGreatQk24
namespace Go.Proofs.YtmghcpdpilgplaaGreat.Vm
open Go
set_option linter.unusedSimpArgs false
set_option linter.unusedVariables false
set_option maxHeartbeats 4000000
def iP (n:Int):PV:=.int .i64 n
def pP (a b c d:Int):PV:=.slice false 2 [[iP a,iP b],[iP c,iP d]]
def exB (a b c d:Int):List PV:=[.int .i64 a,.int .i64 b,.int .i64 c,.int .i64 d]
def exF (id kind lo hi:Int):List PV:=[.int .i64 id,.int .i64 kind,.bool false,.int .i64 0,.int .i64 1,.int .i64 0,.int .i64 lo,.int .i64 hi,.int .i64 0]
def exN:List PV:=[.int .i64 0,.int .i64 6,.bool true,.int .i64 0,.int .i64 1,.int .i64 0,.int .i64 1,.int .i64 5,.int .i64 0]
def exPr (fs:List (List PV)):PV:=.agg [.slice false 4 [exB 0 0 0 0,exB (-5) 5 (-5) 5],.slice false 9 fs]
def exP:PV:=exPr [exF 4 1 25 25,exF 7 3 0 0]
def exQ:PV:=exPr [exF 4 1 25 25,exF 7 3 0 0,exF 9 5 2 2]
theorem ex_run:callP G 59 44 []=some exP:=by kernel_rfl
theorem narrow_run:callP G 59 22 [exP]=some (.tup [.slice false 4 [exB 0 0 0 0,exB 3 5 (-4) 4],.int .i64 0]):=by kernel_rfl
theorem count_run:callP G 59 32 [exP]=some (.tup [.int .i64 3,.int .i64 0]):=by kernel_rfl
theorem hull_run:callP G 59 45 [exP]=some (.tup [.slice false 4 [exB 0 0 0 0,exB 4 5 (-3) 3],.int .i64 0]):=by kernel_rfl
theorem dec_run2:callP G 59 46 [exP,.agg (exF 0 1 20 30)]=some (.tup [.int .i64 2,.int .i64 0]):=by kernel_rfl
theorem with_run:callP G 59 47 [exP,.agg (exF 9 5 2 2)]=some exQ:=by kernel_rfl
def fr0:PV:=(.tup [(.agg [(.bool false),(.slice false 1 [[(.ptr false [(.slice false 1 [[(iP 0)],[(iP 1)]]),(iP 3),(.slice false 4 [[(pP 0 0 4 (-3)),(pP 0 0 4 (-3)),(pP 0 0 4 (-3)),(pP 0 0 4 (-3))],[(pP 0 0 4 (-3)),(pP 0 0 5 0),(pP 0 0 4 (-3)),(pP 0 0 4 3)]]),(pP 0 0 4 (-3))] 0)]])]),(iP 0)])
theorem find_run0:callP G 58 77 [exP]=some fr0:=by kernel_rfl
def fr1:PV:=(.tup [(.agg [(.bool false),(.slice false 1 [[(.ptr false [(.slice false 1 [[(iP 0)],[(iP 1)]]),(iP 1),(.slice false 4 [[(pP 0 0 4 3),(pP 0 0 4 3),(pP 0 0 4 3),(pP 0 0 4 3)],[(pP 0 0 4 3),(pP 0 0 4 3),(pP 0 0 4 3),(pP 0 0 4 3)]]),(pP 0 0 4 3)] 0)]])]),(iP 0)])
theorem find_run1:callP G 58 77 [exPr [exF 4 1 25 25,exF 7 3 0 0,exF 0 6 1 5]]=some fr1:=by kernel_rfl
def fr2:PV:=(.tup [(.agg [(.bool false),(.slice false 1 [[(.ptr false [(.slice false 1 [[(iP 0)],[(iP 1)]]),(iP 2),(.slice false 4 [[(pP 0 0 4 (-3)),(pP 0 0 4 (-3)),(pP 0 0 4 (-3)),(pP 0 0 4 (-3))],[(pP 0 0 4 (-3)),(pP 0 0 5 0),(pP 0 0 4 (-3)),(pP 0 0 5 0)]]),(pP 0 0 4 (-3))] 0)]])]),(iP 0)])
theorem find_run2:callP G 58 77 [exPr [exF 4 1 25 25,exF 7 3 0 0,exN]]=some fr2:=by kernel_rfl
def fr3:PV:=(.tup [(.agg [(.bool true),.nils]),(iP 0)])
theorem find_run3:callP G 58 69 [exQ]=some fr3:=by kernel_rfl
def fr4:PV:=(.tup [(.agg [(.bool false),(.slice false 1 [[(.ptr false [(.slice false 1 [[(iP 0)],[(iP 1)]]),(iP 5),(.slice false 4 [[(pP 0 0 2 (-2)),(pP 0 0 2 (-2)),(pP 0 0 2 (-2)),(pP 0 0 2 (-2))],[(pP 0 0 2 (-2)),(pP 0 0 2 (-2)),(pP 0 0 2 (-2)),(pP 0 0 2 2)]]),(pP 0 0 2 (-2))] 0)]])]),(iP 0)])
theorem find_run4:callP G 58 77 [exPr [exF 7 3 0 0,exF 9 5 2 2]]=some fr4:=by kernel_rfl
def fr5:PV:=(.tup [(.agg [(.bool true),.nils]),(iP 0)])
theorem find_run5:callP G 58 77 [exPr [exF 4 1 25 25,exF 9 5 2 2]]=some fr5:=by kernel_rfl
def fr6:PV:=(.tup [(.agg [(.bool false),(.slice false 1 [[(.ptr false [(.slice false 1 [[(iP 0)],[(iP 1)]]),(iP 12),(.slice false 4 [[(pP 0 0 (-5) 0),(pP 0 0 (-5) 0),(pP 0 0 (-5) 0),(pP 0 0 (-5) 0)],[(pP 0 0 (-5) 0),(pP 0 0 5 0),(pP 0 0 0 (-5)),(pP 0 0 0 5)]]),(pP 0 0 (-5) 0)] 0)]])]),(iP 0)])
theorem find_run6:callP G 58 77 [exPr [exF 4 1 25 25]]=some fr6:=by kernel_rfl
def tabD:Tab:=[(77,[exP],fr0),(77,[exPr [exF 4 1 25 25,exF 7 3 0 0,exF 0 6 1 5]],fr1),(77,[exPr [exF 4 1 25 25,exF 7 3 0 0,exN]],fr2)]
theorem tabD_ok:∀ e∈tabD,callP G 58 e.1 e.2.1=some e.2.2:=all_cons find_run0 <| all_cons find_run1 <| all_cons find_run2 all_nil
theorem dec_run1:callP G 59 46 [exP,.agg (exF 0 6 1 5)]=some (.tup [.int .i64 3,.int .i64 0]):=callP_tab (n:=58) (fs:=[77]) rfl rfl tabD_ok (by kernel_rfl)
def tabC:Tab:=[(69,[exQ],fr3),(77,[exPr [exF 7 3 0 0,exF 9 5 2 2]],fr4),(77,[exPr [exF 4 1 25 25,exF 9 5 2 2]],fr5),(77,[exPr [exF 4 1 25 25]],fr6)]
theorem tabC_ok:∀ e∈tabC,callP G 58 e.1 e.2.1=some e.2.2:=all_cons find_run3 <| all_cons find_run4 <| all_cons find_run5 <| all_cons find_run6 all_nil
theorem core_run:callP G 59 35 [exQ]=some (.tup [.slice false 1 [[.int .i64 4],[.int .i64 9]],.int .i64 0]):=callP_tab (n:=58) (fs:=[77,69]) rfl rfl tabC_ok (by kernel_rfl)
def tabH:Tab:=[(44,[],exP),(22,[exP],.tup [.slice false 4 [exB 0 0 0 0,exB 3 5 (-4) 4],.int .i64 0]),(32,[exP],.tup [.int .i64 3,.int .i64 0]),(45,[exP],.tup [.slice false 4 [exB 0 0 0 0,exB 4 5 (-3) 3],.int .i64 0]),
 (46,[exP,.agg (exF 0 6 1 5)],.tup [.int .i64 3,.int .i64 0]),(46,[exP,.agg (exF 0 1 20 30)],.tup [.int .i64 2,.int .i64 0]),(47,[exP,.agg (exF 9 5 2 2)],exQ),(35,[exQ],.tup [.slice false 1 [[.int .i64 4],[.int .i64 9]],.int .i64 0])]
theorem tabH_ok:∀ e∈tabH,callP G 59 e.1 e.2.1=some e.2.2:=all_cons ex_run <| all_cons narrow_run <| all_cons count_run <| all_cons hull_run <| all_cons dec_run1 <| all_cons dec_run2 <| all_cons with_run <| all_cons core_run all_nil
theorem head_run:callP G 60 9 []=some (.bool true):=callP_tab (n:=59) (fs:=[44,22,32,45,46,47,35]) rfl rfl tabH_ok (by kernel_rfl)
set_option maxRecDepth 4000
theorem all_ex (p:Problem):∃ S e,AllOutP p S e∧S.length≤65536∧∀ c∈S,c.length≤12:=by
 by_cases h0:checkS p=0
 case neg=>exact ⟨[],_,.inl ⟨h0,rfl,rfl⟩,by simp,by simp⟩
 case pos =>
  have ok:=check_ok.1 h0;obtain ⟨r,hr⟩:=nar_ex (nar_anti ok) (nar_wf ok)
  cases r with
  | none=>exact ⟨[],9,.inr (.inl ⟨h0,hr,rfl,rfl⟩),by simp,by simp⟩
  | some l =>
   have hl:l.length=p.boxes.xs.length:=hr.1.sub.1
   by_cases hv:volT l l.length≤65536
   ·refine ⟨solsT p.facts.xs l,_,.inr (.inr ⟨h0,l,hr,.inr ⟨hv,rfl,rfl⟩⟩),solsT_few hr.1.wf hv,fun c hc=>?_⟩
    unfold solsT at hc;rw [enum_filter,List.mem_filter] at hc;have:=(mem_allC.1 hc.1).1;rw [List.length_range] at this;have:=ok.nb;omega
   ·exact ⟨[],2,.inr (.inr ⟨h0,l,hr,.inl ⟨by omega,rfl,rfl⟩⟩),by simp,by simp⟩
theorem sh_headA:G.shared 9=false:=by decide
theorem d_headA (H:Heap):doCall (calleeOf G 60) H (.pure (.func 9 [])) []=some (.val (.pure (.bool true))):=call_pure (ps:=[]) sh_headA head_run
theorem all_law (p:Problem):callP G 61 8 [.agg p.cells]=some (.bool true):=by
 refine callP_of (n:=60) (ext_none _) rfl g8 rfl ?_
 have hh:=d_headA;have hs:=fun H=>call_pureC (G:=G) (n:=60) (H:=H) (caps:=[]) (ps:=[.agg p.cells]) sh21 (e21 57 p);simp only [Problem.cells,List.map_cons,List.map_nil] at hs
 cases hsp:fewB p with
 | false =>
  rw [hsp] at hs;clear hsp;(repeat' first|simp [*,initEnv,c8,Problem.cells]|(apply wpIf_two<;>intro _ h<;>try simp [-Nat.le_zero_eq] at h))
 | true =>
  rw [hsp] at hs;clear hsp;obtain ⟨S,e,h,hSl,hSc⟩:=all_ex p;have a1:=fun H=>call_pureC (G:=G) (n:=60) (H:=H) (caps:=[]) (ps:=[.agg p.cells]) sh42 (e42 10 p S e h);have a2:=fun H=>call_pureC (G:=G) (n:=60) (H:=H) (caps:=[]) (ps:=[.agg p.cells]) sh43 (e43 48 p S e h);simp only [Problem.cells,List.map_cons,List.map_nil] at a1 a2;obtain ⟨s,hsS⟩:∃ s,Sl.of S=s:=⟨_,rfl⟩
  rw [hsS] at a1 a2;have hsx:s.xs=S:=by rw [← hsS,Sl.xs_of]
  rw [← hsx] at hSl hSc;have hScH:=Hide.mk hSc;clear h hsS hsx hSc;(repeat' first|simp [*,initEnv,c8,Problem.cells]|(apply wpIf_two<;>intro _ h<;>try simp [-Nat.le_zero_eq] at h))
  refine wp_loopF [(2,2),(8,9),(35,77)] (fun (i:Nat) env H=>env 8=.pure (.int .i64 i)∧i≤s.xs.length) (fun i=>s.xs.length - i) 0 ?_ ?_ ?_ ?_
  ·decide
  ·exact ⟨by simp,by omega⟩
  ·simp only [loopFuel];omega
  rintro i env H ⟨g8,hi⟩
  by_cases hlt:i < s.xs.length
  ·have w1:IntKind.i64.wrap ((i:Int)+1)=(i+1:Nat):=by rw [wrap64 (by omega) (by omega)];omega
   have hltI:(i:Int) < s.xs.length:=by omega
   have hc:=hScH.h _ (List.getElem_mem hlt);obtain ⟨c,hcc⟩:∃ c,s.xs[i]=c:=⟨_,rfl⟩
   rw [hcc] at hc;(repeat' first|simp [*,initEnv,solF]|(apply wpIf_two<;>intro _ h<;>try simp [-Nat.le_zero_eq] at h))
   refine wp_loopF [(2,2),(9,9),(53,77)] (fun (k:Nat) env H=>env 9=.pure (.int .i64 k)∧k≤c.length) (fun k=>c.length - k) 0 ?_ ?_ ?_ ?_
   ·decide
   ·exact ⟨by simp,by omega⟩
   ·simp only [loopFuel];omega
   have g8':=g8;clear g8;rintro k env2 H2 ⟨g9,hk⟩
   by_cases hkl:k < c.length
   ·have w2:IntKind.i64.wrap ((k:Int)+1)=(k+1:Nat):=by rw [wrap64 (by omega) (by omega)];omega
    have hkI:(k:Int) < c.length:=by omega
    have had:addrV 2 (.pure ((Sl.mk false c).pv Pt.cells 2)) (.pure (.int .i64 (k:Nat)))=some (.val (.pure (.ptr false (Pt.cells c[k]) 0))):=addrV_sl (s:=Sl.mk false c) hkl;(repeat' first|simp [*,initEnv,solF,st_aggEq,cellsEq,isAggV]|(apply wpIf_two<;>intro _ h<;>try simp [-Nat.le_zero_eq] at h));exact ⟨k+1,by omega,by omega,by omega⟩
   ·have hkN:k=c.length:=by omega
    subst hkN;(repeat' first|simp [*,initEnv,solF]|(apply wpIf_two<;>intro _ h<;>try simp [-Nat.le_zero_eq] at h));exact ⟨i+1,by omega,by omega,by omega⟩
  ·have hiN:i=s.xs.length:=by omega
   subst hiN;(repeat' first|simp [*,initEnv]|(apply wpIf_two<;>intro _ h<;>try simp [-Nat.le_zero_eq] at h))
end Go.Proofs.YtmghcpdpilgplaaGreat.Vm
