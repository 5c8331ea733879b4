/- The chapter's examples: sanity() returns true, by the machine's own run in the kernel. StoneExamplesAreTrue answers true on all data, for the machine of values. -/
import Derived.Test.YtifmedfpnnfmoaaGreatDoorAk15
import Derived.KernelRfl
import Derived.Test.YtifmedfpnnfmoaaGreatDoorAk18
namespace Go.Proofs.YtifmedfpnnfmoaaGreatDoor.Vm
open Go
theorem ziu:zK G 60 6 []=some (.bool true):=by kernel_rfl
set_option linter.unusedSimpArgs false
set_option linter.unusedVariables false
set_option maxHeartbeats 4000000
set_option maxRecDepth 20000
theorem ziH:G.shared 6=false:=by decide
@[simp] theorem znk (H:Heap):zu (zg G 60) H (.pure (.func 6 [])) []=some (.val (.pure (.bool true))):=zge (ps:=[]) ziH ziu
theorem zkn (l:Life) (c:Sl Int):zK G 61 4 [.agg l.cells,c.pv intF 1]=some (.bool true):=by
 refine zy (n:=60) (zx _) rfl g4 rfl ?_
 have hfew:=fun H=>zi (G:=G) (n:=60) (H:=H) (caps:=[]) (ps:=[.agg l.cells]) sh5 (e5 59 l);simp only [Life.cells,List.map_cons,List.map_nil] at hfew
 by_cases hf:fewS l=true
 case neg =>
  simp only [Bool.not_eq_true] at hf;rw [hf] at hfew;clear hf;(repeat' first|simp [*,ze,c4,Life.cells]|(apply zb<;>intro _ h<;>try simp [-Nat.le_zero_eq] at h))
 rw [hf] at hfew;have hs:=zj5 hf;clear hf
 by_cases hc:(20:Int) < c.xs.length
 ·clear hs;(repeat' first|simp [*,ze,c4,Life.cells]|(apply zb<;>intro _ h<;>try simp [-Nat.le_zero_eq] at h))
 have hc3:c.xs.length < 1000:=by omega
 have h1:=fun H=>zi (G:=G) (n:=60) (H:=H) (caps:=[]) (ps:=[.agg l.cells,c.pv intF 1]) sh16 (e16 52 l c hs hc3);have h2:=fun H=>zi (G:=G) (n:=60) (H:=H) (caps:=[]) (ps:=[.agg l.cells,c.pv intF 1]) sh8 (e8 51 l c hs hc3);simp only [Life.cells,List.map_cons,List.map_nil] at h1 h2
 by_cases hg:zW l c.xs=0
 case neg =>
  have e2:exE l c=.tup [.agg [.nils,.nils,.nils,.nils],.int .i64 (zW l c.xs)]:=by unfold exE;rw [if_neg hg]
  rw [if_neg hg] at h1;rw [e2] at h2;generalize zW l c.xs=z at *;clear e2 hs hc3;(repeat' first|simp [*,ze,c4,Life.cells]|(apply zb<;>intro _ h<;>try simp [-Nat.le_zero_eq] at h))
 rw [if_pos hg] at h1
 cases ht:zao l c.xs with
 | none =>
  have e2:exE l c=.tup [.agg [.nils,.nils,.nils,.nils],.int .i64 9]:=by unfold exE;rw [if_pos hg,ht]
  rw [ht] at h1;rw [e2] at h2;clear e2 hs hc3 hg ht;(repeat' first|simp [*,ze,c4,Life.cells]|(apply zb<;>intro _ h<;>try simp [-Nat.le_zero_eq] at h))
 | some t =>
  have e2:exE l c=.tup [.agg (exV t c.xs l.sights.xs.length (zbo c)).cells,.int .i64 0]:=by unfold exE;rw [if_pos hg,ht]
  rw [ht] at h1;rw [e2] at h2;have hx:=zjN c;have h3:=fun H=>zi (G:=G) (n:=60) (H:=H) (caps:=[]) (ps:=[.agg l.cells,.agg (exV t c.xs l.sights.xs.length (zbo c)).cells]) sh17 (e17 53 l (exV t c.xs l.sights.xs.length (zbo c)) hs (by show (zbo c).xs.length < 1000;rw [hx];exact hc3));rw [zlD hg ht (zbo c) hx] at h3;obtain ⟨x,hxe⟩:∃ x,exV t c.xs l.sights.xs.length (zbo c)=x:=⟨_,rfl⟩
  rw [hxe] at h2 h3;simp only [Life.cells,Lived.cells,List.map_cons,List.map_nil,zcb] at h2 h3;clear e2 hs hc3 hg ht hx hxe;(repeat' first|simp [*,ze,c4,Life.cells,Lived.cells]|(apply zb<;>intro _ h<;>try simp [-Nat.le_zero_eq] at h))
end Go.Proofs.YtifmedfpnnfmoaaGreatDoor.Vm
