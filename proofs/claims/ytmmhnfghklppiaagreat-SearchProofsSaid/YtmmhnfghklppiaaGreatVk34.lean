/- Narrowing: what the specification's Boxes computes. Narrow and Volume: the specification's, walked. -/
import Derived.Test.YtmmhnfghklppiaaGreatVk24
import Derived.Test.YtmmhnfghklppiaaGreatVk27
import Derived.Test.YtmmhnfghklppiaaGreatVk8
import Derived.Test.YtmmhnfghklppiaaGreatVk33
import Derived.Test.YtmmhnfghklppiaaGreatVk25
namespace Go.Proofs.YtmmhnfghklppiaaGreat.Vm
open Go
set_option linter.unusedSimpArgs false
set_option linter.unusedVariables false
set_option maxHeartbeats 4000000
set_option maxRecDepth 4000
def FP (fs:List Fact) (l:List Box):Bool:=fs.any fun f=>zJ f l
theorem sj {fs:List Fact} {l:List Box}:FP fs l=true↔∃ f∈fs,zJ f l=true:=by simp [FP]
section
variable {p:Problem} {L L0:List Box} {i k:Nat} {c:Bool}
structure RJ (p:Problem) (L0 L:List Box) (c:Bool) (i k:Nat):Prop where
 hold:Holds' lG p.facts.xs p.boxes.xs L
 same:c=false->L=L0/\Y2 p L i k
 less:c=true->rT L < rT L0
theorem RJ.start (h:Holds' lG p.facts.xs p.boxes.xs L):RJ p L L false 0 0:=⟨h,fun _=>⟨rfl,fun i' k' _ h=>by omega⟩,fun h=>by cases h⟩
theorem RJ.exit (h:RJ p L0 L c i k) (hb:FP p.facts.xs (zV L i k)=false):RJ p L0 L c i (k+1):=by
 refine ⟨h.hold,fun hc=>?_,h.less⟩
 obtain ⟨h3,h4⟩:=h.same hc
 refine ⟨h3,fun i' k' uj aK bT f hf=>?_⟩
 rcases aK with hl|⟨rfl,hl⟩
 .exact h4 i' k' uj (.inl hl) bT f hf
 .rcases Nat.lt_succ_iff_lt_or_eq.1 hl with hl|rfl
  .exact h4 i' k' uj (.inr ⟨rfl,hl⟩) bT f hf
  .cases hs:zJ f (zV L i' k') with
   | false=>rfl
   | true=>rw [sj.2 ⟨f,hf,hs⟩] at hb;simp at hb
theorem RJ.step (ok:af p) (h:RJ p L0 L c i k) (hi:i < L.length) (hk:k < 4) (hb:FP p.facts.xs (zV L i k)=true) (ht:¬ mg L[i] k):RJ p L0 (oN L i k) true i k/\rT (oN L i k) < rT L:=by
 obtain ⟨f,hf,hs⟩:=sj.1 hb;have h2:=Ur h.hold.wf hi hk ht
 refine ⟨⟨h.hold.cut (Ir ok) hi hk hf hs ht,fun hc=>(by cases hc),fun _=>?_⟩,h2⟩
 cases c with
 | false=>have:=(h.same rfl).1;subst this;exact h2
 | true=>have:=h.less rfl;omega
theorem RJ.empty (ok:af p) (h:RJ p L0 L c i k) (hi:i < L.length) (hk:k < 4) (hb:FP p.facts.xs (zV L i k)=true) (ht:mg L[i] k):bN lG p.facts.xs p.boxes.xs none:=by
 obtain ⟨f,hf,hs⟩:=sj.1 hb;exact h.hold.empty (Ir ok) hi hk hf hs ht
theorem RJ.Ko (h:RJ p L0 L c i 4):RJ p L0 L c (i+1) 0:=⟨h.hold,fun hc=>⟨(h.same hc).1,fun i' k' uj aK bT f hf=>(h.same hc).2 i' k' uj (by omega) bT f hf⟩,h.less⟩
theorem RJ.done (h:RJ p L0 L c L.length 0) (hc:c=false):Stable lG p.facts.xs L:=fun i hi k hk f hf hs=>by
 have:=(h.same hc).2 i k hk (.inl hi) hi f hf;unfold lG at hs;rw [this] at hs;simp at hs
end
end Go.Proofs.YtmmhnfghklppiaaGreat.Vm
