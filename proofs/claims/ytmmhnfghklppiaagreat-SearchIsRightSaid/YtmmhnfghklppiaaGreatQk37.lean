/- Narrowing: what the specification's Boxes computes. Narrow and Volume: the specification's, walked. -/
import Derived.Test.YtmmhnfghklppiaaGreatQk25
import Derived.Test.YtmmhnfghklppiaaGreatQk34
import Derived.Test.YtmmhnfghklppiaaGreatQk9
import Derived.Test.YtmmhnfghklppiaaGreatQk36
import Derived.Test.YtmmhnfghklppiaaGreatQk26
namespace Go.Proofs.YtmmhnfghklppiaaGreat.Vm
open Go
set_option linter.unusedSimpArgs false
set_option linter.unusedVariables false
set_option maxHeartbeats 4000000
set_option maxRecDepth 4000
def anyF (fs:List Fact) (l:List Box):Bool:=fs.any fun f=>zC f l
theorem anyF_iff {fs:List Fact} {l:List Box}:anyF fs l=true↔∃ f∈fs,zC f l=true:=by simp [anyF]
section
variable {p:Problem} {L L0:List Box} {i k:Nat} {c:Bool}
structure RJ (p:Problem) (L0 L:List Box) (c:Bool) (i k:Nat):Prop where
 hold:Holds' zah p.facts.xs p.boxes.xs L
 same:c=false->L=L0/\znH p L i k
 less:c=true->zbI L < zbI L0
theorem RJ.start (h:Holds' zah p.facts.xs p.boxes.xs L):RJ p L L false 0 0:=⟨h,fun _=>⟨rfl,fun i' k' _ h=>by omega⟩,fun h=>by cases h⟩
theorem RJ.exit (h:RJ p L0 L c i k) (hb:anyF p.facts.xs (zZ L i k)=false):RJ p L0 L c i (k+1):=by
 refine ⟨h.hold,fun hc=>?_,h.less⟩
 obtain ⟨h3,h4⟩:=h.same hc
 refine ⟨h3,fun i' k' hk' hlt hi' f hf=>?_⟩
 rcases hlt with hl|⟨rfl,hl⟩
 ·exact h4 i' k' hk' (.inl hl) hi' f hf
 ·rcases Nat.lt_succ_iff_lt_or_eq.1 hl with hl|rfl
  ·exact h4 i' k' hk' (.inr ⟨rfl,hl⟩) hi' f hf
  ·cases hs:zC f (zZ L i' k') with
   | false=>rfl
   | true=>rw [anyF_iff.2 ⟨f,hf,hs⟩] at hb;simp at hb
theorem RJ.step (ok:CheckOk p) (h:RJ p L0 L c i k) (hi:i < L.length) (hk:k < 4) (hb:anyF p.facts.xs (zZ L i k)=true) (ht:¬ zaM L[i] k):RJ p L0 (cutL L i k) true i k/\zbI (cutL L i k) < zbI L:=by
 obtain ⟨f,hf,hs⟩:=anyF_iff.1 hb;have h2:=zfa h.hold.wf hi hk ht
 refine ⟨⟨h.hold.cut (zbJ ok) hi hk hf hs ht,fun hc=>(by cases hc),fun _=>?_⟩,h2⟩
 cases c with
 | false=>have:=(h.same rfl).1;subst this;exact h2
 | true=>have:=h.less rfl;omega
theorem RJ.empty (ok:CheckOk p) (h:RJ p L0 L c i k) (hi:i < L.length) (hk:k < 4) (hb:anyF p.facts.xs (zZ L i k)=true) (ht:zaM L[i] k):IsNar zah p.facts.xs p.boxes.xs none:=by
 obtain ⟨f,hf,hs⟩:=anyF_iff.1 hb;exact h.hold.empty (zbJ ok) hi hk hf hs ht
theorem RJ.nextI (h:RJ p L0 L c i 4):RJ p L0 L c (i+1) 0:=⟨h.hold,fun hc=>⟨(h.same hc).1,fun i' k' hk' hlt hi' f hf=>(h.same hc).2 i' k' hk' (by omega) hi' f hf⟩,h.less⟩
theorem RJ.done (h:RJ p L0 L c L.length 0) (hc:c=false):Stable zah p.facts.xs L:=fun i hi k hk f hf hs=>by
 have:=(h.same hc).2 i k hk (.inl hi) hi f hf;unfold zah at hs;rw [this] at hs;simp at hs
end
end Go.Proofs.YtmmhnfghklppiaaGreat.Vm
