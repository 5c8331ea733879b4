/- Narrowing: what the specification's Boxes computes. Narrow and Volume: the specification's, walked. -/
import Derived.Test.YtmmhnfghklppiaaGreatWk24
import Derived.Test.YtmmhnfghklppiaaGreatWk33
import Derived.Test.YtmmhnfghklppiaaGreatWk8
import Derived.Test.YtmmhnfghklppiaaGreatWk35
import Derived.Test.YtmmhnfghklppiaaGreatWk25
namespace Go.Proofs.YtmmhnfghklppiaaGreat.Vm
open Go
set_option linter.unusedSimpArgs false
set_option linter.unusedVariables false
set_option maxHeartbeats 4000000
set_option maxRecDepth 4000
def I5 (fs:List Fact) (l:List Box):Bool:=fs.any fun f=>zJ f l
theorem vg {fs:List Fact} {l:List Box}:I5 fs l=true↔∃ f∈fs,zJ f l=true:=by simp [I5]
section
variable {p:Problem} {L L0:List Box} {i k:Nat} {c:Bool}
structure RJ (p:Problem) (L0 L:List Box) (c:Bool) (i k:Nat):Prop where
 hold:Holds' zX p.facts.xs p.boxes.xs L
 same:c=false->L=L0/\znO p L i k
 less:c=true->uS L < uS L0
theorem RJ.start (h:Holds' zX p.facts.xs p.boxes.xs L):RJ p L L false 0 0:=⟨h,fun _=>⟨rfl,fun i' k' _ h=>by omega⟩,fun h=>by cases h⟩
theorem RJ.exit (h:RJ p L0 L c i k) (hb:I5 p.facts.xs (jW L i k)=false):RJ p L0 L c i (k+1):=by
 refine ⟨h.hold,fun hc=>?_,h.less⟩
 obtain ⟨h3,h4⟩:=h.same hc
 refine ⟨h3,fun i' k' wS aO bR f hf=>?_⟩
 rcases aO with hl|⟨rfl,hl⟩
 .exact h4 i' k' wS (.inl hl) bR f hf
 .rcases Nat.lt_succ_iff_lt_or_eq.1 hl with hl|rfl
  .exact h4 i' k' wS (.inr ⟨rfl,hl⟩) bR f hf
  .cases hs:zJ f (jW L i' k') with
   | false=>rfl
   | true=>rw [vg.2 ⟨f,hf,hs⟩] at hb;simp at hb
theorem RJ.step (ok:ae p) (h:RJ p L0 L c i k) (hi:i < L.length) (hk:k < 4) (hb:I5 p.facts.xs (jW L i k)=true) (ht:¬ nS L[i] k):RJ p L0 (qV L i k) true i k/\uS (qV L i k) < uS L:=by
 obtain ⟨f,hf,hs⟩:=vg.1 hb;have h2:=WI h.hold.wf hi hk ht
 refine ⟨⟨h.hold.cut (KE ok) hi hk hf hs ht,fun hc=>(by cases hc),fun _=>?_⟩,h2⟩
 cases c with
 | false=>have:=(h.same rfl).1;subst this;exact h2
 | true=>have:=h.less rfl;omega
theorem RJ.empty (ok:ae p) (h:RJ p L0 L c i k) (hi:i < L.length) (hk:k < 4) (hb:I5 p.facts.xs (jW L i k)=true) (ht:nS L[i] k):bM zX p.facts.xs p.boxes.xs none:=by
 obtain ⟨f,hf,hs⟩:=vg.1 hb;exact h.hold.empty (KE ok) hi hk hf hs ht
theorem RJ.M4 (h:RJ p L0 L c i 4):RJ p L0 L c (i+1) 0:=⟨h.hold,fun hc=>⟨(h.same hc).1,fun i' k' wS aO bR f hf=>(h.same hc).2 i' k' wS (by omega) bR f hf⟩,h.less⟩
theorem RJ.done (h:RJ p L0 L c L.length 0) (hc:c=false):Stable zX p.facts.xs L:=fun i hi k hk f hf hs=>by
 have:=(h.same hc).2 i k hk (.inl hi) hi f hf;unfold zX at hs;rw [this] at hs;simp at hs
end
end Go.Proofs.YtmmhnfghklppiaaGreat.Vm
