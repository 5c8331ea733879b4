/- search.Solve: the solution that is put together from the parts' first ones. The two Solves and Counts say the same. Plain Lean. What the two Decides answer, and what Prove's tree is. Plain Lean. -/
import Derived.Test.YtmmhnfghklppiaaGreatVk25
import Derived.Test.YtmmhnfghklppiaaGreatVk41
import Derived.Test.YtmmhnfghklppiaaGreatVk32
import Derived.Test.YtmmhnfghklppiaaGreatVk40
namespace Go.Proofs.YtmmhnfghklppiaaGreat.Vm
open Go
set_option linter.unusedSimpArgs false
set_option linter.unusedVariables false
set_option maxHeartbeats 4000000
set_option maxRecDepth 4000
structure FZ (D:bB) (n0:Nat) (cs:List (List Pt)):Prop where
 n:n0<=12
 sl:D.bJ.length<=12
 len:cs.length=D.bJ.length
 first:∀ i (h:i < D.bJ.length) (h':i < cs.length),D.bJ[i].first=some cs[i]
 part:∀ s∈D.bJ,s.part.length<=12/\∀ k∈s.part,k < n0
 cl:∀ i (h:i < D.bJ.length) (h':i < cs.length),cs[i].length=D.bJ[i].part.length
structure Nq (D:bB) (n0:Nat) (cs:List (List Pt)) (at_:Int) (E:Sl Pt):Prop where
 n:n0<=12
 sl:D.bJ.length<=12
 len:cs.length=D.bJ.length
 first:∀ i (h:i < D.bJ.length) (h':i < cs.length),(i:Int)≠at_->D.bJ[i].first=some cs[i]
 own:∀ i (h:i < D.bJ.length) (h':i < cs.length),(i:Int)=at_->E=.mk false cs[i]
 part:∀ s∈D.bJ,s.part.length<=12/\∀ k∈s.part,k < n0
 cl:∀ i (h:i < D.bJ.length) (h':i < cs.length),cs[i].length=D.bJ[i].part.length
theorem FZ.at {D:bB} {n0:Nat} {cs:List (List Pt)} (h:FZ D n0 cs):Nq D n0 cs (-1) .nil :=
 ⟨h.n,h.sl,h.len,fun i h1 h2 _=>h.first i h1 h2,fun i h1 h2 h3=>by omega,h.part,h.cl⟩
theorem zkY {P:Nat->Prop}:∀ (n:Nat),(∃ k,k < n/\P k)->∃ k,k < n/\P k/\∀ j,j < k->¬ P j
 | 0,⟨k,h,_⟩=>absurd h (Nat.not_lt_zero _)
 | n+1,h=>by
  by_cases hc:∃ k,k < n/\P k
  .obtain ⟨k,h1,h2,h3⟩:=zkY n hc;exact ⟨k,by omega,h2,h3⟩
  .obtain ⟨k,h1,h2⟩:=h
   refine ⟨k,h1,h2,fun j hj hp=>hc ⟨j,by omega,hp⟩⟩
theorem zp2 {q:Problem} (ok:af q) (hn:q.boxes.xs.length<=5) (hs:∀ b∈q.boxes.xs,b.x.hi - b.x.lo<=60/\b.y.hi - b.y.lo<=60) (oL:¬ ∃ pts,iQ q pts) :
  ∃ m gs k,bF (nz q.facts.xs) q.boxes.xs.length m/\gs=z8 m q.boxes.xs.length/\jT q gs k:=by
 obtain ⟨m,hm⟩:=zoo ok.fact;obtain ⟨g,hg,DK⟩:=zmV ok hm oL;obtain ⟨i,hi,rfl⟩:=List.mem_iff_getElem.1 hg;have hd:=LZ hm (IV ok);obtain ⟨k,h1,h2,h3⟩:=zkY (P:=fun k=>Dm q (z8 m q.boxes.xs.length)[k]!) (z8 m q.boxes.xs.length).length ⟨i,hi,by rw [getElem!_pos _ i hi];exact DK⟩;exact ⟨m,_,k,hm,rfl,⟨ok,⟨m,hm,rfl⟩,h1,h2,h3,fun g hg=>Dw.vol hn hs (hd.one g hg).1 (hd.one g hg).2⟩⟩
theorem zqA {p:Problem} {f:Fact} (Nr:pW p=true) {D1 D2 D3:bB} {e1 e2 e3:Int} (h:zK p f=0->aX p D1 e1/\aX (jc p f false) D2 e2/\aX (jc p f true) D3 e3):∃ gs k,A8 (zK p f) D1 e1 D2 e2 D3 e3=(2,0)->vG p f gs k:=by
 by_cases hc:A8 (zK p f) D1 e1 D2 e2 D3 e3=(2,0)
 case neg=>exact ⟨[],0,fun h=>absurd h hc⟩
 have h0:zK p f=0:=by
  refine Classical.byContradiction fun hn=>?_
  unfold A8 at hc;rw [if_pos hn] at hc;simp at hc
 obtain ⟨h1,h2,h3⟩:=h h0;obtain ⟨ok,uJ,_⟩:=GM (t:=true) h0;have few:=zsL ok Nr;have oZ:fU p.boxes.xs<=600:=Dw.mu few.nb few.side;obtain ⟨a1,a2,a3,a4,a5⟩:e1=0/\e2=0/\e3=0/\D1.empty=false/\D3.empty=true:=by
  unfold A8 at hc;rw [h0,if_neg (by simp)] at hc
  split at hc
  .simp at hc
  .rename_i he
   split at hc
   .simp at hc
   .rename_i F8
    split at hc
    .rename_i hd3
     refine ⟨?_,?_,?_,by simpa using F8,hd3⟩
     .exact Classical.byContradiction fun hn=>he (.inl hn)
     .exact Classical.byContradiction fun hn=>he (.inr (.inl hn))
     .exact Classical.byContradiction fun hn=>he (.inr (.inr hn))
    .split at hc<;>simp at hc
 subst a1 a2 a3;have oL:=(zio uJ h3).1 a5;obtain ⟨m,gs,k,hm,vB,gi⟩:=zp2 uJ few.nb few.side oL;have oI:gs[k]! ∈ z8 m (jc p f true).boxes.xs.length:=by rw [<- vB,getElem!_pos gs k gi.lt];exact List.getElem_mem gi.lt
 exact ⟨gs,k,fun _=>⟨h0,gi,oZ,znc h0 h1 a4 h3 hm oI gi.no oZ (Nat.lt_succ_self _)⟩⟩
theorem zsZ {p:Problem} (Nr:pW p=true) (ok:af p):fU p.boxes.xs<=600:=by
 have few:=zsL ok Nr;exact Dw.mu few.nb few.side
end Go.Proofs.YtmmhnfghklppiaaGreat.Vm
