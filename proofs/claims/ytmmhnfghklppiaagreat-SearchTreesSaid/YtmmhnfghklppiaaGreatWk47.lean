/- A reader of a change to a tree. A reader of four numbers. -/
import Derived.Test.YtmmhnfghklppiaaGreatWk46
import Derived.Test.YtmmhnfghklppiaaGreatWk45
namespace Go.Proofs.YtmmhnfghklppiaaGreat.Vm
open Go
set_option linter.unusedVariables false
set_option linter.unusedSimpArgs false
set_option maxRecDepth 100000
section
variable {H:Type} {enc:TypeId×Value->H} {w:World} {sp:Nat->Bool} {held:Bool} {n:Nat} {cs:List Value} {x:DataW H×List MemPlace}
theorem zpR:Tryz.prog.cellsOf 51=7:=by kernel_rfl
theorem zsb (h:DataW.trod enc Tryz.prog w 0 sp held n 49 cs=some x):∃ b:Node,cs=[.int .i64 b.fact,.int .i64 b.point,.int .i64 b.jT,.int .i64 b.at_]:=by
 obtain ⟨hl,m,hf⟩:=Ro Tryz.underlying49 h;rw [zkw] at hl
 match cs,hl with
 | [c0,c1,c2,c3],_ =>
  simp only [List.toList_toArray,List.mem_cons,List.not_mem_nil,or_false,forall_eq_or_imp,forall_eq,VD,List.drop,List.take] at hf;obtain ⟨⟨y0,h0⟩,⟨y1,h1⟩,⟨y2,h2⟩,⟨y3,h3⟩⟩:=hf;obtain ⟨a,e0,_⟩:=xX h0;obtain ⟨b,e1,_⟩:=xX h1;obtain ⟨c,e2,_⟩:=xX h2;obtain ⟨d,e3,_⟩:=xX h3;simp at e0 e1 e2 e3;exact ⟨⟨a,b,c,d⟩,by rw [e0,e1,e2,e3]⟩
theorem zsE (h:DataW.trod enc Tryz.prog w 0 sp held n 51 cs=some x):∃ f:bQ,l8 (xW w) w f.cells cs:=by
 obtain ⟨hl,m,hf⟩:=Ro Tryz.underlying51 h;rw [zpR] at hl
 match cs,hl with
 | [c0,c1,c2,c3,c4,c5,c6],_ =>
  simp only [List.toList_toArray,List.mem_cons,List.not_mem_nil,or_false,forall_eq_or_imp,forall_eq,VD,zkw,List.drop,List.take] at hf;obtain ⟨⟨y0,h0⟩,⟨y1,h1⟩,⟨y2,h2⟩,⟨y3,h3⟩⟩:=hf;obtain ⟨a0,e0,_⟩:=xX h0;obtain ⟨a1,e1,_⟩:=xX h1;obtain ⟨a2,e2,_⟩:=xX h2;obtain ⟨a3,e3⟩:=zsb h3;simp at e0 e1 e2 e3;obtain ⟨e3,e4,e5,e6⟩:=e3;subst e0 e1 e2 e3 e4 e5 e6;exact ⟨⟨a0,a1,a2,a3⟩,.cons (.int ..) <| .cons (.int ..) <| .cons (.int ..) <| .cons (.int ..) <| .cons (.int ..) <| .cons (.int ..) <| .cons (.int ..) .nil⟩
theorem zrR {r:Reach} {base:Nat} {v:Value} {d:DataW H} {ps:List MemPlace} (bH:Value.okWide Tryz.prog w r base 51 v) (h:DataW.Trod enc Tryz.prog w 0 sp held 51 v d ps):∃ c:bQ,bK (xW w) w (.agg c.cells) v:=by
 unfold Value.okWide at bH;simp only [Tryz.underlying51] at bH;obtain ⟨cs,rfl,_⟩:=bH;obtain ⟨fuel,hf⟩:=h;obtain ⟨f,hr⟩:=zsE hf;exact ⟨f,zlj hr⟩
end
structure Four where
 a:Int
 b:Int
 c:Int
 d:Int
def Four.cells (x:Four):List PV:=[.int .i64 x.a,.int .i64 x.b,.int .i64 x.c,.int .i64 x.d]
section
variable {H:Type} {enc:TypeId×Value->H} {w:World} {sp:Nat->Bool} {held:Bool} {n:Nat} {cs:List Value} {x:DataW H×List MemPlace}
theorem zop {P:Program} {base:Nat} {t e:TypeId} {m:Nat} (ht:P.underlying t=some (.array m e)) (h:DataW.trod enc P w base sp held n t cs=some x) :
  cs.length=P.cellsOf t/\∃ k,∀ i,i < m->∃ y,DataW.trod enc P w base sp held k e ((cs.drop (i*P.cellsOf e)).take (P.cellsOf e))=some y:=by
 cases n with
 | zero=>simp [DataW.trod] at h
 | succ k =>
  unfold DataW.trod at h;simp only [ht] at h
  split at h
  .rename_i hl
   refine ⟨hl,k,?_⟩
   cases hm:(List.range m).mapM fun i=>DataW.trod enc P w base sp held k e ((cs.drop (i*P.cellsOf e)).take (P.cellsOf e)) with
   | none=>simp [hm] at h
   | some ys=>exact fun i hi=>zia hm i (List.mem_range.2 hi)
  .simp at h
theorem zp9:Tryz.prog.cellsOf 52=4:=by kernel_rfl
theorem zsw (h:DataW.trod enc Tryz.prog w 0 sp held n 52 cs=some x):∃ f:Four,l8 (xW w) w f.cells cs:=by
 obtain ⟨hl,m,hf⟩:=zop Tryz.underlying52 h;rw [zp9] at hl
 match cs,hl with
 | [c0,c1,c2,c3],_ =>
  rw [VD] at hf;obtain ⟨y0,h0⟩:=hf 0 (by decide);obtain ⟨y1,h1⟩:=hf 1 (by decide);obtain ⟨y2,h2⟩:=hf 2 (by decide);obtain ⟨y3,h3⟩:=hf 3 (by decide);obtain ⟨a0,e0,_⟩:=xX h0;obtain ⟨a1,e1,_⟩:=xX h1;obtain ⟨a2,e2,_⟩:=xX h2;obtain ⟨a3,e3,_⟩:=xX h3;simp at e0 e1 e2 e3;subst e0 e1 e2 e3;exact ⟨⟨a0,a1,a2,a3⟩,.cons (.int ..) <| .cons (.int ..) <| .cons (.int ..) <| .cons (.int ..) .nil⟩
theorem zqy {r:Reach} {base:Nat} {v:Value} {d:DataW H} {ps:List MemPlace} (bH:Value.okWide Tryz.prog w r base 52 v) (h:DataW.Trod enc Tryz.prog w 0 sp held 52 v d ps):∃ c:Four,bK (xW w) w (.agg c.cells) v:=by
 unfold Value.okWide at bH;simp only [Tryz.underlying52] at bH;obtain ⟨cs,rfl,_⟩:=bH;obtain ⟨fuel,hf⟩:=h;obtain ⟨f,hr⟩:=zsw hf;exact ⟨f,zlj hr⟩
end
end Go.Proofs.YtmmhnfghklppiaaGreat.Vm
