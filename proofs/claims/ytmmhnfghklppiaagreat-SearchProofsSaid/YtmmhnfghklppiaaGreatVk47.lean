/- A reader of a change to a tree. 'boundstonelaw03.SearchProofs': whatever the input, the call returns true, and each argument reads afterwards as it read before.
   No conditions. -/
import Derived.Test.YtmmhnfghklppiaaGreatVk46
import Derived.Test.YtmmhnfghklppiaaGreatVk43
import Derived.Test.YtmmhnfghklppiaaGreatVk45
namespace Go.Proofs.YtmmhnfghklppiaaGreat.Vm
open Go
set_option linter.unusedVariables false
set_option linter.unusedSimpArgs false
set_option maxRecDepth 100000
section
variable {H:Type} {enc:TypeId×Value->H} {w:World} {sp:Nat->Bool} {held:Bool} {n:Nat} {cs:List Value} {x:DataW H×List MemPlace}
theorem zoZ:Tryz.prog.cellsOf 51=7:=by kernel_rfl
theorem zqd (h:DataW.trod enc Tryz.prog w 0 sp held n 49 cs=some x):∃ b:Node,cs=[.int .i64 b.fact,.int .i64 b.point,.int .i64 b.jd,.int .i64 b.at_]:=by
 obtain ⟨hl,m,hf⟩:=O3 Tryz.underlying49 h;rw [ziY] at hl
 match cs,hl with
 | [c0,c1,c2,c3],_ =>
  simp only [List.toList_toArray,List.mem_cons,List.not_mem_nil,or_false,forall_eq_or_imp,forall_eq,Vs,List.drop,List.take] at hf;obtain ⟨⟨y0,h0⟩,⟨y1,h1⟩,⟨y2,h2⟩,⟨y3,h3⟩⟩:=hf;obtain ⟨a,e0,_⟩:=Bg h0;obtain ⟨b,e1,_⟩:=Bg h1;obtain ⟨c,e2,_⟩:=Bg h2;obtain ⟨d,e3,_⟩:=Bg h3;simp at e0 e1 e2 e3;exact ⟨⟨a,b,c,d⟩,by rw [e0,e1,e2,e3]⟩
theorem zr6 (h:DataW.trod enc Tryz.prog w 0 sp held n 51 cs=some x):∃ f:lL,lh (vH w) w f.cells cs:=by
 obtain ⟨hl,m,hf⟩:=O3 Tryz.underlying51 h;rw [zoZ] at hl
 match cs,hl with
 | [c0,c1,c2,c3,c4,c5,c6],_ =>
  simp only [List.toList_toArray,List.mem_cons,List.not_mem_nil,or_false,forall_eq_or_imp,forall_eq,Vs,ziY,List.drop,List.take] at hf;obtain ⟨⟨y0,h0⟩,⟨y1,h1⟩,⟨y2,h2⟩,⟨y3,h3⟩⟩:=hf;obtain ⟨a0,e0,_⟩:=Bg h0;obtain ⟨a1,e1,_⟩:=Bg h1;obtain ⟨a2,e2,_⟩:=Bg h2;obtain ⟨a3,e3⟩:=zqd h3;simp at e0 e1 e2 e3;obtain ⟨e3,e4,e5,e6⟩:=e3;subst e0 e1 e2 e3 e4 e5 e6;exact ⟨⟨a0,a1,a2,a3⟩,.cons (.int ..) <| .cons (.int ..) <| .cons (.int ..) <| .cons (.int ..) <| .cons (.int ..) <| .cons (.int ..) <| .cons (.int ..) .nil⟩
theorem zpV {r:Reach} {base:Nat} {v:Value} {d:DataW H} {ps:List MemPlace} (bG:Value.okWide Tryz.prog w r base 51 v) (h:DataW.Trod enc Tryz.prog w 0 sp held 51 v d ps):∃ c:lL,bA (vH w) w (.agg c.cells) v:=by
 unfold Value.okWide at bG;simp only [Tryz.underlying51] at bG;obtain ⟨cs,rfl,_⟩:=bG;obtain ⟨fuel,hf⟩:=h;obtain ⟨f,hr⟩:=zr6 hf;exact ⟨f,zjU hr⟩
end
end Go.Proofs.YtmmhnfghklppiaaGreat.Vm
namespace Go.Proofs.YtmmhnfghklppiaaGreat
open Go Go.ChangeShapes Go.WideShapes Go.ChangeAt Go.RowKit Go.Proofs.YtmmhnfghklppiaaGreat.Vm
set_option linter.unusedVariables false
theorem own:ownKnob Tryz.prog.godebug=none:=by kernel_rfl
theorem Vt:laidOutB Tryz.prog=true:=by kernel_rfl
theorem zno (p:Problem) (f:Fact) (f2:Fact) (x:lL) (v0 v1 v2 v3:Value) (w:World) (h0:bA (vH w) w (.agg p.cells) v0) (h1:bA (vH w) w (.agg f.cells) v1) (h2:bA (vH w) w (.agg f2.cells) v2) (h3:bA (vH w) w (.agg x.cells) v3):Calls Tryz.prog 7 #[v0,v1,v2,v3] w
  fun e w'=>e=.returned (.bool true)/\Below w.heap.size w w':=by
 have h:=(zlI gOk (zng p f f2 x)).2 0 (vH w) w [v0,v1,v2,v3] (fun _ _ h=>h) (.cons h0 (.cons h1 (.cons h2 (.cons h3 .nil))))
 refine (callsIn_wide.1 h).mono fun e w' ⟨v,he,hb,hv⟩=>?_
 rw [hv.fM] at he;exact ⟨he,hb⟩
set_option maxRecDepth 100000 in
theorem zj7 (os:Os) (started:os.Started) (H:Type) (enc:TypeId×Value->H) :
  ReturnsInHanded {} Tryz.checked os 7 .any (Rows.searchProofsSpec.pre6 enc Tryz.prog Tryz.f7 Rows.searchProofsRow.domain false) (Rows.searchProofsSpec.post enc Tryz.prog Tryz.f7 false true false false):=by
 refine returnsInHanded_of_change (C:=Tryz.checked) own started (by kernel_rfl) Tryz.func7
  (ChangeSpec.witness6 (enc:=enc) (C:=Tryz.checked) false ⟨#[],#[.agg #[.slice none 0 0,.slice none 0 0],.agg #[.int .i64 0,.int .i64 0,.bool false,.int .i64 0,.int .i64 0,.int .i64 0,.int .i64 0,.int .i64 0,.int .i64 0],.agg #[.int .i64 0,.int .i64 0,.bool false,.int .i64 0,.int .i64 0,.int .i64 0,.int .i64 0,.int .i64 0,.int .i64 0],.agg #[.int .i64 0,.int .i64 0,.int .i64 0,.int .i64 0,.int .i64 0,.int .i64 0,.int .i64 0]],[]⟩ 8 (by kernel_rfl) (by kernel_rfl) (by kernel_rfl) (by kernel_rfl)) ?_
 intro W base args ds gs before KR hW hcnd _;have bI:∀ (j:Nat) t v,Tryz.f7.params[j]?=some t->args[j]?=some v->Value.okWide Tryz.prog W .any base t v:=KR;have hW':=hW;obtain ⟨p,q,OQ,hV,rfl,Px,xW⟩:=hW;have hA:DataW.TrodAll enc Tryz.prog W 0 (fun _=>true) true Tryz.f7.params.toList args.toList ds p:=OQ;rw [Tryz.params7] at hA bI;obtain ⟨v0,vs0,d0,ds0,p0,q0,um,rfl,rfl,h0,r0⟩:=trodAll_cons hA;obtain ⟨v1,vs1,d1,ds1,p1,q1,rfl,rfl,rfl,h1,r1⟩:=trodAll_cons r0;obtain ⟨v2,vs2,d2,ds2,p2,q2,rfl,rfl,rfl,h2,r2⟩:=trodAll_cons r1;obtain ⟨v3,vs3,d3,ds3,p3,q3,rfl,rfl,rfl,h3,r3⟩:=trodAll_cons r2;obtain ⟨rfl,rfl,rfl⟩:=trodAll_nil r3;obtain rfl:args=#[v0,v1,v2,v3]:=by cases args;simp_all
 obtain ⟨rfl,rfl⟩:=trodVars_none hV;have lt0:∀ x∈p0,x.block < W.heap.size:=by obtain ⟨m,hm⟩:=h0;exact DataW.trod_lt m _ _ _ hm
 have Yq:∀ x∈p1,x.block < W.heap.size:=by obtain ⟨m,hm⟩:=h1;exact DataW.trod_lt m _ _ _ hm
 have lt2:∀ x∈p2,x.block < W.heap.size:=by obtain ⟨m,hm⟩:=h2;exact DataW.trod_lt m _ _ _ hm
 have lt3:∀ x∈p3,x.block < W.heap.size:=by obtain ⟨m,hm⟩:=h3;exact DataW.trod_lt m _ _ _ hm
 obtain ⟨p,g0⟩:=zmu (bI 0 25 v0 rfl rfl) h0;obtain ⟨f,g1⟩:=zl2 (bI 1 41 v1 rfl rfl) h1;obtain ⟨f2,g2⟩:=zl2 (bI 2 41 v2 rfl rfl) h2;obtain ⟨x,g3⟩:=zpV (bI 3 51 v3 rfl rfl) h3;clear OQ KR
 refine (zno p f f2 x v0 v1 v2 v3 W g0 g1 g2 g3).mono fun e W' ⟨he,Tj⟩=>?_
 subst he;exact ⟨_,rfl,_,_,_,[],_,[],hW',trodAll_mk1 (shut_bool Tryz.underlying4 _),(trodAll_cons_mk (Below.trod Vt (by kernel_rfl) (of_decide_eq_true (by kernel_rfl)) h0 Tj lt0) (trodAll_cons_mk (Below.trod Vt (by kernel_rfl) (of_decide_eq_true (by kernel_rfl)) h1 Tj Yq) (trodAll_cons_mk (Below.trod Vt (by kernel_rfl) (of_decide_eq_true (by kernel_rfl)) h2 Tj lt2) (trodAll_cons_mk (Below.trod Vt (by kernel_rfl) (of_decide_eq_true (by kernel_rfl)) h3 Tj lt3) trodAll_mk0)))),rfl,Tj.frame _,fun h=>by cases h⟩
theorem zlp:Rows.searchProofsRow.holds Tryz.pinned (OpenSpec.ofChange Rows.searchProofsSpec) :=
 OpenClaim.holds_of_wide 7 Tryz.f7 rfl rfl rfl rfl rfl rfl rfl ⟨rfl,rfl,rfl,rfl,rfl⟩ rfl rfl rfl rfl rfl (by kernel_rfl) Tryz.func7 (by kernel_rfl)
  (of_decide_eq_true (by kernel_rfl)) (by unfold Func.isWrapper;first|(rw [if_pos (by decide +kernel)];kernel_rfl)|(rw [if_neg (by decide +kernel)];exact ⟨rfl,rfl⟩))
  (fun os started H enc _=>zj7 os started H enc)
theorem proofs_proved:Rows.SearchProofsSaid:=zlp
#print axioms proofs_proved
end Go.Proofs.YtmmhnfghklppiaaGreat
