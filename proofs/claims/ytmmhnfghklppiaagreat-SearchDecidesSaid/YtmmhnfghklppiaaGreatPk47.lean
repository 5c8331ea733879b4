/- 'boundstonelaw03.SearchDecides': whatever the input, the call returns true, and each argument reads afterwards as it read before.
   No conditions. -/
import Derived.Test.YtmmhnfghklppiaaGreatPk45
import Derived.Test.YtmmhnfghklppiaaGreatPk46
namespace Go.Proofs.YtmmhnfghklppiaaGreat
open Go Go.ChangeShapes Go.WideShapes Go.ChangeAt Go.RowKit Go.Proofs.YtmmhnfghklppiaaGreat.Vm
set_option linter.unusedVariables false
theorem own:ownKnob Tryz.prog.godebug=none:=by kernel_rfl
theorem zo2:laidOutB Tryz.prog=true:=by kernel_rfl
theorem zls (p:Problem) (f:Fact) (v0 v1:Value) (w:World) (h0:Rep (InW w) w (.agg p.cells) v0) (h1:Rep (InW w) w (.agg f.cells) v1):Calls Tryz.prog 4 #[v0,v1] w
  fun e w'=>e=.returned (.bool true)/\Below w.heap.size w w':=by
 have h:=(zl5 gOk (zmk p f)).2 0 (InW w) w [v0,v1] (fun _ _ h=>h) (.cons h0 (.cons h1 .nil))
 refine (callsIn_wide.1 h).mono fun e w' ⟨v,he,hb,hv⟩=>?_
 rw [hv.bool_inv] at he;exact ⟨he,hb⟩
set_option maxRecDepth 100000 in
theorem zjf (os:Os) (started:os.Started) (H:Type) (enc:TypeId×Value->H) :
  ReturnsInHanded {} Tryz.checked os 4 .any (Rows.searchDecidesSpec.pre6 enc Tryz.prog Tryz.f4 Rows.searchDecidesRow.domain false) (Rows.searchDecidesSpec.post enc Tryz.prog Tryz.f4 false true false false):=by
 refine returnsInHanded_of_change (C:=Tryz.checked) own started (by kernel_rfl) Tryz.func4
  (ChangeSpec.witness6 (enc:=enc) (C:=Tryz.checked) false ⟨#[],#[.agg #[.slice none 0 0,.slice none 0 0],.agg #[.int .i64 0,.int .i64 0,.bool false,.int .i64 0,.int .i64 0,.int .i64 0,.int .i64 0,.int .i64 0,.int .i64 0]],[]⟩ 8 (by kernel_rfl) (by kernel_rfl) (by kernel_rfl) (by kernel_rfl)) ?_
 intro W base args ds gs before hval0 hW hcnd _;have hval:∀ (j:Nat) t v,Tryz.f4.params[j]?=some t->args[j]?=some v->Value.okWide Tryz.prog W .any base t v:=hval0;have hW':=hW;obtain ⟨p,q,hA0,hV,rfl,hfz,hnd⟩:=hW;have hA:DataW.TrodAll enc Tryz.prog W 0 (fun _=>true) true Tryz.f4.params.toList args.toList ds p:=hA0;rw [Tryz.params4] at hA hval;obtain ⟨v0,vs0,d0,ds0,p0,q0,hargs,rfl,rfl,h0,r0⟩:=trodAll_cons hA;obtain ⟨v1,vs1,d1,ds1,p1,q1,rfl,rfl,rfl,h1,r1⟩:=trodAll_cons r0;obtain ⟨rfl,rfl,rfl⟩:=trodAll_nil r1;obtain rfl:args=#[v0,v1]:=by cases args;simp_all
 obtain ⟨rfl,rfl⟩:=trodVars_none hV;have lt0:∀ x∈p0,x.block < W.heap.size:=by obtain ⟨m,hm⟩:=h0;exact DataW.trod_lt m _ _ _ hm
 have lt1:∀ x∈p1,x.block < W.heap.size:=by obtain ⟨m,hm⟩:=h1;exact DataW.trod_lt m _ _ _ hm
 obtain ⟨p,g0⟩:=zn2 (hval 0 25 v0 rfl rfl) h0;obtain ⟨f,g1⟩:=zrl (hval 1 41 v1 rfl rfl) h1;clear hA0 hval0
 refine (zls p f v0 v1 W g0 g1).mono fun e W' ⟨he,bel⟩=>?_
 subst he;exact ⟨_,rfl,_,_,_,[],_,[],hW',trodAll_mk1 (shut_bool Tryz.underlying4 _),(trodAll_cons_mk (Below.trod zo2 (by kernel_rfl) (of_decide_eq_true (by kernel_rfl)) h0 bel lt0) (trodAll_cons_mk (Below.trod zo2 (by kernel_rfl) (of_decide_eq_true (by kernel_rfl)) h1 bel lt1) trodAll_mk0)),rfl,bel.frame _,fun h=>by cases h⟩
theorem zk3:Rows.searchDecidesRow.holds Tryz.pinned (OpenSpec.ofChange Rows.searchDecidesSpec) :=
 OpenClaim.holds_of_wide 4 Tryz.f4 rfl rfl rfl rfl rfl rfl rfl ⟨rfl,rfl,rfl,rfl,rfl⟩ rfl rfl rfl rfl rfl (by kernel_rfl) Tryz.func4 (by kernel_rfl)
  (of_decide_eq_true (by kernel_rfl)) (by unfold Func.isWrapper;first|(rw [if_pos (by decide +kernel)];kernel_rfl)|(rw [if_neg (by decide +kernel)];exact ⟨rfl,rfl⟩))
  (fun os started H enc _=>zjf os started H enc)
theorem decides_proved:Rows.SearchDecidesSaid:=zk3
#print axioms decides_proved
end Go.Proofs.YtmmhnfghklppiaaGreat
