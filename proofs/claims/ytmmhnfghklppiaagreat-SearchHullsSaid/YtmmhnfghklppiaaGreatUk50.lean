/- 'boundstonelaw03.SearchHulls': whatever the input, the call returns true, and each argument reads afterwards as it read before.
   No conditions. -/
import Derived.Test.YtmmhnfghklppiaaGreatUk48
import Derived.Test.YtmmhnfghklppiaaGreatUk49
set_option linter.unusedSimpArgs false
namespace Go.Proofs.YtmmhnfghklppiaaGreat
open Go Go.ChangeShapes Go.WideShapes Go.ChangeAt Go.RowKit Go.Proofs.YtmmhnfghklppiaaGreat.Vm
set_option linter.unusedVariables false
theorem own:ownKnob Tryz.prog.godebug=none:=by kernel_rfl
theorem zo1:laidOutB Tryz.prog=true:=by kernel_rfl
theorem zpv (p:Problem) (point:Int) (v0:Value) (w:World) (h0:bR (GU w) w (.agg p.cells) v0):Calls Tryz.prog 6 #[v0,.int .i64 point] w
  fun e w'=>e=.returned (.bool true)/\Below w.heap.size w w':=by
 have h:=(zl2 gOk (zpY p point)).2 0 (GU w) w [v0,.int .i64 point] (fun _ _ h=>h) (.cons h0 (.cons (.int ..) .nil))
 refine (callsIn_wide.1 h).mono fun e w' ⟨v,he,hb,hv⟩=>?_
 rw [hv.iF] at he;exact ⟨he,hb⟩
set_option maxRecDepth 100000 in
theorem zmT (os:Os) (started:os.Started) (H:Type) (enc:TypeId×Value->H) :
  ReturnsInHanded {} Tryz.checked os 6 .any (Rows.searchHullsSpec.pre6 enc Tryz.prog Tryz.f6 Rows.searchHullsRow.domain false) (Rows.searchHullsSpec.post enc Tryz.prog Tryz.f6 false true false false):=by
 refine returnsInHanded_of_change (C:=Tryz.checked) own started (by kernel_rfl) Tryz.func6
  (ChangeSpec.witness6 (enc:=enc) (C:=Tryz.checked) false ⟨#[],#[.agg #[.slice none 0 0,.slice none 0 0],.int .i64 0],[]⟩ 8 (by kernel_rfl) (by kernel_rfl) (by kernel_rfl) (by kernel_rfl)) ?_
 intro W base args ds gs before OZ hW hcnd _;have bX:∀ (j:Nat) t v,Tryz.f6.params[j]?=some t->args[j]?=some v->Value.okWide Tryz.prog W .any base t v:=OZ;have hW':=hW;obtain ⟨p,q,Tv,hV,rfl,Ud,tZ⟩:=hW;have hA:DataW.TrodAll enc Tryz.prog W 0 (fun _=>true) true Tryz.f6.params.toList args.toList ds p:=Tv;rw [Tryz.params6] at hA bX;obtain ⟨v0,vs0,d0,ds0,p0,q0,xM,rfl,rfl,h0,r0⟩:=trodAll_cons hA;obtain ⟨v1,vs1,d1,ds1,p1,q1,rfl,rfl,rfl,h1,r1⟩:=trodAll_cons r0;obtain ⟨rfl,rfl,rfl⟩:=trodAll_nil r1;obtain rfl:args=#[v0,v1]:=by cases args;simp_all
 obtain ⟨rfl,rfl⟩:=trodVars_none hV;have lt0:∀ x∈p0,x.block < W.heap.size:=by obtain ⟨m,hm⟩:=h0;exact DataW.trod_lt m _ _ _ hm
 have lt1:∀ x∈p1,x.block < W.heap.size:=by obtain ⟨m,hm⟩:=h1;exact DataW.trod_lt m _ _ _ hm
 obtain ⟨p,g0⟩:=znO (bX 0 25 v0 rfl rfl) h0;obtain ⟨point,rfl⟩:=okWide_int Tryz.underlying3 (bX 1 3 v1 rfl rfl);clear Tv OZ
 refine (zpv p point v0 W g0).mono fun e W' ⟨he,bel⟩=>?_
 subst he;exact ⟨_,rfl,_,_,_,[],_,[],hW',trodAll_mk1 (shut_bool Tryz.underlying4 _),(trodAll_cons_mk (Below.trod zo1 (by kernel_rfl) (of_decide_eq_true (by kernel_rfl)) h0 bel lt0) (trodAll_cons_mk (Below.trod zo1 (by kernel_rfl) (of_decide_eq_true (by kernel_rfl)) h1 bel lt1) trodAll_mk0)),rfl,bel.frame _,fun h=>by cases h⟩
theorem zm8:Rows.searchHullsRow.holds Tryz.pinned (OpenSpec.ofChange Rows.searchHullsSpec) :=
 OpenClaim.holds_of_wide 6 Tryz.f6 rfl rfl rfl rfl rfl rfl rfl ⟨rfl,rfl,rfl,rfl,rfl⟩ rfl rfl rfl rfl rfl (by kernel_rfl) Tryz.func6 (by kernel_rfl)
  (of_decide_eq_true (by kernel_rfl)) (by unfold Func.isWrapper;first|(rw [if_pos (by decide +kernel)];kernel_rfl)|(rw [if_neg (by decide +kernel)];exact ⟨rfl,rfl⟩))
  (fun os started H enc _=>zmT os started H enc)
theorem hulls_proved:Rows.SearchHullsSaid:=zm8
#print axioms hulls_proved
end Go.Proofs.YtmmhnfghklppiaaGreat
