/- 'boundstonelaw03.SearchIsRight': whatever the input, the call returns true, and each argument reads afterwards as it read before.
   No conditions. -/
import Derived.Test.YtmmhnfghklppiaaGreatQk44
import Derived.Test.YtmmhnfghklppiaaGreatQk45
namespace Go.Proofs.YtmmhnfghklppiaaGreat
open Go Go.ChangeShapes Go.WideShapes Go.ChangeAt Go.RowKit Go.Proofs.YtmmhnfghklppiaaGreat.Vm
set_option linter.unusedVariables false
theorem own:ownKnob Tryz.prog.godebug=none:=by kernel_rfl
theorem zfS:laidOutB Tryz.prog=true:=by kernel_rfl
theorem zpu (p:Problem) (f:Fact) (at_:Sl Pt) (tree:Sl Vm.Node) (point:Int) (v0 v1 v2 v3:Value) (w:World) (h0:Rep (InW w) w (.agg p.cells) v0) (h1:Rep (InW w) w (.agg f.cells) v1) (h2:Rep (InW w) w (at_.pv Pt.cells 2) v2) (h3:Rep (InW w) w (tree.pv Node.cells 4) v3):Calls Tryz.prog 8 #[v0,v1,v2,v3,.int .i64 point] w
  fun e w'=>e=.returned (.bool true)/\Below w.heap.size w w':=by
 have h:=(zli gOk (zpG p f at_ tree point)).2 0 (InW w) w [v0,v1,v2,v3,.int .i64 point] (fun _ _ h=>h) (.cons h0 (.cons h1 (.cons h2 (.cons h3 (.cons (.int ..) .nil)))))
 refine (callsIn_wide.1 h).mono fun e w' ⟨v,he,hb,hv⟩=>?_
 rw [hv.bool_inv] at he;exact ⟨he,hb⟩
set_option maxRecDepth 100000 in
theorem zlr (os:Os) (started:os.Started) (H:Type) (enc:TypeId×Value->H) :
  ReturnsInHanded {} Tryz.checked os 8 .any (Rows.searchIsRightSpec.pre6 enc Tryz.prog Tryz.f8 Rows.searchIsRightRow.domain false) (Rows.searchIsRightSpec.post enc Tryz.prog Tryz.f8 false true false false):=by
 refine returnsInHanded_of_change (C:=Tryz.checked) own started (by kernel_rfl) Tryz.func8
  (ChangeSpec.witness6 (enc:=enc) (C:=Tryz.checked) false ⟨#[],#[.agg #[.slice none 0 0,.slice none 0 0],.agg #[.int .i64 0,.int .i64 0,.bool false,.int .i64 0,.int .i64 0,.int .i64 0,.int .i64 0,.int .i64 0,.int .i64 0],.slice none 0 0,.slice none 0 0,.int .i64 0],[]⟩ 8 (by kernel_rfl) (by kernel_rfl) (by kernel_rfl) (by kernel_rfl)) ?_
 intro W base args ds gs before hval0 hW hcnd _;have hval:∀ (j:Nat) t v,Tryz.f8.params[j]?=some t->args[j]?=some v->Value.okWide Tryz.prog W .any base t v:=hval0;have hW':=hW;obtain ⟨p,q,hA0,hV,rfl,hfz,hnd⟩:=hW;have hA:DataW.TrodAll enc Tryz.prog W 0 (fun _=>true) true Tryz.f8.params.toList args.toList ds p:=hA0;rw [Tryz.params8] at hA hval;obtain ⟨v0,vs0,d0,ds0,p0,q0,hargs,rfl,rfl,h0,r0⟩:=trodAll_cons hA;obtain ⟨v1,vs1,d1,ds1,p1,q1,rfl,rfl,rfl,h1,r1⟩:=trodAll_cons r0;obtain ⟨v2,vs2,d2,ds2,p2,q2,rfl,rfl,rfl,h2,r2⟩:=trodAll_cons r1;obtain ⟨v3,vs3,d3,ds3,p3,q3,rfl,rfl,rfl,h3,r3⟩:=trodAll_cons r2;obtain ⟨v4,vs4,d4,ds4,p4,q4,rfl,rfl,rfl,h4,r4⟩:=trodAll_cons r3;obtain ⟨rfl,rfl,rfl⟩:=trodAll_nil r4;obtain rfl:args=#[v0,v1,v2,v3,v4]:=by cases args;simp_all
 obtain ⟨rfl,rfl⟩:=trodVars_none hV;have lt0:∀ x∈p0,x.block < W.heap.size:=by obtain ⟨m,hm⟩:=h0;exact DataW.trod_lt m _ _ _ hm
 have lt1:∀ x∈p1,x.block < W.heap.size:=by obtain ⟨m,hm⟩:=h1;exact DataW.trod_lt m _ _ _ hm
 have lt2:∀ x∈p2,x.block < W.heap.size:=by obtain ⟨m,hm⟩:=h2;exact DataW.trod_lt m _ _ _ hm
 have lt3:∀ x∈p3,x.block < W.heap.size:=by obtain ⟨m,hm⟩:=h3;exact DataW.trod_lt m _ _ _ hm
 have lt4:∀ x∈p4,x.block < W.heap.size:=by obtain ⟨m,hm⟩:=h4;exact DataW.trod_lt m _ _ _ hm
 obtain ⟨p,g0⟩:=znV (hval 0 25 v0 rfl rfl) h0;obtain ⟨f,g1⟩:=zq8 (hval 1 41 v1 rfl rfl) h1;obtain ⟨at_,g2⟩:=znP (hval 2 33 v2 rfl rfl) h2;obtain ⟨tree,g3⟩:=zo1 (hval 3 28 v3 rfl rfl) h3;obtain ⟨point,rfl⟩:=okWide_int Tryz.underlying3 (hval 4 3 v4 rfl rfl);clear hA0 hval0
 refine (zpu p f at_ tree point v0 v1 v2 v3 W g0 g1 g2 g3).mono fun e W' ⟨he,bel⟩=>?_
 subst he;exact ⟨_,rfl,_,_,_,[],_,[],hW',trodAll_mk1 (shut_bool Tryz.underlying4 _),(trodAll_cons_mk (Below.trod zfS (by kernel_rfl) (of_decide_eq_true (by kernel_rfl)) h0 bel lt0) (trodAll_cons_mk (Below.trod zfS (by kernel_rfl) (of_decide_eq_true (by kernel_rfl)) h1 bel lt1) (trodAll_cons_mk (Below.trod zfS (by kernel_rfl) (of_decide_eq_true (by kernel_rfl)) h2 bel lt2) (trodAll_cons_mk (Below.trod zfS (by kernel_rfl) (of_decide_eq_true (by kernel_rfl)) h3 bel lt3) (trodAll_cons_mk (Below.trod zfS (by kernel_rfl) (of_decide_eq_true (by kernel_rfl)) h4 bel lt4) trodAll_mk0))))),rfl,bel.frame _,fun h=>by cases h⟩
theorem znm:Rows.searchIsRightRow.holds Tryz.pinned (OpenSpec.ofChange Rows.searchIsRightSpec) :=
 OpenClaim.holds_of_wide 8 Tryz.f8 rfl rfl rfl rfl rfl rfl rfl ⟨rfl,rfl,rfl,rfl,rfl⟩ rfl rfl rfl rfl rfl (by kernel_rfl) Tryz.func8 (by kernel_rfl)
  (of_decide_eq_true (by kernel_rfl)) (by unfold Func.isWrapper;first|(rw [if_pos (by decide +kernel)];kernel_rfl)|(rw [if_neg (by decide +kernel)];exact ⟨rfl,rfl⟩))
  (fun os started H enc _=>zlr os started H enc)
theorem right_proved:Rows.SearchIsRightSaid:=znm
#print axioms right_proved
end Go.Proofs.YtmmhnfghklppiaaGreat
