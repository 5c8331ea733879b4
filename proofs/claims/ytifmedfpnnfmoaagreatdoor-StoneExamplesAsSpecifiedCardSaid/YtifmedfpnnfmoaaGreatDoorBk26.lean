/- 'boundstonelaw05.StoneExamplesAsSpecified': whatever the input, the call returns true, and each argument reads afterwards as it read before.
   No conditions. -/
import Derived.Test.YtifmedfpnnfmoaaGreatDoorBk22
import Derived.Test.YtifmedfpnnfmoaaGreatDoorBk23
import Derived.Test.YtifmedfpnnfmoaaGreatDoorBk24
import Derived.Test.YtifmedfpnnfmoaaGreatDoorBk25
import Derived.Test.YtifmedfpnnfmoaaGreatDoorTie
import Derived.Test.YtifmedfpnnfmoaaGreatDoorCards
import Derived.LaidMore
import Derived.Lay
import Derived.MakeChecks
import Derived.SevenTiedAt
import Derived.Stop.Joined
set_option linter.unusedSimpArgs false
namespace Go.Proofs.YtifmedfpnnfmoaaGreatDoor
open Go Go.ChangeShapes Go.WideShapes Go.ChangeAt Go.RowKit Go.Proofs.YtifmedfpnnfmoaaGreatDoor.Vm
set_option linter.unusedVariables false
theorem own:ownKnob Tryz.prog.godebug=none:=by kernel_rfl
theorem zkx:laidOutB Tryz.prog=true:=by kernel_rfl
theorem zk7 (l:Life) (c:Sl Int) (v0 v1:Value) (w:World) (hgl:Vm.GlobW w) (h0:Rep (InW w) w (.agg l.cells) v0) (h1:Rep (InW w) w (c.pv intF 1) v1):Calls Tryz.prog 3 #[v0,v1] w
  fun e w'=>e=.returned (.bool true)/\Below w.heap.size w w':=by
 have h:=(ziP gOk (zlu l c)).2 0 (InW w) w [v0,v1] (fun _ _ h=>h) hgl (.cons h0 (.cons h1 .nil))
 refine (callsIn_wide.1 h).mono fun e w' ⟨v,he,hb,hv⟩=>?_
 rw [hv.bool_inv] at he;exact ⟨he,hb⟩
set_option maxRecDepth 100000 in
theorem zjk (os:Os) (started:os.Started) (H:Type) (enc:TypeId×Value->H) :
  ReturnsInHanded {} Tryz.checked os 3 .any (fun w args=>(Rows.stoneExamplesAsSpecifiedSpec.pre enc Tryz.prog Tryz.f3 Rows.stoneExamplesAsSpecifiedRow.domain false w args/\laidMetH Tryz.prog Rows.stoneExamplesAsSpecifiedRow.laid w)/\sizedMet enc Tryz.prog Tryz.f3 (OpenSpec.ofChange Rows.stoneExamplesAsSpecifiedSpec) false w args) (Rows.stoneExamplesAsSpecifiedSpec.post enc Tryz.prog Tryz.f3 false true false false):=by
 refine zdF (C:=Tryz.checked) (X:=fun w _=>laidMetH Tryz.prog Rows.stoneExamplesAsSpecifiedRow.laid w) (fun _ _ _ hh h=>h.of_heap hh) own started (by kernel_rfl) Tryz.func3
  (ChangeSpec.witness_shaped (enc:=enc) (C:=Tryz.checked) (os:=os) (X:=fun w _=>laidMetH Tryz.prog Rows.stoneExamplesAsSpecifiedRow.laid w) false (World.laidAll Tryz.prog os Rows.stoneExamplesAsSpecifiedRow.laid) #[.agg #[.int .i64 0,.int .i64 0,.int .i64 0,.slice none 0 0,.slice none 0 0],.slice none 0 0] 8 (World.laidAll_os _ _ _)
   (World.shaped_of_ZipB (by kernel_rfl) (by kernel_rfl)) (by kernel_rfl) (by kernel_rfl) (by kernel_rfl)
   (by rw [MakeChecks.laidMetH_plain _ _ _ (by kernel_rfl)];exact laidMet_laidAll _ (by kernel_rfl) (by kernel_rfl))) ?_
 intro W base args ds gs before hval0 hW hsh;have hval:∀ (j:Nat) t v,Tryz.f3.params[j]?=some t->args[j]?=some v->Value.okWide Tryz.prog W .any base t v:=hval0;have hW':=hW;obtain ⟨p,q,hA0,hV,rfl,hfz,hnd⟩:=hW;have hA:DataW.TrodAll enc Tryz.prog W 0 (fun _=>true) true Tryz.f3.params.toList args.toList ds p:=hA0;rw [Tryz.params3] at hA hval;obtain ⟨v0,vs0,d0,ds0,p0,q0,hargs,rfl,rfl,h0,r0⟩:=trodAll_cons hA;obtain ⟨v1,vs1,d1,ds1,p1,q1,rfl,rfl,rfl,h1,r1⟩:=trodAll_cons r0;obtain ⟨rfl,rfl,rfl⟩:=trodAll_nil r1;obtain rfl:args=#[v0,v1]:=by cases args;simp_all
 obtain ⟨rfl,rfl⟩:=trodVars_none hV;have lt0:∀ x∈p0,x.block < W.heap.size:=by obtain ⟨m,hm⟩:=h0;exact DataW.trod_lt m _ _ _ hm
 have lt1:∀ x∈p1,x.block < W.heap.size:=by obtain ⟨m,hm⟩:=h1;exact DataW.trod_lt m _ _ _ hm
 obtain ⟨l,g0⟩:=zmO (hval 0 27 v0 rfl rfl) h0;obtain ⟨c,g1⟩:=zk8 (hval 1 28 v1 rfl rfl) h1;clear hA0 hval0
 refine (zk7 l c v0 v1 W (globW hsh) g0 g1).mono fun e W' ⟨he,bel⟩=>?_
 subst he;exact ⟨_,rfl,_,_,_,[],_,[],hW',trodAll_mk1 (shut_bool Tryz.underlying4 _),(trodAll_cons_mk (Below.trod zkx (by kernel_rfl) (of_decide_eq_true (by kernel_rfl)) h0 bel lt0) (trodAll_cons_mk (Below.trod zkx (by kernel_rfl) (of_decide_eq_true (by kernel_rfl)) h1 bel lt1) trodAll_mk0)),rfl,bel.frame _,fun h=>by cases h⟩
theorem zjz:Rows.stoneExamplesAsSpecifiedRow.holds Tryz.pinned (OpenSpec.ofChange Rows.stoneExamplesAsSpecifiedSpec) :=
 OpenClaim.holds_of_wide 3 Tryz.f3 rfl rfl rfl rfl rfl rfl rfl ⟨rfl,rfl,rfl,rfl,rfl⟩ rfl rfl rfl rfl rfl (by kernel_rfl) Tryz.func3 (by kernel_rfl)
  (of_decide_eq_true (by kernel_rfl)) (by unfold Func.isWrapper;first|(rw [if_pos (by decide +kernel)];kernel_rfl)|(rw [if_neg (by decide +kernel)];exact ⟨rfl,rfl⟩))
  (fun os started H enc _=>zjk os started H enc)
theorem xspec_proved:Rows.StoneExamplesAsSpecifiedCardSaid :=
 Claim7.holds_tied_plain_at .later [] [.data, .pinned] true (true, "e5166ea6b3f1bb5abedf01c366376d1194e8d76fd3f829d729be1600cd22aa72") false zjz (fun _ h => by cases h) (by kernel_rfl) (fun _ h => by cases h) stoneExamplesAsSpecified_row_tie rfl ⟨rfl, rfl⟩ (by kernel_rfl) rfl
  (fun f fn hf hfn=>by
   obtain rfl : f = 3 := Option.some.inj ((show Tryz.prog.funcNamed "boundstone/boundstonelaw05.StoneExamplesAsSpecified" = some 3 by kernel_rfl).symm.trans hf) |>.symm
   obtain rfl:fn=Tryz.f3:=(Option.some.inj (Tryz.func3.symm.trans hfn)).symm;exact ⟨by kernel_rfl,fun j t ht=>by
    rw [Tryz.params3] at ht;have hm:t∈[27,28]:=by simpa using Array.mem_of_getElem? ht
    have hall:([27,28].all fun u=>!Tryz.prog.wantsStandIn u)=true:=by kernel_rfl
    exact (show Tryz.prog.wantsStandIn t=false by simpa using List.all_eq_true.1 hall t hm)⟩)
  (by kernel_rfl)
#print axioms xspec_proved
end Go.Proofs.YtifmedfpnnfmoaaGreatDoor
