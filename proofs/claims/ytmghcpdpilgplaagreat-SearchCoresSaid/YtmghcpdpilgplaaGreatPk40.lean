/- A reader of numbers; problems whose boxes are read as data that nobody changes. 'boundstonelaw03.SearchCores': whatever the input, the call returns true, and each argument reads afterwards as it read before.
   No conditions. -/
import Derived.Test.YtmghcpdpilgplaaGreatPk39
import Derived.Test.YtmghcpdpilgplaaGreatPk25
import Derived.Test.YtmghcpdpilgplaaGreatPk38
namespace Go.Proofs.YtmghcpdpilgplaaGreat.Vm
open Go
set_option maxRecDepth 100000
section
variable {H:Type} {enc:TypeId×Value→H} {w:World} {sp:Nat→Bool} {held:Bool} {n:Nat} {cs:List Value} {x:DataW H×List MemPlace}
theorem rd_intsS (h:DataW.trod enc Tryz.prog w 0 sp held n 52 cs=some x) (hs:∀ a len cap,cs=[.slice (some a) len cap]→a.spot=none):∃ (s:Sl Int) (v:Value),cs=[v]∧Rep (InW w) w (s.pv intF 1) v :=
 rd_slice Tryz.underlying52 cellsInt (fun _=>rfl) (fun n cs x h=>by
  obtain ⟨a,rfl,_⟩:=rd_int h;exact ⟨a,.cons (.int ..) .nil⟩) h hs
theorem rd_course {r:Reach} {base:Nat} {v:Value} {d:DataW H} {ps:List MemPlace} (hok:Value.okWide Tryz.prog w r base 52 v) (h:DataW.Trod enc Tryz.prog w 0 sp held 52 v d ps):∃ c:Sl Int,Rep (InW w) w (c.pv intF 1) v:=by
 obtain ⟨a0,len,cap,rfl⟩:=Go.WideShapes.okWide_slice Tryz.underlying52 hok;obtain ⟨fuel,hf⟩:=h;obtain ⟨s,v,e,hr⟩:=rd_intsS hf (fun a len cap e=>by
  simp [Value.cells] at e;obtain ⟨rfl,rfl,rfl⟩:=e;unfold Value.okWide at hok;simp only [Tryz.underlying52] at hok;exact spot_of Tryz.underlying52 hok)
 simp [Value.cells] at e;subst e;exact ⟨s,hr⟩
theorem rep_cold {α:Type} {f:α→List PV} {sz:Nat} {s:Sl α} {v:Value} (h:Rep (InW w) w (s.pv f sz) v):Rep (InW w) w (s.cold.pv f sz) v:=by
 cases s with
 | nil=>exact h
 | mk b l =>
  generalize he:(Sl.mk b l).pv f sz=p at h
  cases h with
  | slice k sz' es b' o len cap val hlen hc hz hm h =>
   simp only [Sl.pv,PV.slice.injEq] at he;obtain ⟨rfl,rfl,rfl⟩:=he;exact .slice false _ _ b' o len cap val hlen hc hz hm h
  | _=>simp [Sl.pv] at he
theorem rep_coldP {p:Problem} {v:Value} (h:Rep (InW w) w (.agg p.cells) v):Rep (InW w) w (.agg (⟨p.boxes.cold,p.facts⟩:Problem).cells) v:=by
 generalize he:PV.agg p.cells=q at h
 cases h with
 | agg cs vs hl h =>
  simp only [PV.agg.injEq] at he;subst he
  refine .agg _ vs (by simpa using hl) fun i p' v' h1 h2=>?_
  match i,h1 with
  | 0,h1 =>
   simp only [Problem.cells,List.getElem?_cons_zero,Option.some.injEq] at h1;subst h1;exact rep_cold (h 0 _ v' rfl h2)
  | 1,h1 =>
   simp only [Problem.cells,List.getElem?_cons_succ,List.getElem?_cons_zero,Option.some.injEq] at h1;subst h1;exact h 1 _ v' rfl h2
  | i+2,h1=>simp [Problem.cells] at h1
 | _=>simp at he
theorem cold_cold {α:Type} (s:Sl α):s.cold.cold=s.cold:=by cases s<;>rfl
end
end Go.Proofs.YtmghcpdpilgplaaGreat.Vm
namespace Go.Proofs.YtmghcpdpilgplaaGreat
open Go Go.ChangeShapes Go.WideShapes Go.ChangeAt Go.RowKit Go.Proofs.YtmghcpdpilgplaaGreat.Vm
theorem own:ownKnob Tryz.prog.godebug=none:=by kernel_rfl
theorem laidOut:laidOutB Tryz.prog=true:=by kernel_rfl
theorem coresWalk (p:Problem) (o:Sl Int) (v0 v1:Value) (w:World) (h0:Rep (InW w) w (.agg p.cells) v0) (h1:Rep (InW w) w (o.pv intF 1) v1):Calls Tryz.prog 7 #[v0,v1] w
  fun e w'=>e=.returned (.bool true)∧Below w.heap.size w w':=by
 have h:=(callP_sound gOk (cores_law ⟨p.boxes.cold,p.facts⟩ o (cold_cold _))).2 0 (InW w) w [v0,v1] (fun _ _ h=>h) (.cons (rep_coldP h0) (.cons h1 .nil))
 refine (callsIn_wide.1 h).mono fun e w' ⟨v,he,hb,hv⟩=>?_
 rw [hv.bool_inv] at he;exact ⟨he,hb⟩
set_option maxRecDepth 100000 in
theorem coresLifted (os:Os) (started:os.Started) (H:Type) (enc:TypeId×Value→H) :
  ReturnsInHanded {} Tryz.checked os 7 .any (Rows.searchCoresSpec.pre6 enc Tryz.prog Tryz.f7 Rows.searchCoresRow.domain false) (Rows.searchCoresSpec.post enc Tryz.prog Tryz.f7 false true false false):=by
 refine returnsInHanded_of_change (C:=Tryz.checked) own started (by kernel_rfl) Tryz.func7
  (ChangeSpec.witness6 (enc:=enc) (C:=Tryz.checked) false ⟨#[],#[.agg #[.slice none 0 0,.slice none 0 0],.slice none 0 0],[]⟩ 8 (by kernel_rfl) (by kernel_rfl) (by kernel_rfl) (by kernel_rfl)) ?_
 intro W base args ds gs before hval0 hW hcnd _;have hval:∀ (j:Nat) t v,Tryz.f7.params[j]?=some t→args[j]?=some v→Value.okWide Tryz.prog W .any base t v:=hval0;have hW':=hW;obtain ⟨p,q,hA0,hV,rfl,hfz,hnd⟩:=hW;have hA:DataW.TrodAll enc Tryz.prog W 0 (fun _=>true) true Tryz.f7.params.toList args.toList ds p:=hA0;rw [Tryz.params7] at hA hval;obtain ⟨v0,vs0,d0,ds0,p0,q0,hargs,rfl,rfl,h0,r0⟩:=trodAll_cons hA;obtain ⟨v1,vs1,d1,ds1,p1,q1,rfl,rfl,rfl,h1,r1⟩:=trodAll_cons r0;obtain ⟨rfl,rfl,rfl⟩:=trodAll_nil r1;obtain rfl:args=#[v0,v1]:=by cases args;simp_all
 obtain ⟨rfl,rfl⟩:=trodVars_none hV;have lt0:∀ x∈p0,x.block < W.heap.size:=by obtain ⟨m,hm⟩:=h0;exact DataW.trod_lt m _ _ _ hm
 have lt1:∀ x∈p1,x.block < W.heap.size:=by obtain ⟨m,hm⟩:=h1;exact DataW.trod_lt m _ _ _ hm
 obtain ⟨p,g0⟩:=rd_problem (hval 0 25 v0 rfl rfl) h0;obtain ⟨o,g1⟩:=rd_course (hval 1 52 v1 rfl rfl) h1;clear hA0 hval0
 refine (coresWalk p o v0 v1 W g0 g1).mono fun e W' ⟨he,bel⟩=>?_
 subst he;exact ⟨_,rfl,_,_,_,[],_,[],hW',trodAll_mk1 (shut_bool Tryz.underlying4 _),(trodAll_cons_mk (Below.trod laidOut (by kernel_rfl) (of_decide_eq_true (by kernel_rfl)) h0 bel lt0) (trodAll_cons_mk (Below.trod laidOut (by kernel_rfl) (of_decide_eq_true (by kernel_rfl)) h1 bel lt1) trodAll_mk0)),rfl,bel.frame _,fun h=>by cases h⟩
theorem cores_over:Rows.searchCoresRow.holds Tryz.pinned (OpenSpec.ofChange Rows.searchCoresSpec) :=
 OpenClaim.holds_of_wide 7 Tryz.f7 rfl rfl rfl rfl rfl rfl rfl ⟨rfl,rfl,rfl,rfl,rfl⟩ rfl rfl rfl rfl rfl (by kernel_rfl) Tryz.func7 (by kernel_rfl)
  (of_decide_eq_true (by kernel_rfl)) (by unfold Func.isWrapper;first|(rw [if_pos (by decide +kernel)];kernel_rfl)|(rw [if_neg (by decide +kernel)];exact ⟨rfl,rfl⟩))
  (fun os started H enc _=>coresLifted os started H enc)
theorem cores_proved:Rows.SearchCoresSaid:=cores_over
#print axioms cores_proved
end Go.Proofs.YtmghcpdpilgplaaGreat
