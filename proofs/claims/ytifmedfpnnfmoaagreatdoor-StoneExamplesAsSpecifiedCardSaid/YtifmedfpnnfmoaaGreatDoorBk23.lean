/- From what an argument reads as, to the data of the machine of values. -/
import Derived.Test.YtifmedfpnnfmoaaGreatDoorRows
import Derived.Test.YtifmedfpnnfmoaaGreatDoorBk15
import Derived.WalkKit
import Derived.ProofKit
import Derived.OpenShut
import Derived.ShutString
import Derived.ChangeOld
import Derived.Below
namespace Go.Proofs.YtifmedfpnnfmoaaGreatDoor.Vm
open Go
set_option linter.unusedVariables false
set_option linter.unusedSimpArgs false
set_option maxRecDepth 100000
section
variable {H:Type} {enc:TypeId×Value->H} {P:Program} {w:World} {base:Nat} {sp:Nat->Bool} {held:Bool}
theorem PReps.nil {I:Bool->Nat->Prop}:PReps I w [] []:=⟨rfl,fun i p v h=>by simp at h⟩
theorem PReps.cons {I:Bool->Nat->Prop} {p:PV} {v:Value} {ps:List PV} {vs:List Value} (h:Rep I w p v) (hs:PReps I w ps vs):PReps I w (p::ps) (v::vs) :=
 ⟨by simp [hs.1],fun i q u hq hu=>by
  cases i with
  | zero=>simp at hq hu;subst hq;subst hu;exact h
  | succ i=>simp at hq hu;exact hs.2 i q u hq hu⟩
theorem zi1 {α β:Type} {f:α->Option β}:∀ {l:List α} {ys:List β},l.mapM f=some ys->∀ a∈l,∃ y,f a=some y
 | [],ys,h,a,ha=>by simp at ha
 | b::l,ys,h,a,ha=>by
  rw [List.mapM_cons] at h
  cases hb:f b with
  | none=>simp [hb] at h
  | some y =>
   cases hl:l.mapM f with
   | none=>simp [hb,hl] at h
   | some zs =>
    rcases List.mem_cons.1 ha with rfl|h1
    ·exact ⟨y,hb⟩
    ·exact zi1 hl a h1
theorem zbC {t:TypeId} {fs:Array Field} {n:Nat} {cs:List Value} {x:DataW H×List MemPlace} (ht:P.underlying t=some (.struct fs)) (h:DataW.trod enc P w base sp held n t cs=some x) :
  cs.length=P.cellsOf t/\∃ m,∀ f∈fs.toList,∃ y,DataW.trod enc P w base sp held m f.type ((cs.drop f.offset).take (P.cellsOf f.type))=some y:=by
 cases n with
 | zero=>simp [DataW.trod] at h
 | succ m =>
  unfold DataW.trod at h;simp only [ht] at h
  split at h
  ·rename_i hl
   refine ⟨hl,m,?_⟩
   cases hm:fs.toList.mapM fun f=>DataW.trod enc P w base sp held m f.type ((cs.drop f.offset).take (P.cellsOf f.type)) with
   | none=>simp [hm] at h
   | some ys=>exact zi1 hm
  ·simp at h
end
section
variable {H:Type} {enc:TypeId×Value->H} {w:World} {base:Nat} {sp:Nat->Bool} {held:Bool} {n:Nat} {cs:List Value} {x:DataW H×List MemPlace}
theorem zdM:Tryz.prog.cellsOf 3=1:=by kernel_rfl
theorem ziI:Tryz.prog.cellsOf 9=1:=by kernel_rfl
theorem zeW:Tryz.prog.cellsOf 58=2:=by kernel_rfl
theorem zii:Tryz.prog.cellsOf 60=4:=by kernel_rfl
theorem zgF:Tryz.prog.cellsOf 62=9:=by kernel_rfl
theorem zb7 (h:DataW.trod enc Tryz.prog w base sp held n 3 cs=some x):∃ a,cs=[.int .i64 a]/\(Lit.int .i64 a).wf=true:=by
 obtain ⟨a,h1,_,h2⟩:=DataW.trod_int Tryz.underlying3 h;exact ⟨a,h1,h2⟩
theorem zkQ (h:DataW.trod enc Tryz.prog w base sp held n 9 cs=some x):∃ l:List UInt8,cs=[.string ⟨l.toArray⟩]:=by
 obtain ⟨s,h1,_,h2⟩:=DataW.trod_string Tryz.underlying9 h;exact ⟨s.data.toList,by rw [h1]⟩
theorem zhy (h:DataW.trod enc Tryz.prog w base sp held n 58 cs=some x):∃ s:Span,cs=[.int .i64 s.lo,.int .i64 s.hi]:=by
 obtain ⟨hl,m,hf⟩:=zbC Tryz.underlying58 h;rw [zeW] at hl
 match cs,hl with
 | [c0,c1],_ =>
  simp only [List.toList_toArray,List.mem_cons,List.not_mem_nil,or_false,forall_eq_or_imp,forall_eq,zdM,List.drop,List.take] at hf;obtain ⟨⟨y0,h0⟩,⟨y1,h1⟩⟩:=hf;obtain ⟨a,e0,_⟩:=zb7 h0;obtain ⟨b,e1,_⟩:=zb7 h1;simp at e0 e1;exact ⟨⟨a,b⟩,by rw [e0,e1]⟩
theorem znN (h:DataW.trod enc Tryz.prog w base sp held n 60 cs=some x):∃ b:Box,cs=[.int .i64 b.x.lo,.int .i64 b.x.hi,.int .i64 b.y.lo,.int .i64 b.y.hi]:=by
 obtain ⟨hl,m,hf⟩:=zbC Tryz.underlying60 h;rw [zii] at hl
 match cs,hl with
 | [c0,c1,c2,c3],_ =>
  simp only [List.toList_toArray,List.mem_cons,List.not_mem_nil,or_false,forall_eq_or_imp,forall_eq,zeW,List.drop,List.take] at hf;obtain ⟨⟨y0,h0⟩,⟨y1,h1⟩⟩:=hf;obtain ⟨a,e0⟩:=zhy h0;obtain ⟨b,e1⟩:=zhy h1;simp at e0 e1;exact ⟨⟨a,b⟩,by rw [e0.1,e0.2,e1.1,e1.2]⟩
theorem zlQ (h:DataW.trod enc Tryz.prog w base sp held n 62 cs=some x):∃ s:Sight,cs=[.int .i64 s.id,.int .i64 s.year,.int .i64 s.box.x.lo,.int .i64 s.box.x.hi,.int .i64 s.box.y.lo,.int .i64 s.box.y.hi,.string ⟨s.letters.toArray⟩,.int .i64 s.height.lo,.int .i64 s.height.hi]:=by
 obtain ⟨hl,m,hf⟩:=zbC Tryz.underlying62 h;rw [zgF] at hl
 match cs,hl with
 | [c0,c1,c2,c3,c4,c5,c6,c7,c8],_ =>
  simp only [List.toList_toArray,List.mem_cons,List.not_mem_nil,or_false,forall_eq_or_imp,forall_eq,zeW,zdM,zii,ziI,List.drop,List.take] at hf;obtain ⟨⟨y0,h0⟩,⟨y1,h1⟩,⟨y2,h2⟩,⟨y3,h3⟩,⟨y4,h4⟩⟩:=hf;obtain ⟨a,e0,_⟩:=zb7 h0;obtain ⟨b,e1,_⟩:=zb7 h1;obtain ⟨c,e2⟩:=znN h2;obtain ⟨d,e3⟩:=zkQ h3;obtain ⟨e,e4⟩:=zhy h4;simp at e0 e1 e2 e3 e4;obtain ⟨e20,e21,e22,e23⟩:=e2;obtain ⟨e40,e41⟩:=e4;exact ⟨⟨a,b,c,d,e⟩,by rw [e0,e1,e20,e21,e22,e23,e3,e40,e41]⟩
theorem zls {I:Bool->Nat->Prop} (s:Sight):PReps I w s.cells [.int .i64 s.id,.int .i64 s.year,.int .i64 s.box.x.lo,.int .i64 s.box.x.hi,.int .i64 s.box.y.lo,.int .i64 s.box.y.hi,.string ⟨s.letters.toArray⟩,.int .i64 s.height.lo,.int .i64 s.height.hi] :=
 .cons (.int ..) <| .cons (.int ..) <| .cons (.int ..) <| .cons (.int ..) <| .cons (.int ..) <| .cons (.int ..) <| .cons (.str ..) <| .cons (.int ..) <| .cons (.int ..) .nil
theorem zmI {I:Bool->Nat->Prop} {ps:List PV} {vs:Array Value} (h:PReps I w ps vs.toList):Rep I w (.agg ps) (.agg vs) :=
 .agg ps vs (by simpa using h.1) fun i p v hp hv=>h.2 i p v hp (by simpa using hv)
end
end Go.Proofs.YtifmedfpnnfmoaaGreatDoor.Vm
