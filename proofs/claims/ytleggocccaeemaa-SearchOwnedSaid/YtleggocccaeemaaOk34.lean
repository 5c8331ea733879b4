/- From what arguments read as, to the data of the machine of values: what does not depend on the types. Readers of boxes, points, facts and problems. -/
import Derived.Test.YtleggocccaeemaaRows
import Derived.Test.YtleggocccaeemaaOk9
import Derived.WalkKit
import Derived.ProofKit
import Derived.OpenShut
import Derived.ShutString
import Derived.ChangeOld
import Derived.ChangeArms
import Derived.Below
import Derived.Deep.Slices
namespace Go.Proofs.Ytleggocccaeemaa.Vm
open Go
set_option linter.unusedVariables false
set_option linter.unusedSimpArgs false
set_option maxRecDepth 100000
section
variable {H:Type} {enc:TypeId×Value->H} {P:Program} {w:World} {base:Nat} {sp:Nat->Bool} {held:Bool}
theorem PReps.nil {I:Bool->Nat->Prop}:PReps I w [] []:=⟨rfl,fun i p v h=>by simp at h⟩
theorem PReps.cons {I:Bool->Nat->Prop} {p:PV} {v:Value} {ps:List PV} {vs:List Value} (h:Rep I w p v) (hs:PReps I w ps vs):PReps I w (p::ps) (v::vs) :=
 ⟨by simp [hs.1],fun i q u hq hu=>by
  cases i with
  | zero=>simp at hq hu;subst hq;subst hu;exact h
  | succ i=>simp at hq hu;exact hs.2 i q u hq hu⟩
theorem zjx {α β:Type} {f:α->Option β}:∀ {l:List α} {ys:List β},l.mapM f=some ys->∀ a∈l,∃ y,f a=some y
 | [],ys,h,a,ha=>by simp at ha
 | b::l,ys,h,a,ha=>by
  rw [List.mapM_cons] at h
  cases hb:f b with
  | none=>simp [hb] at h
  | some y =>
   cases hl:l.mapM f with
   | none=>simp [hb,hl] at h
   | some zs =>
    rcases List.mem_cons.1 ha with rfl|h1
    ·exact ⟨y,hb⟩
    ·exact zjx hl a h1
theorem zc7 {t:TypeId} {fs:Array Field} {n:Nat} {cs:List Value} {x:DataW H×List MemPlace} (ht:P.underlying t=some (.struct fs)) (h:DataW.trod enc P w base sp held n t cs=some x) :
  cs.length=P.cellsOf t/\∃ m,∀ f∈fs.toList,∃ y,DataW.trod enc P w base sp held m f.type ((cs.drop f.offset).take (P.cellsOf f.type))=some y:=by
 cases n with
 | zero=>simp [DataW.trod] at h
 | succ m =>
  unfold DataW.trod at h;simp only [ht] at h
  split at h
  ·rename_i hl
   refine ⟨hl,m,?_⟩
   cases hm:fs.toList.mapM fun f=>DataW.trod enc P w base sp held m f.type ((cs.drop f.offset).take (P.cellsOf f.type)) with
   | none=>simp [hm] at h
   | some ys=>exact zjx hm
  ·simp at h
end
theorem zjK {α:Type} {n:Nat} {Q:Nat->α->Prop} (h:∀ i,i < n->∃ a,Q i a):∃ xs:List α,xs.length=n/\∀ (i:Nat) (hi:i < xs.length),Q i xs[i]:=by
 induction n with
 | zero=>exact ⟨[],rfl,fun i hi=>by simp at hi⟩
 | succ n ih =>
  obtain ⟨xs,hl,hx⟩:=ih (fun i hi=>h i (by omega));obtain ⟨a,ha⟩:=h n (by omega)
  refine ⟨xs++[a],by simp [hl],fun i hi=>?_⟩
  by_cases hc:i < xs.length
  ·rw [List.getElem_append_left hc];exact hx i hc
  ·have:i=n:=by simp at hi;omega
   subst this;rw [List.getElem_append_right (by omega)]
   simpa [hl] using ha
section
variable {H:Type} {enc:TypeId×Value->H} {P:Program} {w:World} {sp:Nat->Bool} {held:Bool}
theorem zoP {w:World} {a:Addr} {v:Value} (h:w.cell? a=some v):a.block < w.heap.size:=by
 unfold World.cell? at h
 by_cases hb:a.block < w.heap.size
 ·exact hb
 ·rw [Array.getElem?_eq_none (by omega)] at h;simp at h
abbrev InW (w:World):Bool->Nat->Prop:=fun _ b=>b < w.heap.size
theorem zmR {α:Type} {f:α->List PV} {sz:Nat} {t e:TypeId} (ht:P.underlying t=some (.slice e)) (hc:P.cellsOf e=sz) (hf:∀ a,(f a).length=sz)
  (he:∀ (n:Nat) (cs:List Value) (x:DataW H×List MemPlace),DataW.trod enc P w 0 sp held n e cs=some x->∃ a:α,PReps (InW w) w (f a) cs)
  {n:Nat} {cs:List Value} {x:DataW H×List MemPlace} (h:DataW.trod enc P w 0 sp held n t cs=some x) (hs:∀ a len cap,cs=[.slice (some a) len cap]->a.spot=none) :
  ∃ (s:Sl α) (v:Value),cs=[v]/\Rep (InW w) w (s.pv f sz) v/\s.xs.length<=9223372036854775807:=by
 rcases Go.Deep.open_slice ht h with ⟨rfl,_⟩|⟨a,len,cap,m,k,D,Pl,rfl,_,hl,hm,hmm,_,hel⟩
 ·exact ⟨.nil,_,rfl,.nils,by simp⟩
 ·obtain ⟨b,o,spot⟩:=a;have hspot:spot=none:=hs _ _ _ rfl;subst hspot;have hlm:len<=m:=by rw [hmm];split<;>omega
  obtain ⟨xs,hxl,hx⟩:=zjK (n:=len) (Q:=fun i (a:α)=>∃ cs',(∀ j,j < sz->w.cell? ⟨b,o+i*sz+j,none⟩=cs'[j]?)/\PReps (InW w) w (f a) cs') (fun i hi=>by
   obtain ⟨cs',h1,h2⟩:=hel i (by omega);obtain ⟨a,ha⟩:=he _ _ _ h2
   refine ⟨a,cs',fun j hj=>?_,ha⟩
   unfold World.cells? at h1
   split at h1
   ·rw [hc] at h1;have:=mapM_some_get h1 j j (by simp [hj]);rw [Go.Deep.add_add] at this;rw [<- this]
    congr 1
    unfold Addr.add
    split
    ·rename_i h0;have:i*sz=0/\j=0:=by omega
     simp [this.1,this.2]
    ·simp;omega
   ·simp at h1)
  have main:∀ (i:Nat) (e:List PV) (j:Nat) (p:PV),(xs.map f)[i]?=some e->e[j]?=some p->∃ v,w.cell? ⟨b,o+i*sz+j,none⟩=some v/\Rep (InW w) w p v:=by
   intro i e j p h1 h2;rw [List.getElem?_map,Option.map_eq_some_iff] at h1;obtain ⟨a,h3,rfl⟩:=h1;obtain ⟨hi,rfl⟩:=List.getElem?_eq_some_iff.1 h3;obtain ⟨cs',h4,h5⟩:=hx i hi;have hj:j < sz:=by
    have:=(List.getElem?_eq_some_iff.1 h2).1;rw [hf] at this;exact this
   have hlc:cs'.length=sz:=by rw [<- h5.1,hf]
   have h6:=h4 j hj;rw [List.getElem?_eq_getElem (by omega)] at h6;exact ⟨_,h6,h5.2 j p _ h2 (List.getElem?_eq_getElem (by omega))⟩
  refine ⟨.mk false xs,_,rfl,?_,by have hmx:maxLen=9223372036854775807:=rfl;show xs.length<=_;omega⟩
  refine Rep.slice false sz (xs.map f) b o len cap (fun i j=>(w.cell? ⟨b,o+i*sz+j,none⟩).getD .nilFunc) (by simp [hxl]) hl ?_ ?_ ?_
  ·intro i e h1;rw [List.getElem?_map,Option.map_eq_some_iff] at h1;obtain ⟨a,_,rfl⟩:=h1;exact hf a
  ·intro i e j p h1 h2;obtain ⟨v,h3,_⟩:=main i e j p h1 h2;exact ⟨zoP h3,by rw [h3];rfl⟩
  ·intro i e j p h1 h2;obtain ⟨v,h3,h4⟩:=main i e j p h1 h2;rw [h3];exact h4
theorem zjq {α:Type} {f:α->List PV} {sz:Nat} {t e:TypeId} (ht:P.underlying t=some (.slice e)) (hc:P.cellsOf e=sz) (hf:∀ a,(f a).length=sz)
  (he:∀ (n:Nat) (cs:List Value) (x:DataW H×List MemPlace),DataW.trod enc P w 0 sp held n e cs=some x->∃ a:α,PReps (InW w) w (f a) cs)
  {n:Nat} {cs:List Value} {x:DataW H×List MemPlace} (h:DataW.trod enc P w 0 sp held n t cs=some x) (hs:∀ a len cap,cs=[.slice (some a) len cap]->a.spot=none) :
  ∃ (s:Sl α) (v:Value),cs=[v]/\Rep (InW w) w (s.pv f sz) v:=by
 obtain ⟨s,v,h1,h2,_⟩:=zmR ht hc hf he h hs;exact ⟨s,v,h1,h2⟩
end
section
variable {H:Type} {enc:TypeId×Value->H} {w:World} {base:Nat} {sp:Nat->Bool} {held:Bool} {n:Nat} {cs:List Value} {x:DataW H×List MemPlace}
theorem zjR:Try.prog.cellsOf 3=1:=by kernel_rfl
theorem zdX (h:DataW.trod enc Try.prog w base sp held n 3 cs=some x):∃ a,cs=[.int .i64 a]/\(Lit.int .i64 a).wf=true:=by
 obtain ⟨a,h1,_,h2⟩:=DataW.trod_int Try.underlying3 h;exact ⟨a,h1,h2⟩
theorem zoK {I:Bool->Nat->Prop} {ps:List PV} {vs:Array Value} (h:PReps I w ps vs.toList):Rep I w (.agg ps) (.agg vs) :=
 .agg ps vs (by simpa using h.1) fun i p v hp hv=>h.2 i p v hp (by simpa using hv)
theorem zlP {r:Reach} {base:Nat} {t e:TypeId} {a:Addr} {len cap:Nat} (ht:Try.prog.underlying t=some (.slice e)) (h:Cell.okWide Try.prog w r base t (.slice (some a) len cap)):a.spot=none:=by
 unfold Cell.okWide at h;rw [ht] at h;unfold Cell.ok at h;rw [ht] at h;exact h.2.2.2.1
end
section
variable {H:Type} {enc:TypeId×Value->H} {w:World} {sp:Nat->Bool} {held:Bool} {n:Nat} {cs:List Value} {x:DataW H×List MemPlace}
theorem zmm:Try.prog.cellsOf 4=1:=by kernel_rfl
theorem zfs:Try.prog.cellsOf 38=2:=by kernel_rfl
theorem zja:Try.prog.cellsOf 40=4:=by kernel_rfl
theorem zij:Try.prog.cellsOf 42=9:=by kernel_rfl
theorem zkY:Try.prog.cellsOf 22=1:=by kernel_rfl
theorem zlr:Try.prog.cellsOf 23=1:=by kernel_rfl
theorem ziH:Try.prog.cellsOf 25=2:=by kernel_rfl
theorem ziV (h:DataW.trod enc Try.prog w 0 sp held n 38 cs=some x):∃ s:Span,cs=[.int .i64 s.lo,.int .i64 s.hi]:=by
 obtain ⟨hl,m,hf⟩:=zc7 Try.underlying38 h;rw [zfs] at hl
 match cs,hl with
 | [c0,c1],_ =>
  simp only [List.toList_toArray,List.mem_cons,List.not_mem_nil,or_false,forall_eq_or_imp,forall_eq,zjR,List.drop,List.take] at hf;obtain ⟨⟨y0,h0⟩,⟨y1,h1⟩⟩:=hf;obtain ⟨a,e0,_⟩:=zdX h0;obtain ⟨b,e1,_⟩:=zdX h1;simp at e0 e1;exact ⟨⟨a,b⟩,by rw [e0,e1]⟩
theorem zo7 (h:DataW.trod enc Try.prog w 0 sp held n 40 cs=some x):∃ b:Box,cs=[.int .i64 b.x.lo,.int .i64 b.x.hi,.int .i64 b.y.lo,.int .i64 b.y.hi]:=by
 obtain ⟨hl,m,hf⟩:=zc7 Try.underlying40 h;rw [zja] at hl
 match cs,hl with
 | [c0,c1,c2,c3],_ =>
  simp only [List.toList_toArray,List.mem_cons,List.not_mem_nil,or_false,forall_eq_or_imp,forall_eq,zfs,List.drop,List.take] at hf;obtain ⟨⟨y0,h0⟩,⟨y1,h1⟩⟩:=hf;obtain ⟨a,e0⟩:=ziV h0;obtain ⟨b,e1⟩:=ziV h1;simp at e0 e1;exact ⟨⟨a,b⟩,by rw [e0.1,e0.2,e1.1,e1.2]⟩
theorem zpU (h:DataW.trod enc Try.prog w 0 sp held n 40 cs=some x):∃ b:Box,PReps (InW w) w b.cells cs:=by
 obtain ⟨b,rfl⟩:=zo7 h;exact ⟨b,.cons (.int ..) <| .cons (.int ..) <| .cons (.int ..) <| .cons (.int ..) .nil⟩
theorem zov (h:DataW.trod enc Try.prog w 0 sp held n 42 cs=some x):∃ f:Fact,PReps (InW w) w f.cells cs:=by
 obtain ⟨hl,m,hf⟩:=zc7 Try.underlying42 h;rw [zij] at hl
 match cs,hl with
 | [c0,c1,c2,c3,c4,c5,c6,c7,c8],_ =>
  simp only [List.toList_toArray,List.mem_cons,List.not_mem_nil,or_false,forall_eq_or_imp,forall_eq,zjR,zmm,zfs,List.drop,List.take] at hf;obtain ⟨⟨y0,h0⟩,⟨y1,h1⟩,⟨y2,h2⟩,⟨y3,h3⟩,⟨y4,h4⟩,⟨y5,h5⟩,⟨y6,h6⟩,⟨y7,h7⟩⟩:=hf;obtain ⟨a0,e0,_⟩:=zdX h0;obtain ⟨a1,e1,_⟩:=zdX h1;obtain ⟨a2,e2,_⟩:=DataW.trod_bool Try.underlying4 h2;obtain ⟨a3,e3,_⟩:=zdX h3;obtain ⟨a4,e4,_⟩:=zdX h4;obtain ⟨a5,e5,_⟩:=zdX h5;obtain ⟨a6,e6⟩:=ziV h6;obtain ⟨a7,e7,_⟩:=zdX h7;simp at e0 e1 e2 e3 e4 e5 e6 e7;obtain ⟨e6,e8⟩:=e6;subst e0 e1 e2 e3 e4 e5 e6 e7 e8;exact ⟨⟨a0,a1,a2,a3,a4,a5,a6,a7⟩,.cons (.int ..) <| .cons (.int ..) <| .cons (.bool ..) <| .cons (.int ..) <| .cons (.int ..) <| .cons (.int ..) <| .cons (.int ..) <| .cons (.int ..) <| .cons (.int ..) .nil⟩
theorem zn1 (h:DataW.trod enc Try.prog w 0 sp held n 22 cs=some x) (hs:∀ a len cap,cs=[.slice (some a) len cap]->a.spot=none):∃ (s:Sl Box) (v:Value),cs=[v]/\Rep (InW w) w (s.pv Box.cells 4) v :=
 zjq (f:=Box.cells) Try.underlying22 zja (fun _=>rfl) (fun n cs x h=>zpU h) h hs
theorem zn9 (h:DataW.trod enc Try.prog w 0 sp held n 23 cs=some x) (hs:∀ a len cap,cs=[.slice (some a) len cap]->a.spot=none):∃ (s:Sl Fact) (v:Value),cs=[v]/\Rep (InW w) w (s.pv Fact.cells 9) v :=
 zjq (f:=Fact.cells) Try.underlying23 zij (fun _=>rfl) (fun n cs x h=>zov h) h hs
theorem ziK:Try.prog.cellTypes Try.prog.depth 25=some [22,23]:=by kernel_rfl
theorem zks {r:Reach} {base:Nat} {v:Value} {d:DataW H} {ps:List MemPlace} (hok:Value.okWide Try.prog w r base 25 v) (h:DataW.Trod enc Try.prog w 0 sp held 25 v d ps):∃ p:Problem,Rep (InW w) w (.agg p.cells) v:=by
 unfold Value.okWide at hok;simp only [Try.underlying25] at hok;obtain ⟨cs,rfl,_,ts,hts,_,hcell⟩:=hok;rw [ziK] at hts;obtain rfl:=Option.some.inj hts;obtain ⟨fuel,hf⟩:=h;obtain ⟨hl,m,hf⟩:=zc7 Try.underlying25 hf;rw [ziH] at hl;simp only [Value.cells] at hl hf;obtain ⟨cs⟩:=cs
 match cs,hl with
 | [c0,c1],_ =>
  simp only [List.toList_toArray,List.mem_cons,List.not_mem_nil,or_false,forall_eq_or_imp,forall_eq,zkY,zlr,List.drop,List.take] at hf;obtain ⟨⟨y0,h0⟩,⟨y1,h1⟩⟩:=hf;obtain ⟨s,v3,e3,r3⟩:=zn1 h0 (fun a len cap e=>by
   simp at e;subst e;obtain ⟨u,hu,hc⟩:=hcell 0 _ rfl;simp at hu;subst hu;exact zlP Try.underlying22 hc)
  obtain ⟨q,v4,e4,r4⟩:=zn9 h1 (fun a len cap e=>by
   simp at e;subst e;obtain ⟨u,hu,hc⟩:=hcell 1 _ rfl;simp at hu;subst hu;exact zlP Try.underlying23 hc)
  simp at e3 e4;subst e3 e4;exact ⟨⟨s,q⟩,zoK (.cons r3 <| .cons r4 .nil)⟩
end
end Go.Proofs.Ytleggocccaeemaa.Vm
