/- From what arguments read as, to the data of the machine of values: what does not depend on the types. Readers of boxes, points, facts and problems. Readers of nodes and trees. -/
import Derived.Test.YtmmhnfghklppiaaGreatRows
import Derived.Test.YtmmhnfghklppiaaGreatWk8
import Derived.WalkKit
import Derived.ProofKit
import Derived.OpenShut
import Derived.ShutString
import Derived.ChangeOld
import Derived.ChangeArms
import Derived.Below
import Derived.Deep.Slices
namespace Go.Proofs.YtmmhnfghklppiaaGreat.Vm
open Go
set_option linter.unusedVariables false
set_option linter.unusedSimpArgs false
set_option maxRecDepth 100000
section
variable {H:Type} {enc:TypeId×Value->H} {P:Program} {w:World} {base:Nat} {sp:Nat->Bool} {held:Bool}
theorem l8.nil {I:Bool->Nat->Prop}:l8 I w [] []:=⟨rfl,fun i p v h=>by simp at h⟩
theorem l8.cons {I:Bool->Nat->Prop} {p:PV} {v:Value} {ps:List PV} {vs:List Value} (h:bK I w p v) (hs:l8 I w ps vs):l8 I w (p::ps) (v::vs) :=
 ⟨by simp [hs.1],fun i q u hq hu=>by
  cases i with
  | zero=>simp at hq hu;subst hq;subst hu;exact h
  | succ i=>simp at hq hu;exact hs.2 i q u hq hu⟩
theorem zia {α β:Type} {f:α->Option β}:∀ {l:List α} {ys:List β},l.mapM f=some ys->∀ a∈l,∃ y,f a=some y
 | [],ys,h,a,ha=>by simp at ha
 | b::l,ys,h,a,ha=>by
  rw [List.mapM_cons] at h
  cases hb:f b with
  | none=>simp [hb] at h
  | some y =>
   cases hl:l.mapM f with
   | none=>simp [hb,hl] at h
   | some zs =>
    rcases List.mem_cons.1 ha with rfl|h1
    .exact ⟨y,hb⟩
    .exact zia hl a h1
theorem Ro {t:TypeId} {fs:Array Field} {n:Nat} {cs:List Value} {x:DataW H×List MemPlace} (ht:P.underlying t=some (.struct fs)) (h:DataW.trod enc P w base sp held n t cs=some x) :
  cs.length=P.cellsOf t/\∃ m,∀ f∈fs.toList,∃ y,DataW.trod enc P w base sp held m f.type ((cs.drop f.offset).take (P.cellsOf f.type))=some y:=by
 cases n with
 | zero=>simp [DataW.trod] at h
 | succ m =>
  unfold DataW.trod at h;simp only [ht] at h
  split at h
  .rename_i hl
   refine ⟨hl,m,?_⟩
   cases hm:fs.toList.mapM fun f=>DataW.trod enc P w base sp held m f.type ((cs.drop f.offset).take (P.cellsOf f.type)) with
   | none=>simp [hm] at h
   | some ys=>exact zia hm
  .simp at h
end
theorem zmj {α:Type} {n:Nat} {Q:Nat->α->Prop} (h:∀ i,i < n->∃ a,Q i a):∃ xs:List α,xs.length=n/\∀ (i:Nat) (hi:i < xs.length),Q i xs[i]:=by
 induction n with
 | zero=>exact ⟨[],rfl,fun i hi=>by simp at hi⟩
 | succ n ih =>
  obtain ⟨xs,hl,hx⟩:=ih (fun i hi=>h i (by omega));obtain ⟨a,ha⟩:=h n (by omega)
  refine ⟨xs++[a],by simp [hl],fun i hi=>?_⟩
  by_cases hc:i < xs.length
  .rw [List.getElem_append_left hc];exact hx i hc
  .have:i=n:=by simp at hi;omega
   subst this;rw [List.getElem_append_right (by omega)]
   simpa [hl] using ha
section
variable {H:Type} {enc:TypeId×Value->H} {P:Program} {w:World} {sp:Nat->Bool} {held:Bool}
theorem zsH {w:World} {a:Addr} {v:Value} (h:w.cell? a=some v):a.block < w.heap.size:=by
 unfold World.cell? at h
 by_cases hb:a.block < w.heap.size
 .exact hb
 .rw [Array.getElem?_eq_none (by omega)] at h;simp at h
abbrev xW (w:World):Bool->Nat->Prop:=fun _ b=>b < w.heap.size
theorem zps {α:Type} {f:α->List PV} {sz:Nat} {t e:TypeId} (ht:P.underlying t=some (.slice e)) (hc:P.cellsOf e=sz) (hf:∀ a,(f a).length=sz)
  (he:∀ (n:Nat) (cs:List Value) (x:DataW H×List MemPlace),DataW.trod enc P w 0 sp held n e cs=some x->∃ a:α,l8 (xW w) w (f a) cs)
  {n:Nat} {cs:List Value} {x:DataW H×List MemPlace} (h:DataW.trod enc P w 0 sp held n t cs=some x) (hs:∀ a len cap,cs=[.slice (some a) len cap]->a.spot=none) :
  ∃ (s:Sl α) (v:Value),cs=[v]/\bK (xW w) w (s.pv f sz) v/\s.xs.length<=9223372036854775807:=by
 rcases Go.Deep.open_slice ht h with ⟨rfl,_⟩|⟨a,len,cap,m,k,D,Pl,rfl,_,hl,hm,Uh,_,Xb⟩
 .exact ⟨.nil,_,rfl,.nils,by simp⟩
 .obtain ⟨b,o,spot⟩:=a;have VC:spot=none:=hs _ _ _ rfl;subst VC;have JX:len<=m:=by rw [Uh];split<;>omega
  obtain ⟨xs,Ur,hx⟩:=zmj (n:=len) (Q:=fun i (a:α)=>∃ cs',(∀ j,j < sz->w.cell? ⟨b,o+i*sz+j,none⟩=cs'[j]?)/\l8 (xW w) w (f a) cs') (fun i hi=>by
   obtain ⟨cs',h1,h2⟩:=Xb i (by omega);obtain ⟨a,ha⟩:=he _ _ _ h2
   refine ⟨a,cs',fun j hj=>?_,ha⟩
   unfold World.cells? at h1
   split at h1
   .rw [hc] at h1;have:=mapM_some_get h1 j j (by simp [hj]);rw [Go.Deep.add_add] at this;rw [<- this]
    congr 1
    unfold Addr.add
    split
    .rename_i h0;have:i*sz=0/\j=0:=by omega
     simp [this.1,this.2]
    .simp;omega
   .simp at h1)
  have main:∀ (i:Nat) (e:List PV) (j:Nat) (p:PV),(xs.map f)[i]?=some e->e[j]?=some p->∃ v,w.cell? ⟨b,o+i*sz+j,none⟩=some v/\bK (xW w) w p v:=by
   intro i e j p h1 h2;rw [List.getElem?_map,Option.map_eq_some_iff] at h1;obtain ⟨a,h3,rfl⟩:=h1;obtain ⟨hi,rfl⟩:=List.getElem?_eq_some_iff.1 h3;obtain ⟨cs',h4,h5⟩:=hx i hi;have hj:j < sz:=by
    have:=(List.getElem?_eq_some_iff.1 h2).1;rw [hf] at this;exact this
   have hlc:cs'.length=sz:=by rw [<- h5.1,hf]
   have h6:=h4 j hj;rw [List.getElem?_eq_getElem (by omega)] at h6;exact ⟨_,h6,h5.2 j p _ h2 (List.getElem?_eq_getElem (by omega))⟩
  refine ⟨.mk false xs,_,rfl,?_,by have TZ:maxLen=9223372036854775807:=rfl;show xs.length<=_;omega⟩
  refine bK.slice false sz (xs.map f) b o len cap (fun i j=>(w.cell? ⟨b,o+i*sz+j,none⟩).getD .nilFunc) (by simp [Ur]) hl ?_ ?_ ?_
  .intro i e h1;rw [List.getElem?_map,Option.map_eq_some_iff] at h1;obtain ⟨a,_,rfl⟩:=h1;exact hf a
  .intro i e j p h1 h2;obtain ⟨v,h3,_⟩:=main i e j p h1 h2;exact ⟨zsH h3,by rw [h3];rfl⟩
  .intro i e j p h1 h2;obtain ⟨v,h3,h4⟩:=main i e j p h1 h2;rw [h3];exact h4
theorem zmS {α:Type} {f:α->List PV} {sz:Nat} {t e:TypeId} (ht:P.underlying t=some (.slice e)) (hc:P.cellsOf e=sz) (hf:∀ a,(f a).length=sz)
  (he:∀ (n:Nat) (cs:List Value) (x:DataW H×List MemPlace),DataW.trod enc P w 0 sp held n e cs=some x->∃ a:α,l8 (xW w) w (f a) cs)
  {n:Nat} {cs:List Value} {x:DataW H×List MemPlace} (h:DataW.trod enc P w 0 sp held n t cs=some x) (hs:∀ a len cap,cs=[.slice (some a) len cap]->a.spot=none) :
  ∃ (s:Sl α) (v:Value),cs=[v]/\bK (xW w) w (s.pv f sz) v:=by
 obtain ⟨s,v,h1,h2,_⟩:=zps ht hc hf he h hs;exact ⟨s,v,h1,h2⟩
end
section
variable {H:Type} {enc:TypeId×Value->H} {w:World} {base:Nat} {sp:Nat->Bool} {held:Bool} {n:Nat} {cs:List Value} {x:DataW H×List MemPlace}
theorem VD:Tryz.prog.cellsOf 3=1:=by kernel_rfl
theorem xX (h:DataW.trod enc Tryz.prog w base sp held n 3 cs=some x):∃ a,cs=[.int .i64 a]/\(Lit.int .i64 a).wf=true:=by
 obtain ⟨a,h1,_,h2⟩:=DataW.trod_int Tryz.underlying3 h;exact ⟨a,h1,h2⟩
theorem zlj {I:Bool->Nat->Prop} {ps:List PV} {vs:Array Value} (h:l8 I w ps vs.toList):bK I w (.agg ps) (.agg vs) :=
 .agg ps vs (by simpa using h.1) fun i p v hp hv=>h.2 i p v hp (by simpa using hv)
theorem zpa {r:Reach} {base:Nat} {t e:TypeId} {a:Addr} {len cap:Nat} (ht:Tryz.prog.underlying t=some (.slice e)) (h:Cell.okWide Tryz.prog w r base t (.slice (some a) len cap)):a.spot=none:=by
 unfold Cell.okWide at h;rw [ht] at h;unfold Cell.ok at h;rw [ht] at h;exact h.2.2.2.1
end
section
variable {H:Type} {enc:TypeId×Value->H} {w:World} {sp:Nat->Bool} {held:Bool} {n:Nat} {cs:List Value} {x:DataW H×List MemPlace}
theorem zpX:Tryz.prog.cellsOf 4=1:=by kernel_rfl
theorem zgP:Tryz.prog.cellsOf 39=2:=by kernel_rfl
theorem zmT:Tryz.prog.cellsOf 55=4:=by kernel_rfl
theorem zjP:Tryz.prog.cellsOf 41=9:=by kernel_rfl
theorem znT:Tryz.prog.cellsOf 22=1:=by kernel_rfl
theorem znb:Tryz.prog.cellsOf 23=1:=by kernel_rfl
theorem zk1:Tryz.prog.cellsOf 25=2:=by kernel_rfl
theorem zlg (h:DataW.trod enc Tryz.prog w 0 sp held n 39 cs=some x):∃ s:Span,cs=[.int .i64 s.lo,.int .i64 s.hi]:=by
 obtain ⟨hl,m,hf⟩:=Ro Tryz.underlying39 h;rw [zgP] at hl
 match cs,hl with
 | [c0,c1],_ =>
  simp only [List.toList_toArray,List.mem_cons,List.not_mem_nil,or_false,forall_eq_or_imp,forall_eq,VD,List.drop,List.take] at hf;obtain ⟨⟨y0,h0⟩,⟨y1,h1⟩⟩:=hf;obtain ⟨a,e0,_⟩:=xX h0;obtain ⟨b,e1,_⟩:=xX h1;simp at e0 e1;exact ⟨⟨a,b⟩,by rw [e0,e1]⟩
theorem zsO (h:DataW.trod enc Tryz.prog w 0 sp held n 55 cs=some x):∃ b:Box,cs=[.int .i64 b.x.lo,.int .i64 b.x.hi,.int .i64 b.y.lo,.int .i64 b.y.hi]:=by
 obtain ⟨hl,m,hf⟩:=Ro Tryz.underlying55 h;rw [zmT] at hl
 match cs,hl with
 | [c0,c1,c2,c3],_ =>
  simp only [List.toList_toArray,List.mem_cons,List.not_mem_nil,or_false,forall_eq_or_imp,forall_eq,zgP,List.drop,List.take] at hf;obtain ⟨⟨y0,h0⟩,⟨y1,h1⟩⟩:=hf;obtain ⟨a,e0⟩:=zlg h0;obtain ⟨b,e1⟩:=zlg h1;simp at e0 e1;exact ⟨⟨a,b⟩,by rw [e0.1,e0.2,e1.1,e1.2]⟩
theorem zuA (h:DataW.trod enc Tryz.prog w 0 sp held n 55 cs=some x):∃ b:Box,l8 (xW w) w b.cells cs:=by
 obtain ⟨b,rfl⟩:=zsO h;exact ⟨b,.cons (.int ..) <| .cons (.int ..) <| .cons (.int ..) <| .cons (.int ..) .nil⟩
theorem zsB (h:DataW.trod enc Tryz.prog w 0 sp held n 41 cs=some x):∃ f:Fact,l8 (xW w) w f.cells cs:=by
 obtain ⟨hl,m,hf⟩:=Ro Tryz.underlying41 h;rw [zjP] at hl
 match cs,hl with
 | [c0,c1,c2,c3,c4,c5,c6,c7,c8],_ =>
  simp only [List.toList_toArray,List.mem_cons,List.not_mem_nil,or_false,forall_eq_or_imp,forall_eq,VD,zpX,zgP,List.drop,List.take] at hf;obtain ⟨⟨y0,h0⟩,⟨y1,h1⟩,⟨y2,h2⟩,⟨y3,h3⟩,⟨y4,h4⟩,⟨y5,h5⟩,⟨y6,h6⟩,⟨y7,h7⟩⟩:=hf;obtain ⟨a0,e0,_⟩:=xX h0;obtain ⟨a1,e1,_⟩:=xX h1;obtain ⟨a2,e2,_⟩:=DataW.trod_bool Tryz.underlying4 h2;obtain ⟨a3,e3,_⟩:=xX h3;obtain ⟨a4,e4,_⟩:=xX h4;obtain ⟨a5,e5,_⟩:=xX h5;obtain ⟨a6,e6⟩:=zlg h6;obtain ⟨a7,e7,_⟩:=xX h7;simp at e0 e1 e2 e3 e4 e5 e6 e7;obtain ⟨e6,e8⟩:=e6;subst e0 e1 e2 e3 e4 e5 e6 e7 e8;exact ⟨⟨a0,a1,a2,a3,a4,a5,a6,a7⟩,.cons (.int ..) <| .cons (.int ..) <| .cons (.bool ..) <| .cons (.int ..) <| .cons (.int ..) <| .cons (.int ..) <| .cons (.int ..) <| .cons (.int ..) <| .cons (.int ..) .nil⟩
theorem zrf (h:DataW.trod enc Tryz.prog w 0 sp held n 22 cs=some x) (hs:∀ a len cap,cs=[.slice (some a) len cap]->a.spot=none):∃ (s:Sl Box) (v:Value),cs=[v]/\bK (xW w) w (s.pv Box.cells 4) v :=
 zmS (f:=Box.cells) Tryz.underlying22 zmT (fun _=>rfl) (fun n cs x h=>zuA h) h hs
theorem zrP (h:DataW.trod enc Tryz.prog w 0 sp held n 23 cs=some x) (hs:∀ a len cap,cs=[.slice (some a) len cap]->a.spot=none):∃ (s:Sl Fact) (v:Value),cs=[v]/\bK (xW w) w (s.pv Fact.cells 9) v :=
 zmS (f:=Fact.cells) Tryz.underlying23 zjP (fun _=>rfl) (fun n cs x h=>zsB h) h hs
theorem zkT:Tryz.prog.cellTypes Tryz.prog.depth 25=some [22,23]:=by kernel_rfl
theorem znL {r:Reach} {base:Nat} {v:Value} {d:DataW H} {ps:List MemPlace} (bH:Value.okWide Tryz.prog w r base 25 v) (h:DataW.Trod enc Tryz.prog w 0 sp held 25 v d ps):∃ p:Problem,bK (xW w) w (.agg p.cells) v:=by
 unfold Value.okWide at bH;simp only [Tryz.underlying25] at bH;obtain ⟨cs,rfl,_,ts,Lh,_,wT⟩:=bH;rw [zkT] at Lh;obtain rfl:=Option.some.inj Lh;obtain ⟨fuel,hf⟩:=h;obtain ⟨hl,m,hf⟩:=Ro Tryz.underlying25 hf;rw [zk1] at hl;simp only [Value.cells] at hl hf;obtain ⟨cs⟩:=cs
 match cs,hl with
 | [c0,c1],_ =>
  simp only [List.toList_toArray,List.mem_cons,List.not_mem_nil,or_false,forall_eq_or_imp,forall_eq,znT,znb,List.drop,List.take] at hf;obtain ⟨⟨y0,h0⟩,⟨y1,h1⟩⟩:=hf;obtain ⟨s,v3,e3,r3⟩:=zrf h0 (fun a len cap e=>by
   simp at e;subst e;obtain ⟨u,hu,hc⟩:=wT 0 _ rfl;simp at hu;subst hu;exact zpa Tryz.underlying22 hc)
  obtain ⟨q,v4,e4,r4⟩:=zrP h1 (fun a len cap e=>by
   simp at e;subst e;obtain ⟨u,hu,hc⟩:=wT 1 _ rfl;simp at hu;subst hu;exact zpa Tryz.underlying23 hc)
  simp at e3 e4;subst e3 e4;exact ⟨⟨s,q⟩,zlj (.cons r3 <| .cons r4 .nil)⟩
end
section
variable {H:Type} {enc:TypeId×Value->H} {w:World} {sp:Nat->Bool} {held:Bool} {n:Nat} {cs:List Value} {x:DataW H×List MemPlace}
theorem zkw:Tryz.prog.cellsOf 49=4:=by kernel_rfl
end
end Go.Proofs.YtmmhnfghklppiaaGreat.Vm
