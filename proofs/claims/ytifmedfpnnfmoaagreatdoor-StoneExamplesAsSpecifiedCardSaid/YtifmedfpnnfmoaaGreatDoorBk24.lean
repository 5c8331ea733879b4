/- From what a life reads as, to the data of the machine of values. -/
import Derived.Test.YtifmedfpnnfmoaaGreatDoorBk23
import Derived.Test.YtifmedfpnnfmoaaGreatDoorBk17
import Derived.Deep.Slices
namespace Go.Proofs.YtifmedfpnnfmoaaGreatDoor.Vm
open Go
set_option linter.unusedVariables false
set_option linter.unusedSimpArgs false
set_option maxRecDepth 100000
theorem zi6 {α:Type} {n:Nat} {Q:Nat->α->Prop} (h:∀ i,i < n->∃ a,Q i a):∃ xs:List α,xs.length=n/\∀ (i:Nat) (hi:i < xs.length),Q i xs[i]:=by
 induction n with
 | zero=>exact ⟨[],rfl,fun i hi=>by simp at hi⟩
 | succ n ih =>
  obtain ⟨xs,hl,hx⟩:=ih (fun i hi=>h i (by omega));obtain ⟨a,ha⟩:=h n (by omega)
  refine ⟨xs++[a],by simp [hl],fun i hi=>?_⟩
  by_cases hc:i < xs.length
  ·rw [List.getElem_append_left hc];exact hx i hc
  ·have:i=n:=by simp at hi;omega
   subst this;rw [List.getElem_append_right (by omega)]
   simpa [hl] using ha
section
variable {H:Type} {enc:TypeId×Value->H} {P:Program} {w:World} {sp:Nat->Bool} {held:Bool}
theorem zm3 {w:World} {a:Addr} {v:Value} (h:w.cell? a=some v):a.block < w.heap.size:=by
 unfold World.cell? at h
 by_cases hb:a.block < w.heap.size
 ·exact hb
 ·rw [Array.getElem?_eq_none (by omega)] at h;simp at h
abbrev InW (w:World):Bool->Nat->Prop:=fun _ b=>b < w.heap.size
theorem zlm {α:Type} {f:α->List PV} {sz:Nat} {t e:TypeId} (ht:P.underlying t=some (.slice e)) (hc:P.cellsOf e=sz) (hf:∀ a,(f a).length=sz)
  (he:∀ (n:Nat) (cs:List Value) (x:DataW H×List MemPlace),DataW.trod enc P w 0 sp held n e cs=some x->∃ a:α,PReps (InW w) w (f a) cs)
  {n:Nat} {cs:List Value} {x:DataW H×List MemPlace} (h:DataW.trod enc P w 0 sp held n t cs=some x) (hs:∀ a len cap,cs=[.slice (some a) len cap]->a.spot=none) :
  ∃ (s:Sl α) (v:Value),cs=[v]/\Rep (InW w) w (s.pv f sz) v/\s.xs.length<=9223372036854775807:=by
 rcases Go.Deep.open_slice ht h with ⟨rfl,_⟩|⟨a,len,cap,m,k,D,Pl,rfl,_,hl,hm,hmm,_,hel⟩
 ·exact ⟨.nil,_,rfl,.nils,by simp⟩
 ·obtain ⟨b,o,spot⟩:=a;have hspot:spot=none:=hs _ _ _ rfl;subst hspot;have hlm:len<=m:=by rw [hmm];split<;>omega
  obtain ⟨xs,hxl,hx⟩:=zi6 (n:=len) (Q:=fun i (a:α)=>∃ cs',(∀ j,j < sz->w.cell? ⟨b,o+i*sz+j,none⟩=cs'[j]?)/\PReps (InW w) w (f a) cs') (fun i hi=>by
   obtain ⟨cs',h1,h2⟩:=hel i (by omega);obtain ⟨a,ha⟩:=he _ _ _ h2
   refine ⟨a,cs',fun j hj=>?_,ha⟩
   unfold World.cells? at h1
   split at h1
   ·rw [hc] at h1;have:=mapM_some_get h1 j j (by simp [hj]);rw [Go.Deep.add_add] at this;rw [<- this]
    congr 1
    unfold Addr.add
    split
    ·rename_i h0;have:i*sz=0/\j=0:=by omega
     simp [this.1,this.2]
    ·simp;omega
   ·simp at h1)
  have main:∀ (i:Nat) (e:List PV) (j:Nat) (p:PV),(xs.map f)[i]?=some e->e[j]?=some p->∃ v,w.cell? ⟨b,o+i*sz+j,none⟩=some v/\Rep (InW w) w p v:=by
   intro i e j p h1 h2;rw [List.getElem?_map,Option.map_eq_some_iff] at h1;obtain ⟨a,h3,rfl⟩:=h1;obtain ⟨hi,rfl⟩:=List.getElem?_eq_some_iff.1 h3;obtain ⟨cs',h4,h5⟩:=hx i hi;have hj:j < sz:=by
    have:=(List.getElem?_eq_some_iff.1 h2).1;rw [hf] at this;exact this
   have hlc:cs'.length=sz:=by rw [<- h5.1,hf]
   have h6:=h4 j hj;rw [List.getElem?_eq_getElem (by omega)] at h6;exact ⟨_,h6,h5.2 j p _ h2 (List.getElem?_eq_getElem (by omega))⟩
  refine ⟨.mk false xs,_,rfl,?_,by have hmx:maxLen=9223372036854775807:=rfl;show xs.length<=_;omega⟩
  refine Rep.slice false sz (xs.map f) b o len cap (fun i j=>(w.cell? ⟨b,o+i*sz+j,none⟩).getD .nilFunc) (by simp [hxl]) hl ?_ ?_ ?_
  ·intro i e h1;rw [List.getElem?_map,Option.map_eq_some_iff] at h1;obtain ⟨a,_,rfl⟩:=h1;exact hf a
  ·intro i e j p h1 h2;obtain ⟨v,h3,_⟩:=main i e j p h1 h2;exact ⟨zm3 h3,by rw [h3];rfl⟩
  ·intro i e j p h1 h2;obtain ⟨v,h3,h4⟩:=main i e j p h1 h2;rw [h3];exact h4
theorem zfF {α:Type} {f:α->List PV} {sz:Nat} {t e:TypeId} (ht:P.underlying t=some (.slice e)) (hc:P.cellsOf e=sz) (hf:∀ a,(f a).length=sz)
  (he:∀ (n:Nat) (cs:List Value) (x:DataW H×List MemPlace),DataW.trod enc P w 0 sp held n e cs=some x->∃ a:α,PReps (InW w) w (f a) cs)
  {n:Nat} {cs:List Value} {x:DataW H×List MemPlace} (h:DataW.trod enc P w 0 sp held n t cs=some x) (hs:∀ a len cap,cs=[.slice (some a) len cap]->a.spot=none) :
  ∃ (s:Sl α) (v:Value),cs=[v]/\Rep (InW w) w (s.pv f sz) v:=by
 obtain ⟨s,v,h1,h2,_⟩:=zlm ht hc hf he h hs;exact ⟨s,v,h1,h2⟩
end
section
variable {H:Type} {enc:TypeId×Value->H} {w:World} {sp:Nat->Bool} {held:Bool} {n:Nat} {cs:List Value} {x:DataW H×List MemPlace}
theorem zhv:Tryz.prog.cellsOf 72=4:=by kernel_rfl
theorem zjD:Tryz.prog.cellsOf 23=3:=by kernel_rfl
theorem ziW:Tryz.prog.cellsOf 24=1:=by kernel_rfl
theorem zjA:Tryz.prog.cellsOf 25=1:=by kernel_rfl
theorem zlh:Tryz.prog.cellsOf 27=5:=by kernel_rfl
theorem zmD (h:DataW.trod enc Tryz.prog w 0 sp held n 72 cs=some x):∃ s:Note,PReps (InW w) w s.cells cs:=by
 obtain ⟨hl,m,hf⟩:=zbC Tryz.underlying72 h;rw [zhv] at hl
 match cs,hl with
 | [c0,c1,c2,c3],_ =>
  simp only [List.toList_toArray,List.mem_cons,List.not_mem_nil,or_false,forall_eq_or_imp,forall_eq,zdM,List.drop,List.take] at hf;obtain ⟨⟨y0,h0⟩,⟨y1,h1⟩,⟨y2,h2⟩,⟨y3,h3⟩⟩:=hf;obtain ⟨a,e0,_⟩:=zb7 h0;obtain ⟨b,e1,_⟩:=zb7 h1;obtain ⟨c,e2,_⟩:=zb7 h2;obtain ⟨d,e3,_⟩:=zb7 h3;simp at e0 e1 e2 e3;subst e0 e1 e2 e3;exact ⟨⟨a,b,c,d⟩,.cons (.int ..) <| .cons (.int ..) <| .cons (.int ..) <| .cons (.int ..) .nil⟩
theorem zkX (h:DataW.trod enc Tryz.prog w 0 sp held n 24 cs=some x) (hs:∀ a len cap,cs=[.slice (some a) len cap]->a.spot=none):∃ (s:Sl Sight) (v:Value),cs=[v]/\Rep (InW w) w (s.pv Sight.cells 9) v :=
 zfF Tryz.underlying24 zgF (fun _=>rfl) (fun n cs x h=>by
  obtain ⟨s,rfl⟩:=zlQ h;exact ⟨s,zls s⟩) h hs
theorem zl6 (h:DataW.trod enc Tryz.prog w 0 sp held n 25 cs=some x) (hs:∀ a len cap,cs=[.slice (some a) len cap]->a.spot=none):∃ (s:Sl Note) (v:Value),cs=[v]/\Rep (InW w) w (s.pv Note.cells 4) v :=
 zfF Tryz.underlying25 zhv (fun _=>rfl) (fun n cs x h=>zmD h) h hs
theorem zmz (h:DataW.trod enc Tryz.prog w 0 sp held n 28 cs=some x) (hs:∀ a len cap,cs=[.slice (some a) len cap]->a.spot=none):∃ (s:Sl Int) (v:Value),cs=[v]/\Rep (InW w) w (s.pv intF 1) v :=
 zfF Tryz.underlying28 zdM (fun _=>rfl) (fun n cs x h=>by
  obtain ⟨a,rfl,_⟩:=zb7 h;exact ⟨a,.cons (.int ..) .nil⟩) h hs
theorem zh5 {r:Reach} {base:Nat} {t e:TypeId} {a:Addr} {len cap:Nat} (ht:Tryz.prog.underlying t=some (.slice e)) (h:Cell.okWide Tryz.prog w r base t (.slice (some a) len cap)):a.spot=none:=by
 unfold Cell.okWide at h;rw [ht] at h;unfold Cell.ok at h;rw [ht] at h;exact h.2.2.2.1
theorem zk1:Tryz.prog.cellTypes Tryz.prog.depth 27=some [3,3,3,24,25]:=by kernel_rfl
theorem zmO {r:Reach} {base:Nat} {v:Value} {d:DataW H} {ps:List MemPlace} (hok:Value.okWide Tryz.prog w r base 27 v) (h:DataW.Trod enc Tryz.prog w 0 sp held 27 v d ps):∃ l:Life,Rep (InW w) w (.agg l.cells) v:=by
 unfold Value.okWide at hok;simp only [Tryz.underlying27] at hok;obtain ⟨cs,rfl,_,ts,hts,_,hcell⟩:=hok;rw [zk1] at hts;obtain rfl:=Option.some.inj hts;obtain ⟨fuel,hf⟩:=h;obtain ⟨hl,m,hf⟩:=zbC Tryz.underlying27 hf;rw [zlh] at hl;simp only [Value.cells] at hl hf;obtain ⟨cs⟩:=cs
 match cs,hl with
 | [c0,c1,c2,c3,c4],_ =>
  simp only [List.toList_toArray,List.mem_cons,List.not_mem_nil,or_false,forall_eq_or_imp,forall_eq,zjD,ziW,zjA,List.drop,List.take] at hf;obtain ⟨⟨y0,h0⟩,⟨y1,h1⟩,⟨y2,h2⟩⟩:=hf;obtain ⟨_,m2,hh⟩:=zbC Tryz.underlying23 h0;simp only [List.toList_toArray,List.mem_cons,List.not_mem_nil,or_false,forall_eq_or_imp,forall_eq,zdM,List.drop,List.take] at hh;obtain ⟨⟨z0,g0⟩,⟨z1,g1⟩,⟨z2,g2⟩⟩:=hh;obtain ⟨a,e0,_⟩:=zb7 g0;obtain ⟨b,e1,_⟩:=zb7 g1;obtain ⟨c,e2,_⟩:=zb7 g2;simp at e0 e1 e2;subst e0 e1 e2;obtain ⟨s,v3,e3,r3⟩:=zkX h1 (fun a len cap e=>by
   simp at e;subst e;obtain ⟨u,hu,hc⟩:=hcell 3 _ rfl;simp at hu;subst hu;exact zh5 Tryz.underlying24 hc)
  obtain ⟨q,v4,e4,r4⟩:=zl6 h2 (fun a len cap e=>by
   simp at e;subst e;obtain ⟨u,hu,hc⟩:=hcell 4 _ rfl;simp at hu;subst hu;exact zh5 Tryz.underlying25 hc)
  simp at e3 e4;subst e3 e4;exact ⟨⟨⟨a,b,c⟩,s,q⟩,zmI (.cons (.int ..) <| .cons (.int ..) <| .cons (.int ..) <| .cons r3 <| .cons r4 .nil)⟩
theorem zk8 {r:Reach} {base:Nat} {v:Value} {d:DataW H} {ps:List MemPlace} (hok:Value.okWide Tryz.prog w r base 28 v) (h:DataW.Trod enc Tryz.prog w 0 sp held 28 v d ps):∃ c:Sl Int,Rep (InW w) w (c.pv intF 1) v:=by
 obtain ⟨a0,len,cap,rfl⟩:=Go.WideShapes.okWide_slice Tryz.underlying28 hok;obtain ⟨fuel,hf⟩:=h;obtain ⟨s,v,e,hr⟩:=zmz hf (fun a len cap e=>by
  simp [Value.cells] at e;obtain ⟨rfl,rfl,rfl⟩:=e;unfold Value.okWide at hok;simp only [Tryz.underlying28] at hok;exact zh5 Tryz.underlying28 hok)
 simp [Value.cells] at e;subst e;exact ⟨s,hr⟩
end
end Go.Proofs.YtifmedfpnnfmoaaGreatDoor.Vm
