/- Narrowing: the plain facts that the walk of narrow uses. Narrowing: what the program's narrow computes. The leaf of choose (look$1): all points of a part are chosen; what is gathered. choose (look$1): what it gathers, by induction on the points that are left. What look is to return, and the lists of facts that it makes. Plain Lean. look: what the program sees of a part, walked. -/
import Derived.Test.YtleggocccaeemaaOk17
import Derived.Test.YtleggocccaeemaaOk19
import Derived.Test.YtleggocccaeemaaOk22
import Derived.Test.YtleggocccaeemaaOk23
import Derived.Test.YtleggocccaeemaaOk21
namespace Go.Proofs.Ytleggocccaeemaa.Vm
open Go
set_option linter.unusedSimpArgs false
set_option linter.unusedVariables false
set_option maxHeartbeats 4000000
def zaM (f:Fact) (l:List Box):Prop:=zQ f l=true
theorem zhm {f:Fact} {n:Nat} (h:zaB f n=true):Named f n:=by
 have h':=(za5 f n).1 h
 refine ⟨by omega,by omega,?_⟩
 by_cases hk:f.kind=2
 ·have:=h'.2.2.2.2.2.1 hk;omega
 ·have:=h'.2.2.2.2.2.2 hk;omega
theorem zcO {p:Problem} (ok:CheckOk p):Anti zaM p.facts.xs p.boxes.xs.length:=fun f hf l m hm hw hs hl h =>
 zkS (by rw [hm];exact zhm (ok.fact f hf)) hs hl hw h
theorem zdW {p:Problem} (ok:CheckOk p):Wf p.boxes.xs:=fun b hb=>by
 have:=valid_iff.1 (ok.valid b hb);exact ⟨by omega,by omega⟩
theorem zb0 {p:Problem} (ok:CheckOk p) {l:List Box} (hs:SubL l p.boxes.xs) (hw:Wf l):∀ b∈l,zaz b=true:=by
 intro b hb;obtain ⟨i,hi,rfl⟩:=List.mem_iff_getElem.1 hb;have hi':i < p.boxes.xs.length:=by rw [<- hs.1];exact hi
 have h1:=hs.2 i hi hi';have h2:=valid_iff.1 (ok.valid _ (List.getElem_mem hi'));have h3:=hw _ (List.getElem_mem hi);unfold subB subS at h1;unfold wfB at h3;rw [valid_iff];omega
theorem ziY {p:Problem} (ok:CheckOk p) {l:List Box} (hs:SubL l p.boxes.xs) (hw:Wf l) {f:Fact} (hf:f∈p.facts.xs):ROk f l:=zlR (ok.fine hs.1 (zb0 ok hs hw) hf)
theorem zfM {l:List Box} (hw:Wf l) {i:Nat} (hi:i < l.length) (k:Nat):Wf (zat l i k):=by
 rw [zba hi];exact hw.set (zds (hw _ (List.getElem_mem hi)) k)
theorem zet {l:List Box} (hw:Wf l) {i:Nat} (hi:i < l.length) (k:Nat):SubL (zat l i k) l:=by
 rw [zba hi];have:=(SubL.refl l).set (i:=i) (zir (hw _ (List.getElem_mem hi)) k);rwa [List.set_getElem_self] at this
theorem mem_nats {n:Nat} {j:Int}:j∈zah n↔∃ k:Nat,k < n/\j=k:=by
 simp only [zah,List.mem_map,List.mem_range]
 constructor
 ·rintro ⟨k,h,rfl⟩;exact ⟨k,h,rfl⟩
 ·rintro ⟨k,h,rfl⟩;exact ⟨k,h,rfl⟩
theorem zcr (fs:List Fact):okIs fs (zah fs.length):=fun i hi=>by
 obtain ⟨k,h,rfl⟩:=mem_nats.1 hi;omega
theorem zgC (fs:List Fact) (i:Int):okIs fs (zaN fs (zah fs.length) i):=fun j hj=>zcr fs j (List.mem_filter.1 hj).1
theorem zim (fs:List Fact) (i:Int):(zaN fs (zah fs.length) i).length<=fs.length:=by
 have:=List.length_filter_le (fun k=>zbj fs[k.toNat]! i) (zah fs.length);rwa [zay] at this
theorem zlS {fs:List Fact} {l:List Box}:0<=badI fs l (zah fs.length)↔∃ f∈fs,zQ f l=true:=by
 rw [zf8 fun i hi=>(zcr fs i hi).1]
 constructor
 ·rintro ⟨j,hj,h⟩;obtain ⟨k,hk,rfl⟩:=mem_nats.1 hj;rw [show ((k:Int)).toNat=k by simp,getElem!_pos fs k hk] at h;exact ⟨_,List.getElem_mem hk,h⟩
 ·rintro ⟨f,hf,h⟩;obtain ⟨k,hk,rfl⟩:=List.mem_iff_getElem.1 hf;exact ⟨k,mem_nats.2 ⟨k,hk,rfl⟩,by rw [show ((k:Int)).toNat=k by simp,getElem!_pos fs k hk];exact h⟩
theorem zh4 {fs:List Fact} {l:List Box} {i:Int}:0<=badI fs l (zaN fs (zah fs.length) i)↔∃ f∈fs,zbj f i=true/\zQ f l=true:=by
 rw [zf8 fun j hj=>(zgC fs i j hj).1];unfold zaN;simp only [List.mem_filter]
 constructor
 ·rintro ⟨j,⟨hj,hn⟩,h⟩;obtain ⟨k,hk,rfl⟩:=mem_nats.1 hj;rw [show ((k:Int)).toNat=k by simp,getElem!_pos fs k hk] at h hn;exact ⟨_,List.getElem_mem hk,hn,h⟩
 ·rintro ⟨f,hf,hn,h⟩;obtain ⟨k,hk,rfl⟩:=List.mem_iff_getElem.1 hf;exact ⟨k,⟨mem_nats.2 ⟨k,hk,rfl⟩,by rw [show ((k:Int)).toNat=k by simp,getElem!_pos fs k hk];exact hn⟩,by rw [show ((k:Int)).toNat=k by simp,getElem!_pos fs k hk];exact h⟩
theorem ziq {p:Problem} (ok:CheckOk p) {f:Fact} (hf:f∈p.facts.xs) {i:Nat} (hn:zbj f i=false) {l:List Box} (hi:i < l.length) (b:Box):zQ f (l.set i b)=zQ f l:=by
 have hfm:=(za5 f _).1 (ok.fact f hf);unfold zbj at hn;simp only [Bool.or_eq_false_iff,Bool.and_eq_false_iff,decide_eq_false_iff_not] at hn;obtain ⟨ha,hb,hc⟩:=hn;have g:∀ j:Int,0<=j->j≠i->(l.set i b)[j.toNat]! = l[j.toNat]! := fun j h0 hj=>by
  rw [getElem!_def,getElem!_def,List.getElem?_set_ne (by omega)]
 refine zc1 ⟨g _ (by omega) ha,g _ (by omega) hb,fun hk=>g _ ?_ ?_⟩
 ·have:=hfm.2.2.2.2.2.1 hk;omega
 ·rcases hc with h|h
  ·exact absurd hk h
  ·exact h
section
variable {p:Problem} {L L0:List Box} {i k:Nat} {c:Bool}
structure NarJ (p:Problem) (L:List Box):Prop where
 hold:Holds' zaM p.facts.xs p.boxes.xs L
 none:∀ f∈p.facts.xs,zQ f L=false
structure WhileJ (p:Problem) (i:Nat) (L:List Box):Prop where
 hold:Holds' zaM p.facts.xs p.boxes.xs L
 others:∀ f∈p.facts.xs,zbj f i=false->zQ f L=false
theorem NarJ.while (h:NarJ p L) (i:Nat):WhileJ p i L:=⟨h.hold,fun f hf _=>h.none f hf⟩
theorem WhileJ.exit (ok:CheckOk p) (h:WhileJ p i L) (hi:i < L.length) (hb:¬ ∃ f∈p.facts.xs,zbj f i=true/\zQ f (zat L i k)=true):NarJ p L/\∀ f∈p.facts.xs,zQ f (zat L i k)=false:=by
 have key:∀ f∈p.facts.xs,zQ f (zat L i k)=false:=fun f hf=>by
  cases hn:zbj f i with
  | true =>
   cases hs:zQ f (zat L i k) with
   | true=>exact absurd ⟨f,hf,hn,hs⟩ hb
   | false=>rfl
  | false=>rw [zba hi,ziq ok hf hn hi];exact h.others f hf hn
 refine ⟨⟨h.hold,fun f hf=>?_⟩,key⟩
 cases hs:zQ f L with
 | false=>rfl
 | true =>
  have:=zcO ok f hf (zat L i k) L h.hold.sub.1 h.hold.wf (zet h.hold.wf hi k) (zfM h.hold.wf hi k) hs;unfold zaM at this;rw [key f hf] at this;simp at this
theorem WhileJ.step (ok:CheckOk p) (h:WhileJ p i L) (hi:i < L.length) (hk:k < 4) (hb:∃ f∈p.facts.xs,zbj f i=true/\zQ f (zat L i k)=true) (ht:¬ zaF L[i] k):WhileJ p i (cutL L i k)/\zby (cutL L i k) < zby L:=by
 obtain ⟨f,hf,_,hs⟩:=hb
 refine ⟨⟨h.hold.cut (zcO ok) hi hk hf hs ht,fun g hg hn=>?_⟩,zfz h.hold.wf hi hk ht⟩
 rw [zbP hi,ziq ok hg hn hi];exact h.others g hg hn
theorem WhileJ.empty (ok:CheckOk p) (h:WhileJ p i L) (hi:i < L.length) (hk:k < 4) (hb:∃ f∈p.facts.xs,zbj f i=true/\zQ f (zat L i k)=true) (ht:zaF L[i] k):IsNar zaM p.facts.xs p.boxes.xs none:=by
 obtain ⟨f,hf,_,hs⟩:=hb;exact h.hold.empty (zcO ok) hi hk hf hs ht
def znb (p:Problem) (L:List Box) (i k:Nat):Prop:=∀ i' k',k' < 4->(i' < i\/(i'=i/\k' < k))->i' < L.length->∀ f∈p.facts.xs,zQ f (zat L i' k')=false
structure PJ (p:Problem) (L0 L:List Box) (c:Bool) (i k:Nat):Prop where
 nar:NarJ p L
 same:c=false->L=L0/\znb p L i k
 less:c=true->zby L < zby L0
structure WJ (p:Problem) (L0 L:List Box) (c:Bool) (i k:Nat):Prop where
 wj:WhileJ p i L
 same:c=false->L=L0/\znb p L i k
 less:c=true->zby L < zby L0
theorem PJ.start (h:NarJ p L):PJ p L L false 0 0:=⟨h,fun _=>⟨rfl,fun i' k' _ h=>by omega⟩,fun h=>by cases h⟩
theorem PJ.while (h:PJ p L0 L c i k):WJ p L0 L c i k:=⟨h.nar.while i,h.same,h.less⟩
theorem WJ.exit (ok:CheckOk p) (h:WJ p L0 L c i k) (hi:i < L.length) (hk:k < 4) (hb:¬ ∃ f∈p.facts.xs,zbj f i=true/\zQ f (zat L i k)=true):PJ p L0 L c i (k+1):=by
 obtain ⟨h1,h2⟩:=h.wj.exit ok hi hb
 refine ⟨h1,fun hc=>?_,h.less⟩
 obtain ⟨h3,h4⟩:=h.same hc
 refine ⟨h3,fun i' k' hk' hlt hi' f hf=>?_⟩
 rcases hlt with hl|⟨rfl,hl⟩
 ·exact h4 i' k' hk' (.inl hl) hi' f hf
 ·rcases Nat.lt_succ_iff_lt_or_eq.1 hl with hl|rfl
  ·exact h4 i' k' hk' (.inr ⟨rfl,hl⟩) hi' f hf
  ·exact h2 f hf
theorem WJ.step (ok:CheckOk p) (h:WJ p L0 L c i k) (hi:i < L.length) (hk:k < 4) (hb:∃ f∈p.facts.xs,zbj f i=true/\zQ f (zat L i k)=true) (ht:¬ zaF L[i] k):WJ p L0 (cutL L i k) true i k/\zby (cutL L i k) < zby L:=by
 obtain ⟨h1,h2⟩:=h.wj.step ok hi hk hb ht
 refine ⟨⟨h1,fun hc=>(by cases hc),fun _=>?_⟩,h2⟩
 cases c with
 | false=>have:=(h.same rfl).1;subst this;exact h2
 | true=>have:=h.less rfl;omega
theorem PJ.nextI (h:PJ p L0 L c i 4):PJ p L0 L c (i+1) 0:=⟨h.nar,fun hc=>⟨(h.same hc).1,fun i' k' hk' hlt hi' f hf=>(h.same hc).2 i' k' hk' (by omega) hi' f hf⟩,h.less⟩
theorem PJ.done (h:PJ p L0 L c L.length 0) (hc:c=false):Stable zaM p.facts.xs L:=fun i hi k hk f hf hs=>by
 have:=(h.same hc).2 i k hk (.inl hi) hi f hf;unfold zaM at hs;rw [this] at hs;simp at hs
theorem zlY {M:Nat}:∀ {l:List Box},(∀ b∈l,zhN b<=M)->zby l<=M*l.length
 | [],_=>by simp [zby]
 | b::l,h=>by
  have h1:=h b (by simp);have h2:=zlY (l:=l) fun x hx=>h x (by simp [hx]);unfold zby at h2 ⊢;simp only [List.map_cons,List.sum_cons,List.length_cons,Nat.mul_add,Nat.mul_one];omega
theorem zdh (ok:CheckOk p) (hs:SubL L p.boxes.xs):zby L<=24552:=by
 have h1:zby L<=2046*L.length:=zlY fun b hb=>by
  obtain ⟨i,hi,rfl⟩:=List.mem_iff_getElem.1 hb;have hi':i < p.boxes.xs.length:=by rw [<- hs.1];exact hi
  have h1:=hs.2 i hi hi';have h2:=ok.box _ (List.getElem_mem hi');unfold boxB at h2;simp only [Bool.and_eq_true,decide_eq_true_eq] at h2;unfold subB subS at h1;unfold zhN;omega
 have h2:L.length<=12:=by rw [hs.1];exact ok.nb
 have:2046*L.length<=2046*12:=Nat.mul_le_mul_left _ h2;omega
end
set_option maxRecDepth 4000
theorem zkC {α:Type} {f:α->List PV} {sz:Nat} {H:Heap} {v:AV} {l:List α} {n:Nat} (hf:∀ a,(f a).length=sz) (h:OwnV f sz H v l):∃ s:Sl α,s.xs=l/\FrzK H true (n+2) v (s.pv f sz):=by
 rcases h with ⟨rfl,rfl⟩|⟨id,rfl,hg⟩
 ·exact ⟨.nil,rfl,.pure _⟩
 ·exact zeB hf hg rfl
theorem zgv (l:List Box):((Sl.mk false l).pv Box.cells 4).cold=true:=by
 simp [Sl.pv,PV.cold,PV.coldN,Box.cells,Span.cells]
theorem zlN (a:Nat):Int.tdiv (a:Int) 2=((a / 2:Nat):Int):=rfl
theorem zlQ (a:Nat):Int.tmod (a:Int) 2=((a % 2:Nat):Int):=rfl
def zfk (p:Problem):Option (List Box)->PV
 | none=>.nils
 | some l=>(if p.boxes.isNil=true then Sl.nil else Sl.mk false l).pv Box.cells 4
theorem sh23:G.shared 23=false:=by decide
theorem e23 (n:Nat) (p:Problem) (ok:CheckOk p) (r:Option (List Box)) (hr:IsNar zaM p.facts.xs p.boxes.xs r):zI G (n+7) 23 [.agg p.cells]=some (.tup [zfk p r,.bool r.isSome]):=by
 refine zA (zB _) rfl g23 rfl ?_
 obtain ⟨bs,fs⟩:=p;have nb:bs.xs.length<=12:=ok.nb;have nf:fs.xs.length<=60:=ok.nf;have hAll:=fun H=>zh (G:=G) (n:=n+6) (H:=H) (caps:=[]) (ps:=[fs.pv Fact.cells 9]) sh46 (e46 (n+5) fs (by omega));simp only [List.map_cons,List.map_nil] at hAll;have hBad:Hide (∀ (is:Sl Int) (l:Sl Box),okIs fs.xs is.xs->is.xs.length<=60->SubL l.xs bs.xs->Wf l.xs->zI G (n+6) 47 [fs.pv Fact.cells 9,is.pv intF 1,l.pv Box.cells 4]=some (.int .i64 (badI fs.xs l.xs is.xs))) :=
  ⟨fun is l h1 h2 h3 h4=>e47 n fs is l h1 (by omega) (fun f hf=>ziY ok h3 h4 hf)⟩
 have ho:=zna (n+5);have okH:=Hide.mk ok;have hrH:=Hide.mk hr
 by_cases hN:bs.xs=[]
 ·have hf0:fs.xs=[]:=by
   cases hfx:fs.xs with
   | nil=>rfl
   | cons f l =>
    have:=(za5 f _).1 (ok.fact f (by show f∈fs.xs;rw [hfx];simp));have e:((Problem.mk bs fs).boxes.xs.length:Int)=0:=by show (bs.xs.length:Int)=0;rw [hN];rfl
    omega
  have hrs:r=some []:=hrH.h.unique (s:=some []) (by
   show IsNar zaM fs.xs bs.xs (some []);rw [hN];exact ⟨Holds'.init (fun b hb=>by simp at hb),fun i hi=>by simp at hi⟩)
  subst hrs;have hB0:badI fs.xs [] (zah fs.xs.length)=-1:=by rw [hf0];rfl
  have hbH:=Hide.mk (hBad.h (Sl.mk false (zah fs.xs.length)));have hbl:bs.xs.length=0:=by rw [hN];rfl
  have hNH:=Hide.mk hN;clear hr hf0 hN;(repeat' first|simp [*,zb,c23,Problem.cells]|(apply za<;>intro _ h<;>try simp [-Nat.le_zero_eq] at h))
  refine zaW (by omega) ?_
  intro v H1 hv hvn hnx hsame hnew;rw [hNH.h] at hv;obtain ⟨s0,hs0,hf0⟩:=zkC (n:=10) (f:=Box.cells) (sz:=4) (fun _=>rfl) hv;have c0:=hbH.h s0 (zcr _) (by simp [zay];omega) (by rw [hs0,hNH.h];exact SubL.refl _) (by rw [hs0];exact fun b hb=>by simp at hb);rw [hs0,Sl.xs_mk,hB0] at c0;have hlv:=hv.len;have hone:=hv.one;simp only [List.length_nil] at hlv;have hres:∃ ids,freeze H1 false 11 v=some (zfk ⟨bs,fs⟩ (some []),ids):=by
   rcases hv with ⟨_,rfl⟩|⟨id,rfl,hg⟩
   ·have e:bs.isNil=true:=by simpa [isNil] using hvn.symm
    refine ⟨[],?_⟩
    unfold zfk;rw [e];rfl
   ·have e:bs.isNil=false:=by simpa [isNil] using hvn.symm
    obtain ⟨ids,hids⟩:=zbz (n:=9) (f:=Box.cells) (sz:=4) (fun _=>rfl) hg rfl
    refine ⟨ids,?_⟩
    unfold zfk;rw [e];exact hids
  have hresH:=Hide.mk hres;clear hv hvn hsame hnew hbH hres hs0;(repeat' first|simp [*,zb]|(apply za<;>intro _ h<;>try simp [-Nat.le_zero_eq] at h))
  refine zbA (caps:=[]) (ps:=[_,_,_]) (by decide) (.cons (.pure _) (.cons (.pure _) (.cons hf0 .nil))) c0 rfl ?_
  clear c0 hf0;(repeat' first|simp [*,zb]|(apply za<;>intro _ h<;>try simp [-Nat.le_zero_eq] at h))
  refine zz [(2,3),(6,11),(24,85)] (fun (b:Bool) env H=>env 6=.pure (.bool b)/\H=H1) (fun b=>if b=true then 1 else 0) true ?_ ?_ ?_ ?_
  ·decide
  ·exact ⟨by simp,rfl⟩
  ·simp only [zx];simp
  rintro b env H ⟨g6,rfl⟩
  cases b with
  | false =>
   obtain ⟨ids,hids⟩:=hresH.h;(repeat' first|simp [*,zb]|(apply za<;>intro _ h<;>try simp [-Nat.le_zero_eq] at h))
  | true =>
   (repeat' first|simp [*,zb]|(apply za<;>intro _ h<;>try simp [-Nat.le_zero_eq] at h))
   refine zz [(2,3),(6,11),(27,85)] (fun (u:Unit) env H2=>env 27=.pure (.int .i64 0)/\env 6=.pure (.bool false)/\H2=H) (fun u=>0) () ?_ ?_ ?_ ?_
   ·decide
   ·exact ⟨by simp,by simp,rfl⟩
   ·simp only [zx];omega
   rintro u env2 H2 ⟨g27,g6',rfl⟩;(repeat' first|simp [*,zb]|(apply za<;>intro _ h<;>try simp [-Nat.le_zero_eq] at h))
 have hN0:0 < bs.xs.length:=List.length_pos_iff.2 hN;have hnil:bs.isNil=false:=by
  cases bs with
  | nil=>exact absurd rfl hN
  | mk h l=>rfl
 have hpv:Hide (∀ l,zfk ⟨bs,fs⟩ (some l)=(Sl.mk false l).pv Box.cells 4):=⟨fun l=>by unfold zfk;simp only [hnil];rfl⟩
 have hnone:zfk ⟨bs,fs⟩ none=.nils:=rfl;clear hr;have hbH:=Hide.mk (hBad.h (Sl.mk false (zah fs.xs.length)));(repeat' first|simp [*,zb,c23,Problem.cells]|(apply za<;>intro _ h<;>try simp [-Nat.le_zero_eq] at h))
 refine zaW (by omega) ?_
 intro v H1 hv hvn hnx hsame hnew;obtain ⟨id,rfl,hg⟩:=hv.row hN;have hid:=zC hg;obtain ⟨s0,hs0,hf0⟩:=zeB (n:=10) (f:=Box.cells) (sz:=4) (fun _=>rfl) hg rfl;have c0:=hbH.h s0 (zcr _) (by simp [zay];omega) (by rw [hs0];exact SubL.refl _) (by rw [hs0];exact zdW okH.h);rw [hs0] at c0;simp only [Sl.xs_mk] at c0;clear hv hvn hsame hnew hbH;(repeat' first|simp [*,zb]|(apply za<;>intro _ h<;>try simp [-Nat.le_zero_eq] at h))
 refine zbA (caps:=[]) (ps:=[_,_,_]) (by decide) (.cons (.pure _) (.cons (.pure _) (.cons hf0 .nil))) c0 rfl ?_
 have hba:=zlS (fs:=fs.xs) (l:=bs.xs)
 by_cases hb0:0<=badI fs.xs bs.xs (zah fs.xs.length)
 ·have hrn:r=none:=hrH.h.unique (by
   obtain ⟨f,hf,hs⟩:=hba.1 hb0;exact (Holds'.init (zdW okH.h)).fail (zcO okH.h) hN0 hf hs)
  subst hrn;clear hba c0 hf0 hs0 hrH;generalize badI fs.xs bs.xs (zah fs.xs.length)=B at *;(repeat' first|simp [*,zb]|(apply za<;>intro _ h<;>try simp [-Nat.le_zero_eq] at h))
 have hnone0:∀ f∈fs.xs,zQ f bs.xs=false:=fun f hf=>by
  cases hs:zQ f bs.xs with
  | false=>rfl
  | true=>exact absurd (hba.2 ⟨f,hf,hs⟩) hb0
 have hJ0:NarJ ⟨bs,fs⟩ bs.xs:=⟨Holds'.init (zdW okH.h),hnone0⟩
 have hJ0:=Hide.mk hJ0;have hb0':¬ 0<=badI fs.xs bs.xs (zah fs.xs.length):=hb0;clear hba c0 hf0 hs0 hnone0 hb0;generalize badI fs.xs bs.xs (zah fs.xs.length)=B at *;(repeat' first|simp [*,zb]|(apply za<;>intro _ h<;>try simp [-Nat.le_zero_eq] at h))
 refine zz [(2,3),(6,11),(24,85)] (fun (s:List Box×Bool) env H=>env 6=.pure (.bool s.2)/\id < H.nx/\H.get id=.cells true (zm Box.cells s.1)/\Hide (NarJ ⟨bs,fs⟩ s.1/\(s.2=false->Stable zaM fs.xs s.1))) (fun s=>2*zby s.1+if s.2=true then 1 else 0) (bs.xs,true) ?_ ?_ ?_ ?_
 ·decide
 ·exact ⟨by simp,hid,hg,⟨hJ0.h,fun h=>by cases h⟩⟩
 ·have:=zdh okH.h (L:=bs.xs) (SubL.refl _);simp only [zx,if_true];omega
 clear hJ0 hg hid;rintro ⟨L0,b⟩ env H ⟨g6,hid,hg,hJ⟩;simp only at g6 hg;have hL0:Hide (L0.length=bs.xs.length):=⟨hJ.h.1.hold.sub.1⟩
 have hg0:=Hide.mk hg
 cases b with
 | false =>
  have hrs:r=some L0:=hJ.h.1.hold.stop (hJ.h.2 rfl) hrH.h;subst hrs;obtain ⟨ids,hids⟩:=zbz (n:=9) (f:=Box.cells) (sz:=4) (fun _=>rfl) hg hL0.h;rw [hpv.h];clear hJ hrH;(repeat' first|simp [*,zb]|(apply za<;>intro _ h<;>try simp [-Nat.le_zero_eq] at h))
 | true =>
  have hP0:=Hide.mk (PJ.start hJ.h.1);have hsz:=Hide.mk (zdh okH.h (L:=L0) hJ.h.1.hold.sub);clear hJ hg;(repeat' first|simp [*,zb]|(apply za<;>intro _ h<;>try simp [-Nat.le_zero_eq] at h))
  refine zz [(2,3),(6,11),(27,85)] (fun (i:Nat) env H=>env 27=.pure (.int .i64 i)/\i<=bs.xs.length/\∃ c:Bool,env 6=.pure (.bool c)/\id < H.nx/\∃ L,H.get id=.cells true (zm Box.cells L)/\Hide (PJ ⟨bs,fs⟩ L0 L c i 0)) (fun i=>bs.xs.length - i) 0 ?_ ?_ ?_ ?_
  ·decide
  ·exact ⟨by simp,by omega,false,by simp,hid,L0,hg0.h,hP0⟩
  ·simp only [zx];omega
  clear hP0 g6 hid hg0;rintro i env H ⟨g27,hi,c,g6,hid,L,hg,hP⟩;have hLl:Hide (L.length=bs.xs.length):=⟨hP.h.nar.hold.sub.1⟩
  by_cases hlt:i < bs.xs.length
  ·have w0:IntKind.i64.wrap ((i:Int)+1)=(i+1:Nat):=by rw [wrap64 (by omega) (by omega)];omega
   have hltI:(i:Int) < bs.xs.length:=by omega
   have hAb:=fun H=>zh (G:=G) (n:=n+6) (H:=H) (caps:=[]) (ps:=[fs.pv Fact.cells 9,(Sl.mk false (zah fs.xs.length)).pv intF 1,.int .i64 i]) sh48 (e48 (n+4) fs (Sl.mk false (zah fs.xs.length)) i (zcr _) (by simp [zay];omega));simp only [List.map_cons,List.map_nil] at hAb;(repeat' first|simp [*,zb]|(apply za<;>intro _ h<;>try simp [-Nat.le_zero_eq] at h))
   refine zz [(2,3),(6,6),(9,11),(35,84)] (fun (k:Nat) env H=>env 35=.pure (.int .i64 k)/\k<=4/\∃ c:Bool,env 6=.pure (.bool c)/\id < H.nx/\∃ L,H.get id=.cells true (zm Box.cells L)/\Hide (PJ ⟨bs,fs⟩ L0 L c i k)) (fun k=>4 - k) 0 ?_ ?_ ?_ ?_
   ·decide
   ·exact ⟨by simp,by omega,c,by simp [g6],hid,L,hg,hP⟩
   ·simp only [zx];omega
   have g27':=g27;clear g27 g6 hid hg hP hLl;rintro k env H ⟨g35,hk,c,g6,hid,L,hg,hP⟩;have hLl:Hide (L.length=bs.xs.length):=⟨hP.h.nar.hold.sub.1⟩
   by_cases hk4:k < 4
   ·have w1:IntKind.i64.wrap ((k:Int)+1)=(k+1:Nat):=by rw [wrap64 (by omega) (by omega)];omega
    have hkI:(k:Int) < 4:=by omega
    have q1:=zlN k;have q2:=zlQ k;have u1:IntKind.i64.wrap ((k / 2:Nat):Int)=(k / 2:Nat):=wrap64 (by omega) (by omega);obtain ⟨ax,hax⟩:∃ ax:Nat,ax=k / 2:=⟨_,rfl⟩
    obtain ⟨hg2,hhg⟩:∃ m:Nat,m=k % 2:=⟨_,rfl⟩
    rw [<- hax] at q1 u1;rw [<- hhg] at q2;have hsk:Hide ((zdS i k).cells=[.int .i64 i,.int .i64 ax,.bool (decide (hg2=1))]):=⟨by simp [zdS,Side.cells,hax,hhg]⟩
    have haxH:=Hide.mk hax;have hhgH:=Hide.mk hhg;clear hax hhg;have hWJ:=Hide.mk hP.h.while;clear hP;(repeat' first|simp [*,zb]|(apply za<;>intro _ h<;>try simp [-Nat.le_zero_eq] at h));generalize hhb:decide ((hg2:Int)=1)=hb at *;have hhbH:=Hide.mk hhb;have hsk:Hide ((zdS i k).cells=[.int .i64 i,.int .i64 ax,.bool hb]):=⟨by
     rw [hsk.h,<- hhb];simp;omega⟩
    clear hhb;have hne:id≠H.nx:=by omega
    refine zz [(2,3),(6,6),(11,11),(45,83)] (fun (s:List Box) env H2=>∃ c:Bool,env 6=.pure (.bool c)/\H.nx < H2.nx/\H2.get id=.cells true (zm Box.cells s)/\H2.get H.nx=.cells true [.pure (.int .i64 i),.pure (.int .i64 ax),.pure (.bool hb)]/\Hide (WJ ⟨bs,fs⟩ L0 s c i k)) zby L ?_ ?_ ?_ ?_
    ·decide
    ·exact ⟨c,by simp [g6],by simp,by rw [zg hne,zf hid];exact hg,by simp,hWJ⟩
    ·have:=zdh okH.h (L:=L) hWJ.h.wj.hold.sub;simp only [zx];omega
    have g35':=g35;clear g35 g6 hg hLl hWJ q1 q2 u1;rintro s env H2 ⟨c,g6,hnx2,hg,hgs,hJ⟩;have hls:s.length=bs.xs.length:=hJ.h.wj.hold.sub.1;have his:i < s.length:=by omega
    have hid2:id < H2.nx:=zC hg;obtain ⟨s1,hs1,hf1⟩:=zeB (n:=10) (f:=Box.cells) (sz:=4) (fun _=>rfl) hg hls;have c1:=e49 (n+4) s1 i k (by rw [hs1];exact his) hk4 (by rw [hs1];omega);rw [hs1,hsk.h] at c1;have hsw:=hJ.h.wj.hold.wf;have hss:=hJ.h.wj.hold.sub;have c2:=hBad.h (Sl.of (zaN fs.xs (zah fs.xs.length) i)) (Sl.mk false (zat s i k)) (by rw [Sl.xs_of];exact zgC _ _) (by rw [Sl.xs_of];have:=zim fs.xs i;omega) (by rw [Sl.xs_mk];exact (zet hsw his k).trans hss) (by rw [Sl.xs_mk];exact zfM hsw his k);rw [Sl.xs_of,Sl.xs_mk] at c2;have c3:=fun H=>zh (G:=G) (n:=n+6) (H:=H) (caps:=[]) (ps:=[fs.pv Fact.cells 9,(Sl.of (zaN fs.xs (zah fs.xs.length) i)).pv intF 1,(Sl.mk false (zat s i k)).pv Box.cells 4]) sh47 c2;simp only [List.map_cons,List.map_nil] at c3;have hvv:=valid_iff.1 (zb0 okH.h hss hsw _ (List.getElem_mem his));have hlsH:=Hide.mk hls;have p1:=zdt his;have p2:=zfv his;have p3:=zfC his;have p4:=zfD his;have r3:=zcf (own:=true) (f:=Box.cells) (sz:=4) (l:=s) (i:=i) (size:=1) (off:=3) (fun _=>rfl) his (by decide);have e3:i*4+2+1=i*4+3:=rfl;have v1:IntKind.i64.wrap (s[i].x.lo+1)=s[i].x.lo+1:=wrap64 (by omega) (by omega);have v2:IntKind.i64.wrap (s[i].x.hi - 1)=s[i].x.hi - 1:=wrap64 (by omega) (by omega);have v3:IntKind.i64.wrap (s[i].y.lo+1)=s[i].y.lo+1:=wrap64 (by omega) (by omega);have v4:IntKind.i64.wrap (s[i].y.hi - 1)=s[i].y.hi - 1:=wrap64 (by omega) (by omega);clear c2 hsw hss hvv hls hs1;have hba:=Hide.mk (zh4 (fs:=fs.xs) (l:=zat s i k) (i:=i));generalize hBv:badI fs.xs (zat s i k) (zaN fs.xs (zah fs.xs.length) i)=B2 at *;clear hBv;(repeat' first|simp [*,zb]|(apply za<;>intro _ h<;>try simp [-Nat.le_zero_eq] at h))
    refine zbA (caps:=[]) (ps:=[_,_]) (by decide) (.cons hf1 (.cons (.pure _) .nil)) c1 (zgv _) ?_
    clear c1 hf1
    by_cases hB2:0<=B2
    case neg =>
     have hPx:=Hide.mk (hJ.h.exit okH.h his hk4 (fun h=>hB2 (hba.h.2 h)));clear hba hJ p1 p2 p3 p4 r3;(repeat' first|simp [*,zb]|(apply za<;>intro _ h<;>try simp [-Nat.le_zero_eq] at h))
     refine ⟨k+1,by omega,by omega,by omega,?_⟩
     cases c with
     | false=>exact .inl ⟨rfl,s,rfl,hPx⟩
     | true=>exact .inr ⟨rfl,s,rfl,hPx⟩
    case pos =>
     have hfl:=hba.h.1 hB2;clear hba;have hk4':k=0\/k=1\/k=2\/k=3:=by omega
     rcases hk4' with rfl|rfl|rfl|rfl
     ·have hx0:ax=0:=haxH.h;have hb0:hb=false:=by rw [<- hhbH.h,hhgH.h];rfl
      subst hx0;subst hb0;have hW:=fun ht:¬ s[i].x.lo=s[i].x.hi=>hJ.h.step okH.h his (show 0 < 4 by omega) hfl (fun e=>ht (by simpa [zaF] using e));have hE:=fun ht:s[i].x.lo=s[i].x.hi=>hJ.h.wj.empty okH.h his (show 0 < 4 by omega) hfl (by simpa [zaF] using ht);rw [zbP his] at hW;have hW:=Hide.mk hW;have hE:=Hide.mk hE;have hlenS:=Hide.mk hJ.h.wj.hold.sub.1;clear hJ hfl
      by_cases hth:s[i].x.lo=s[i].x.hi
      ·have hrn:r=none:=hrH.h.unique (hE.h hth);subst hrn;clear hW hE hrH;(repeat' first|simp [*,zb]|(apply za<;>intro _ h<;>try simp [-Nat.le_zero_eq] at h))
      ·obtain ⟨hW1,hW2⟩:=hW.h hth;have hW1:=Hide.mk hW1;have hW2:=Hide.mk hW2;clear hW hE;(repeat' first|simp [*,zb]|(apply za<;>intro _ h<;>try simp [-Nat.le_zero_eq] at h))
       refine ⟨_,hW2.h,rfl,?_,hW1⟩
       rw [zg (Ne.symm hne)]
       simpa using hgs
     ·have hx0:ax=0:=haxH.h;have hb0:hb=true:=by rw [<- hhbH.h,hhgH.h];rfl
      subst hx0;subst hb0;have hW:=fun ht:¬ s[i].x.lo=s[i].x.hi=>hJ.h.step okH.h his (show 1 < 4 by omega) hfl (fun e=>ht (by simpa [zaF] using e));have hE:=fun ht:s[i].x.lo=s[i].x.hi=>hJ.h.wj.empty okH.h his (show 1 < 4 by omega) hfl (by simpa [zaF] using ht);rw [zbP his] at hW;have hW:=Hide.mk hW;have hE:=Hide.mk hE;have hlenS:=Hide.mk hJ.h.wj.hold.sub.1;clear hJ hfl
      by_cases hth:s[i].x.lo=s[i].x.hi
      ·have hrn:r=none:=hrH.h.unique (hE.h hth);subst hrn;clear hW hE hrH;(repeat' first|simp [*,zb]|(apply za<;>intro _ h<;>try simp [-Nat.le_zero_eq] at h))
      ·obtain ⟨hW1,hW2⟩:=hW.h hth;have hW1:=Hide.mk hW1;have hW2:=Hide.mk hW2;clear hW hE;(repeat' first|simp [*,zb]|(apply za<;>intro _ h<;>try simp [-Nat.le_zero_eq] at h))
       refine ⟨_,hW2.h,rfl,?_,hW1⟩
       rw [zg (Ne.symm hne)]
       simpa using hgs
     ·have hx0:ax=1:=haxH.h;have hb0:hb=false:=by rw [<- hhbH.h,hhgH.h];rfl
      subst hx0;subst hb0;have hW:=fun ht:¬ s[i].y.lo=s[i].y.hi=>hJ.h.step okH.h his (show 2 < 4 by omega) hfl (fun e=>ht (by simpa [zaF] using e));have hE:=fun ht:s[i].y.lo=s[i].y.hi=>hJ.h.wj.empty okH.h his (show 2 < 4 by omega) hfl (by simpa [zaF] using ht);rw [zbP his] at hW;have hW:=Hide.mk hW;have hE:=Hide.mk hE;have hlenS:=Hide.mk hJ.h.wj.hold.sub.1;clear hJ hfl
      by_cases hth:s[i].y.lo=s[i].y.hi
      ·have hrn:r=none:=hrH.h.unique (hE.h hth);subst hrn;clear hW hE hrH;(repeat' first|simp [*,zb]|(apply za<;>intro _ h<;>try simp [-Nat.le_zero_eq] at h))
      ·obtain ⟨hW1,hW2⟩:=hW.h hth;have hW1:=Hide.mk hW1;have hW2:=Hide.mk hW2;clear hW hE;(repeat' first|simp [*,zb]|(apply za<;>intro _ h<;>try simp [-Nat.le_zero_eq] at h))
       refine ⟨_,hW2.h,rfl,?_,hW1⟩
       rw [zg (Ne.symm hne)]
       simpa using hgs
     ·have hx0:ax=1:=haxH.h;have hb0:hb=true:=by rw [<- hhbH.h,hhgH.h];rfl
      subst hx0;subst hb0;have hW:=fun ht:¬ s[i].y.lo=s[i].y.hi=>hJ.h.step okH.h his (show 3 < 4 by omega) hfl (fun e=>ht (by simpa [zaF] using e));have hE:=fun ht:s[i].y.lo=s[i].y.hi=>hJ.h.wj.empty okH.h his (show 3 < 4 by omega) hfl (by simpa [zaF] using ht);rw [zbP his] at hW;have hW:=Hide.mk hW;have hE:=Hide.mk hE;have hlenS:=Hide.mk hJ.h.wj.hold.sub.1;clear hJ hfl
      by_cases hth:s[i].y.lo=s[i].y.hi
      ·have hrn:r=none:=hrH.h.unique (hE.h hth);subst hrn;clear hW hE hrH;(repeat' first|simp [*,zb]|(apply za<;>intro _ h<;>try simp [-Nat.le_zero_eq] at h))
      ·obtain ⟨hW1,hW2⟩:=hW.h hth;have hW1:=Hide.mk hW1;have hW2:=Hide.mk hW2;clear hW hE;(repeat' first|simp [*,zb]|(apply za<;>intro _ h<;>try simp [-Nat.le_zero_eq] at h))
       refine ⟨_,hW2.h,rfl,?_,hW1⟩
       rw [zg (Ne.symm hne)]
       simpa using hgs
   ·have hkk:k=4:=by omega
    subst hkk;have hP2:=Hide.mk hP.h.nextI;clear hP;(repeat' first|simp [*,zb]|(apply za<;>intro _ h<;>try simp [-Nat.le_zero_eq] at h))
    refine ⟨i+1,by omega,rfl,by omega,?_⟩
    cases c with
    | false=>exact .inl ⟨rfl,L,rfl,hP2⟩
    | true=>exact .inr ⟨rfl,L,rfl,hP2⟩
  ·have hiN:i=bs.xs.length:=by omega
   subst hiN;have hP2:=hP.h;rw [<- hLl.h] at hP2;have hst:=Hide.mk hP2.done;have hns:=Hide.mk hP2.nar;have hle:=Hide.mk hP2.less;have hsm:=Hide.mk hP2.same;clear hP hP2;(repeat' first|simp [*,zb]|(apply za<;>intro _ h<;>try simp [-Nat.le_zero_eq] at h))
   refine ⟨L,?_⟩
   cases c with
   | false=>exact .inl ⟨by rw [(hsm.h rfl).1];omega,rfl,rfl,⟨hns.h,hst.h rfl⟩⟩
   | true=>exact .inr ⟨hle.h rfl,rfl,rfl,⟨hns.h⟩⟩
def zX:Option (List Pt)->PV
 | none=>.nils
 | some c=>(Sl.mk false c).pv Pt.cells 2
def optF (o:Option (List Pt)):List PV:=[zX o]
@[simp] theorem zq5 (o:Option (List Pt)):AV.one (.pure (zX o))=true:=by cases o<;>rfl
theorem zo1 (o:Option (List Pt)):PV.one (zX o)=true:=by cases o<;>rfl
theorem zjw (o:Option (List Pt)):(optF o).length=1:=rfl
theorem znu (o:Option (List Pt)):(optF o).all PV.one=true:=by simp [optF,zo1]
theorem zmH {l:List (Option (List Pt))} {i:Nat} {a:Option (List Pt)} (h:i < l.length):zbK (.cells true (zm optF l)) 1 i [.pure (zX a)]=some (.cells true (zm optF (l.set i a))):=by
 have:=zbm (f:=optF) (sz:=1) (a:=a) zjw znu (by decide) h;rwa [Nat.mul_one] at this
theorem zkZ {own:Bool} {l:List (Option (List Pt))} {i:Nat} (h:i < l.length):zck (.cells own (zm optF l)) 1 i=some [.pure (zX l[i])]:=zbH zjw h
def zjj (sz len:Nat) (v i:AV):Option Eff:=match i with
 | .pure (.int _ n)=>if 0<=n then (if n < len then match v with
    | .pure (.ptr k cs o)=>some (.val (.pure (.ptr k cs (o+n.toNat*sz))))
    | .box id o=>some (.val (.box id (o+n.toNat*sz)))
    | _=>none else none)
   else none
 | _=>none
theorem zcx {cl:Callee} {env:Env} {H:Heap} (sz len:Nat) (x i:Opnd):step cl env H (.indexAddr sz (some len) x i)=zjj sz len (x.eval env) (i.eval env):=by
 simp only [step,zjj];rfl
theorem zmZ {k:IntKind} {sz len n id o:Nat} (h:n < len):zjj sz len (.box id o) (.pure (.int k n))=some (.val (.box id (o+n*sz))):=by
 simp only [zjj];rw [if_pos (by omega),if_pos (by omega)];simp
theorem zg9 (c:List Pt):((Sl.mk false c).pv Pt.cells 2).cold=true:=by
 simp [Sl.pv,PV.cold,PV.coldN,Pt.cells]
theorem zg1 {H:Heap} {pid m:Nat} {c:List Pt} (hp:H.get pid=.cells true (zm Pt.cells c)) (hc:c.length=m):FrzL H true zab ([.row pid 2 0 m]++([]:List PV).map .pure) [(Sl.mk true c).pv Pt.cells 2]:=by
 subst hc;have hch:∀ l:List Pt,chunks 2 l.length ((l.map Pt.cells).flatten)=l.map Pt.cells:=by
  intro l
  induction l with
  | nil=>rfl
  | cons a l ih=>simp only [List.length_cons,chunks,List.map_cons,List.flatten_cons];rw [List.take_left' (by rfl),List.drop_left' (by rfl),ih]
 refine .cons ?_ .nil
 obtain ⟨s,hs,hf⟩:=zeB (n:=10) (f:=Pt.cells) (sz:=2) (fun _=>rfl) hp rfl;obtain ⟨ids,hids⟩:=hf
 refine ⟨ids,hids.trans ?_⟩
 cases s with
 | nil =>
  exfalso;have h0:c=[]:=hs.symm;subst h0;unfold freeze at hids;simp [hp,zfx,zK,Sl.pv] at hids
 | mk h xs =>
  have hx:xs=c:=hs;subst hx
  cases h with
  | true=>rfl
  | false =>
   exfalso;unfold freeze at hids;simp only [hp] at hids
   split at hids
   ·split at hids
    ·simp [Sl.pv] at hids
    ·simp at hids
   ·simp at hids
def zd7 (part:List Nat) (eid:Nat) (A:Acc):List AV:=[.pure (zac part),.pure (.int .i64 A.n),.row eid 4 0 part.length,.pure (zX A.first)]
def okC (m:Nat) (c:List Pt):Prop:=c.length=m/\∀ x∈c,okP x
def okB (m:Nat) (B:List (Option (List Pt))):Prop:=B.length=4*m/\∀ o∈B,∀ d,o=some d->okC m d
theorem zpL {m:Nat} {B:List (Option (List Pt))} {c:List Pt} (h:okB m B) (hc:okC m c) (t:Nat):okB m (zam B c t):=by
 refine ⟨by rw [zbC];exact h.1,fun o ho d hd=>?_⟩
 obtain ⟨j,hj,e⟩:=List.mem_iff_getElem.1 ho;have hj':j < B.length:=by rw [zbC] at hj;exact hj
 simp only [zam,List.getElem_mapIdx] at e;subst hd
 split at e
 ·unfold zbq at e
  split at e
  ·rename_i h0;simp only [Option.some.injEq] at e;subst e;exact hc
  ·rename_i d' h0
   split at e
   ·simp only [Option.some.injEq] at e;subst e;exact hc
   ·exact h.2 _ (List.getElem_mem hj') d (h0.trans e)
 ·exact h.2 _ (List.getElem_mem hj') d e
theorem zji {n:Nat} {H:Heap} {eid sid sb pid pb:Nat} {c1 c2 c3 c4 c5:AV} {part:List Nat} {A:Acc} {c:List Pt} {k:AV->Heap->Prop}
  (o:eid < sid/\sid < sb/\sb < pid/\pid < pb) (hm0:0 < part.length) (hm:part.length<=12) (hc:okC part.length c) (hA:okB part.length A.best) (hn:A.n < 4000000000000000000)
  (hsb:H.get sb=.cells true [.box sid 0]) (hpb:H.get pb=.cells true [.row pid 2 0 part.length])
  (hs:H.get sid=.cells true (zd7 part eid A)) (he:H.get eid=.cells true (zm optF A.best)) (hp:H.get pid=.cells true (zm Pt.cells c))
  (hk:∀ H',H.nx<=H'.nx->(∀ j,j < H.nx->j≠sid->j≠eid->H'.get j=H.get j)->H'.get sid=.cells true (zd7 part eid (zcm A c))->H'.get eid=.cells true (zm optF (zcm A c).best)->k (.tup []) H') :
  ∃ v H',Vm.call G (n+2) (.fn 69) ([.pure (.int .i64 part.length),.pure (.ptr false [zac part] 0),.box sb 0,.box pb 0,c1,c2,c3,c4,c5]) H=some (v,H')/\k v H':=by
 refine zbg rfl g69 rfl ?_
 obtain ⟨m,hmm⟩:∃ m,m=part.length:=⟨_,rfl⟩
 have hcl:c.length=m:=by rw [hmm];exact hc.1
 have hkH:=Hide.mk hk;have hcH:=Hide.mk hc;have hAH:=Hide.mk hA;clear hk hc hA;have hc0:Hide (c≠[]):=⟨by intro h;rw [h] at hcl;simp at hcl;omega⟩
 have cl:=fun (H:Heap)=>(e70 n true c hc0.h (by omega))
 have hmH:=Hide.mk hmm;have hAn:=Hide.mk hn;have d1:sb≠sid:=by omega
 have d2:pb≠sid:=by omega
 have d3:pid≠sid:=by omega
 have d4:eid≠sid:=by omega
 have e1:sb≠eid:=by omega
 have e2:pb≠eid:=by omega
 have e3:pid≠eid:=by omega
 have e4:sid≠eid:=by omega
 have lt1:=zC hs;have lt2:=zC he;have lt3:=zC hsb;have lt4:=zC hpb;have lt5:=zC hp;have hpl:((part.map fun (k:Nat)=>[PV.int .i64 (k:Int)]).length)=part.length:=by simp
 obtain ⟨S,hS⟩:∃ S,S=AObj.cells true (zd7 part eid (zcm A c)):=⟨_,rfl⟩
 have hS2:zck S 1 2=some [.row eid 4 0 part.length]:=by rw [hS];rfl
 have hSn:zcm A c=⟨A.n+1,if A.n=0 then some c else A.first,A.best.mapIdx fun j o=>zbq (keyC j) o c⟩:=rfl;have hSH:=Hide.mk hS;have hSnH:=Hide.mk hSn;unfold zd7 at hs;obtain ⟨pp,hpp⟩:∃ pp,pp=zac part:=⟨_,rfl⟩
 have hpe:Hide (pp=zac part):=⟨hpp⟩
 have hlp:zdc (.pure pp)=some (.val (.pure (.int .i64 part.length))):=by rw [hpp];simp [zac]
 have hop:AV.cells (.pure pp)=[.pure pp]:=by rw [hpp];rfl
 have hon:AV.one (.pure pp)=true:=by rw [hpp];rfl
 have hbT:=Hide.mk (fun i j (hi:i < part.length) (hj:j < 4)=>((by rw [hAH.h.1];omega:i*4+j < A.best.length)));rw [<- hpp] at hs ⊢;clear hpp hmm hS hSn;have bzH:=Hide.mk (zjN A.best c)
 by_cases h1:A.n=0
 case' neg =>
  obtain ⟨N1,hN1⟩:∃ N1:Int,N1=(A.n:Int)+1:=⟨_,rfl⟩
  have hI:¬ N1=1:=by omega
  have w1:IntKind.i64.wrap ((A.n:Int)+1)=N1:=by rw [wrap64 (by omega) (by omega)];omega
  have hSe:Hide (AObj.cells true [.pure pp,.pure (.int .i64 N1),.row eid 4 0 part.length,.pure (zX A.first)]=S):=⟨by
   rw [hSH.h,hSnH.h,hpe.h,hN1];simp [zd7,h1]⟩
  clear hN1 hn h1;generalize (A.n:Int)=N at *;(repeat' first|simp [*,zb,c69,zan]|(apply za<;>intro _ h<;>try simp [-Nat.le_zero_eq] at h))
  refine zz [(10,13),(38,80)] (fun (i:Nat) env H2=>env 38=.pure (.int .i64 i)/\i<=part.length/\H.nx<=H2.nx/\Hide (∀ j,j < H.nx->j≠sid->j≠eid->H2.get j=H.get j)/\H2.get sid=S/\H2.get eid=.cells true (zm optF (zam A.best c (i*4)))) (fun i=>part.length - i) 0 ?_ ?_ ?_ ?_
  ·decide
  ·refine ⟨by simp,by omega,by simp,⟨fun j h1 h2 h3=>by simp [*]⟩,?_,?_⟩
   ·rw [zP (by simp [*]),hSe.h]
   ·rw [Nat.zero_mul,bzH.h];simp [*]
  ·simp only [zx];omega
 case' pos =>
  have w1:IntKind.i64.wrap ((A.n:Int)+1)=1:=by rw [h1];rfl
  have hSe:Hide (AObj.cells true [.pure pp,.pure (.int .i64 1),.row eid 4 0 part.length,.pure ((Sl.mk false c).pv Pt.cells 2)]=S):=⟨by
   rw [hSH.h,hSnH.h,hpe.h];simp [zd7,h1,zX]⟩
  have hpc:∀ H2:Heap,H2.get pid=H.get pid->FrzL H2 true zab ([.row pid 2 0 part.length]++([]:List PV).map .pure) [(Sl.mk true c).pv Pt.cells 2]:=fun H2 h=>zg1 (h.trans hp) hcH.h.1;have hpcH:=Hide.mk hpc;clear hn h1 hpc;generalize (A.n:Int)=N at *;(repeat' first|simp [*,zb,c69,zan]|(apply za<;>intro _ h<;>try simp [-Nat.le_zero_eq] at h))
  refine zbA (caps:=[]) sh70 (hpcH.h _ ?_) (cl H) (zg9 c) ?_
  ·simp [*]
  (repeat' first|simp [*,zb,zan]|(apply za<;>intro _ h<;>try simp [-Nat.le_zero_eq] at h))
  refine zz [(10,13),(38,80)] (fun (i:Nat) env H2=>env 38=.pure (.int .i64 i)/\i<=part.length/\H.nx<=H2.nx/\Hide (∀ j,j < H.nx->j≠sid->j≠eid->H2.get j=H.get j)/\H2.get sid=S/\H2.get eid=.cells true (zm optF (zam A.best c (i*4)))) (fun i=>part.length - i) 0 ?_ ?_ ?_ ?_
  ·decide
  ·refine ⟨by simp,by omega,by simp,⟨fun j h1 h2 h3=>by simp [*]⟩,?_,?_⟩
   ·rw [zP (by simp [*]),hSe.h]
   ·rw [Nat.zero_mul,bzH.h];simp [*]
  ·simp only [zx];omega
 all_goals
  clear hSe hs he hpl hlp hop hon;rintro i env H2 ⟨g38,hi,hnx,hsame,hs2,he2⟩;have hsb2:H2.get sb=.cells true [.box sid 0]:=by rw [hsame.h sb (by omega) (by omega) (by omega)];exact hsb
  have hpb2:H2.get pb=.cells true [.row pid 2 0 part.length]:=by rw [hsame.h pb (by omega) (by omega) (by omega)];exact hpb
  have hp2:H2.get pid=.cells true (zm Pt.cells c):=by rw [hsame.h pid (by omega) (by omega) (by omega)];exact hp
  by_cases hlt:i < part.length
  ·have w2:IntKind.i64.wrap ((i:Int)+1)=(i+1:Nat):=by rw [wrap64 (by omega) (by omega)];omega
   have hltI:(i:Int) < part.length:=by omega
   have hic:i < c.length:=by have:=hmH.h;omega
   have hcx:=Hide.mk (hcH.h.2 c[i] (List.getElem_mem hic));obtain ⟨x,y,hxy⟩:∃ x y,c[i]=⟨x,y⟩:=⟨c[i].x,c[i].y,rfl⟩
   have rp:=zkR (own:=true) (f:=Pt.cells) (sz:=2) (l:=c) (i:=i) (size:=2) (fun _=>rfl) hic (Nat.le_refl _);rw [hxy] at rp;simp only [Pt.cells,List.take,List.map_cons,List.map_nil] at rp;have hxyH:=Hide.mk hxy;clear hxy;have lt6:=zC he2;have hbnd:=hbT.h i;(repeat' first|simp [*,zb]|(apply za<;>intro _ h<;>try simp [-Nat.le_zero_eq] at h))
   refine zz [(12,13),(43,79)] (fun (t:Nat) env H3=>env 43=.pure (.int .i64 t)/\t<=4/\H2.nx < H3.nx/\Hide (∀ j,j < H.nx->j≠sid->j≠eid->H3.get j=H.get j)/\H3.get sid=S/\H3.get eid=.cells true (zm optF (zam A.best c (i*4+t)))/\H3.get H2.nx=.cells true [.pure (.int .i64 x),.pure (.int .i64 y)]) (fun t=>4 - t) 0 ?_ ?_ ?_ ?_
   ·decide
   ·refine ⟨by simp,by omega,by simp,⟨fun j h1 h2 h3=>?_⟩,?_,?_,?_⟩
    ·rw [zg (by omega),zf (by omega)];exact hsame.h j h1 h2 h3
    ·rw [zg (by omega),zf (by omega)];exact hs2
    ·rw [zg (by omega),zf (by omega)];exact he2
    ·rw [zP (by simp)]
   ·simp only [zx];omega
   have g38':=g38;clear g38 hsame hs2 he2 hsb2 hpb2 hp2;rintro t env H3 ⟨g43,ht,hnx3,hsame,hs3,he3,hb3⟩;have hsb3:H3.get sb=.cells true [.box sid 0]:=by rw [hsame.h sb (by omega) (by omega) (by omega)];exact hsb
   have hpb3:H3.get pb=.cells true [.row pid 2 0 part.length]:=by rw [hsame.h pb (by omega) (by omega) (by omega)];exact hpb
   have hp3:H3.get pid=.cells true (zm Pt.cells c):=by rw [hsame.h pid (by omega) (by omega) (by omega)];exact hp
   by_cases h4:t < 4
   ·have w3:IntKind.i64.wrap ((t:Int)+1)=(t+1:Nat):=by rw [wrap64 (by omega) (by omega)];omega
    have h4I:(t:Int) < 4:=by omega
    have hjb:=hbT.h i t hlt h4;have hjt:i*4+t < (zam A.best c (i*4+t)).length:=by rw [zbC];exact hjb
    have ra:=zkZ (own:=true) hjt;rw [zle] at ra;have hput:=zmH (a:=some c) hjt;have hadd:=zmZ (k:=.i64) (sz:=1) (len:=4) (n:=t) (id:=eid) (o:=i*4) h4;rw [Nat.mul_one] at hadd;have hkc:keyC (i*4+t) c=keyS ⟨x,y⟩ t:=by
     unfold keyC;rw [show (i*4+t) / 4=i by omega,show (i*4+t) % 4=t by omega,getElem!_pos c i hic,hxyH.h]
    have hst:=Hide.mk (zkU A.best c (i*4+t) hjb);have hsk:=Hide.mk (zjt A.best c (i*4+t) hjb);have hokd:=Hide.mk (hAH.h.2 _ (List.getElem_mem hjb));have hkcH:=Hide.mk hkc;have hdn:i*4+(t+1)=i*4+t+1:=rfl;have d5:eid≠H2.nx:=by omega
    have d6:H2.nx≠eid:=by omega
    have hnxe:eid < H3.nx:=by omega
    generalize hO:A.best[i*4+t]'hjb=O at *
    cases O with
    | none =>
     have hst2:Hide ((zam A.best c (i*4+t)).set (i*4+t) (some c)=zam A.best c (i*4+(t+1))):=⟨by rw [hdn];exact hst.h (by rfl)⟩
     have hb:vbin .eql .slice (.pure (zX none)) (.pure .nils)=some (.pure (.bool true)):=rfl;clear hst hsk hokd hkc hkcH hO hjt hdn;(repeat' first|simp [*,zb,zan,zcx]|(apply za<;>intro _ h<;>try simp [-Nat.le_zero_eq] at h))
     refine zbA (caps:=[]) sh70 (zg1 hp3 hcH.h.1) (cl H3) (zg9 c) ?_
     have hcc:AV.cells (.pure ((Sl.mk false c).pv Pt.cells 2))=[.pure (zX (some c))]:=rfl;have hput2:=hput;rw [hst2.h] at hput2;clear hput;(repeat' first|simp [*,zb,zan,zcx]|(apply za<;>intro _ h<;>try simp [-Nat.le_zero_eq] at h))
     refine ⟨t+1,by omega,by omega,by omega,⟨fun j h1 h2 h3=>?_⟩,rfl⟩
     rw [zg h3];exact hsame.h j h1 h2 h3
    | some d =>
     obtain ⟨hdl,hdx⟩:=hokd.h d rfl;have hid:i < d.length:=by omega
     have hdi:=hdx d[i] (List.getElem_mem hid);obtain ⟨u,v,huv⟩:∃ u v,d[i]=⟨u,v⟩:=⟨d[i].x,d[i].y,rfl⟩
     have hkd:keyC (i*4+t) d=keyS ⟨u,v⟩ t:=by
      unfold keyC;rw [show (i*4+t) / 4=i by omega,show (i*4+t) % 4=t by omega,getElem!_pos d i hid,huv]
     have hcx':=hcx.h;rw [hxyH.h] at hcx';rw [huv] at hdi;have k1:=fun H=>zh (G:=G) (n:=n+1) (H:=H) (caps:=[]) (ps:=[.agg (Pt.mk x y).cells,.int .i64 t]) sh71 (e71 n ⟨x,y⟩ t h4 hcx'.1 hcx'.2);have k2:=fun H=>zh (G:=G) (n:=n+1) (H:=H) (caps:=[]) (ps:=[.agg (Pt.mk u v).cells,.int .i64 t]) sh71 (e71 n ⟨u,v⟩ t h4 hdi.1 hdi.2);have had:zcn 2 (.pure (zX (some d))) (.pure (.int .i64 i))=some (.val (.pure (.ptr false [.int .i64 u,.int .i64 v] 0))):=by
      have:=zju (k:=.i64) (f:=Pt.cells) (sz:=2) (s:=Sl.mk false d) (n:=i) (by simpa using hid)
      simpa [huv,zX,Sl.hot] using this
     have hb:vbin .eql .slice (.pure (zX (some d))) (.pure .nils)=some (.pure (.bool false)):=zey rfl;simp only [Pt.cells,List.map_cons,List.map_nil] at k1 k2;have hbet:Hide (zbq (keyC (i*4+t)) (some d) c=if keyS ⟨x,y⟩ t < keyS ⟨u,v⟩ t then some c else some d):=⟨by unfold zbq;simp only [hkd,hkcH.h]⟩
     generalize keyS ⟨x,y⟩ t=K1 at *;generalize keyS ⟨u,v⟩ t=K2 at *;clear hkc hkcH hO hjt hdn hokd hdx hdl hdi hcx' hkd huv
     by_cases hK:K1 < K2
     ·have hst2:Hide ((zam A.best c (i*4+t)).set (i*4+t) (some c)=zam A.best c (i*4+(t+1))):=⟨hst.h (by rw [hbet.h,if_pos hK])⟩
      clear hst hsk hbet;(repeat' first|simp [*,zb,zan,zcx]|(apply za<;>intro _ h<;>try simp [-Nat.le_zero_eq] at h))
      refine zbA (caps:=[]) sh70 (zg1 hp3 hcH.h.1) (cl H3) (zg9 c) ?_
      have hcc:AV.cells (.pure ((Sl.mk false c).pv Pt.cells 2))=[.pure (zX (some c))]:=rfl;have hput2:=hput;rw [hst2.h] at hput2;clear hput;(repeat' first|simp [*,zb,zan,zcx]|(apply za<;>intro _ h<;>try simp [-Nat.le_zero_eq] at h))
      refine ⟨t+1,by omega,by omega,by omega,⟨fun j h1 h2 h3=>?_⟩,rfl⟩
      rw [zg h3];exact hsame.h j h1 h2 h3
     ·have hsk2:Hide (zam A.best c (i*4+(t+1))=zam A.best c (i*4+t)):=⟨hsk.h (by rw [hbet.h,if_neg hK])⟩
      clear hst hsk hbet hput;(repeat' first|simp [*,zb,zan,zcx]|(apply za<;>intro _ h<;>try simp [-Nat.le_zero_eq] at h));exact ⟨t+1,by omega,by omega,by omega,by rw [hsk2.h]⟩
   ·have ht4:t=4:=by omega
    subst ht4;rw [show i*4+4=(i+1)*4 by omega] at he3;(repeat' first|simp [*,zb]|(apply za<;>intro _ h<;>try simp [-Nat.le_zero_eq] at h));exact ⟨i+1,by omega,by omega,by omega,by omega,rfl⟩
  ·have hil:i=part.length:=by omega
   subst hil;have hk2:=hkH.h H2 hnx hsame.h (by rw [hs2,hSH.h]) (by rw [he2,zgq _ _ _ (by have:=hAH.h.1;omega)];rfl);clear hkH hsame;(repeat' first|simp [*,zb]|(apply za<;>intro _ h<;>try simp [-Nat.le_zero_eq] at h))
theorem sh72:G.shared 72=false:=by decide
theorem e72 (n:Nat) (b:Box):zI G (n+1) 72 [.agg b.cells]=some (.func 89 [.ptr false b.cells 0]):=by
 refine zA (zB _) rfl g72 rfl ?_
 (repeat' first|simp [*,zb,c72,Box.cells,Span.cells]|(apply za<;>intro _ h<;>try simp [-Nat.le_zero_eq] at h))
theorem zh6:G.shared 69=true:=by decide
structure ChI where
 sid:Nat
 eid:Nat
 sb:Nat
 pid:Nat
 pb:Nat
 hid:Nat
 hb:Nat
 mid:Nat
 mb:Nat
 cb:Nat
def zeR (I:ChI) (p:Problem) (l:Sl Box) (part:List Nat):List AV:=[.pure (.ptr false [zac part] 0),.box I.sb 0,.box I.pb 0,.pure (.ptr false [l.pv Box.cells 4] 0),.box I.hb 0,.pure (.ptr false p.cells 0),.box I.mb 0,.box I.cb 0]
structure ChFix (I:ChI) (p:Problem) (l:Sl Box) (part:List Nat) (ml:List (List Int)) (H:Heap):Prop where
 ord:I.eid < I.sid/\I.sid < I.sb/\I.sb < I.hid/\I.hid < I.hb/\I.hb < I.mb/\I.mb < I.mid/\I.mid < I.pid/\I.pid < I.pb/\I.pb < I.cb
 sb:H.get I.sb=.cells true [.box I.sid 0]
 pb:H.get I.pb=.cells true [.row I.pid 2 0 part.length]
 hb:H.get I.hb=.cells true [.row I.hid 4 0 l.xs.length]
 mb:H.get I.mb=.cells true [.row I.mid 1 0 part.length]
 mid:∃ xs:List AV,H.get I.mid=.cells true xs/\xs.length=part.length/\∀ k (h:k < xs.length),OwnV intF 1 H xs[k] ml[k]! /\ ∀ id,Names xs[k] id->I.mb < id/\id < I.pid
 cb:H.get I.cb=.cells true [.func 69 (zeR I p l part)]
structure Keep4 (I:ChI) (H H':Heap):Prop where
 nx:H.nx<=H'.nx
 get:∀ j,j < H.nx->j≠I.sid->j≠I.eid->j≠I.pid->j≠I.hid->H'.get j=H.get j
theorem Keep4.refl (I:ChI) (H:Heap):Keep4 I H H:=⟨Nat.le_refl _,fun _ _ _ _ _ _=>rfl⟩
theorem Keep4.trans {I:ChI} {H H1 H2:Heap} (h:Keep4 I H H1) (h':Keep4 I H1 H2):Keep4 I H H2 :=
 ⟨Nat.le_trans h.nx h'.nx,fun j a b c d e=>(h'.get j (by have:=h.nx;omega) b c d e).trans (h.get j a b c d e)⟩
section
variable {I:ChI} {p:Problem} {l:Sl Box} {part:List Nat} {ml:List (List Int)} {H H':Heap}
theorem ChFix.lt (h:ChFix I p l part ml H):I.cb < H.nx:=zC h.cb
theorem ChFix.keep (h:ChFix I p l part ml H) (k:Keep4 I H H'):ChFix I p l part ml H':=by
 have hlt:=h.lt;have o:=h.ord;have g:∀ j,j < H.nx->j≠I.sid->j≠I.eid->j≠I.pid->j≠I.hid->H'.get j=H.get j:=k.get
 refine ⟨o,?_,?_,?_,?_,?_,?_⟩
 ·rw [g _ (by omega) (by omega) (by omega) (by omega) (by omega)];exact h.sb
 ·rw [g _ (by omega) (by omega) (by omega) (by omega) (by omega)];exact h.pb
 ·rw [g _ (by omega) (by omega) (by omega) (by omega) (by omega)];exact h.hb
 ·rw [g _ (by omega) (by omega) (by omega) (by omega) (by omega)];exact h.mb
 ·obtain ⟨xs,h1,h2,h3⟩:=h.mid
  refine ⟨xs,?_,h2,fun k hk=>?_⟩
  ·rw [g _ (by omega) (by omega) (by omega) (by omega) (by omega)];exact h1
  ·obtain ⟨a,b⟩:=h3 k hk
   refine ⟨a.keep fun id ⟨m,hm⟩=>?_,b⟩
   have:=b id ⟨_,_,_,hm⟩;exact g _ (by omega) (by omega) (by omega) (by omega) (by omega)
 ·rw [g _ (by omega) (by omega) (by omega) (by omega) (by omega)];exact h.cb
end
structure ChSt (I:ChI) (part:List Nat) (A:Acc) (pts:List Pt) (here:List Box) (H:Heap):Prop where
 s:H.get I.sid=.cells true (zd7 part I.eid A)
 e:H.get I.eid=.cells true (zm optF A.best)
 p:H.get I.pid=.cells true (zm Pt.cells pts)
 h:H.get I.hid=.cells true (zm Box.cells here)
 best:okB part.length A.best
 pts:okC part.length pts
structure ChP (p:Problem) (l:Sl Box) (part:List Nat) (ml:List (List Int)):Prop where
 ok:CheckOk p
 sub:SubL l.xs p.boxes.xs
 wf:Wf l.xs
 nodup:part.Nodup
 lt:∀ i∈part,i < l.xs.length
 pos:0 < part.length
 few:part.length<=12
 ml:∀ k,k < part.length->okIs p.facts.xs ml[k]! /\ (ml[k]!).length<=60/\∀ here,(badI p.facts.xs here ml[k]! < 0↔okK p.facts.xs part k here=true)
theorem zpK {p:Problem} {l:Sl Box} {part:List Nat} {ml:List (List Int)} (h:ChP p l part ml) {i:Nat} (hi:i < l.xs.length) {x:Pt} (hx:x∈zao l.xs[i]):okP x:=by
 have hv:=valid_iff.1 (zb0 h.ok h.sub h.wf _ (List.getElem_mem hi));have:=mem_places.1 hx;unfold inB' at this;unfold okP;omega
theorem zmo {n:Nat} {b:Box} (hb:zaz b=true) {env:Env} {H:Heap} {f:Opnd} {params:List Nat} {assign body:VCode} {Q:VExit->Env->Heap->Prop} {u} (hf:f.eval env=.pure (.func 89 [.ptr false b.cells 0])) (hp:params.length=1)
  (J:Nat->Nat->Heap->Prop)
  (hstab:∀ i k H1 H2,J i k H1->H.nx < H1.nx->H2.nx=H1.nx->(∀ j,j≠H.nx->H2.get j=H1.get j)->J i k H2)
  (h0:∀ H1,H1.nx=H.nx+1->(∀ j,j < H.nx->H1.get j=H.get j)->J 0 0 H1)
  (hrow:∀ i H1,J i (b.y.hi - b.y.lo+1).toNat H1->J (i+1) 0 H1)
  (hbody:∀ i k H1,i < (b.x.hi - b.x.lo+1).toNat->k < (b.y.hi - b.y.lo+1).toNat->J i k H1->H.nx < H1.nx ->
   wp (zq G n) assign ((params.zip [.pure (.agg [.int .i64 (b.x.lo+i),.int .i64 (b.y.lo+k)])]).foldl (fun e x=>upd e x.1 x.2) env) H1 (fun x env2 H2=>x=.normal/\H1.nx<=H2.nx/\(∀ j,j < H1.nx->H2.get j=H1.get j) /\
    ∀ Hb,Hb.nx=H2.nx->(∀ j,j≠H.nx->Hb.get j=H2.get j) ->
     wp (zq G n) body env2 Hb (fun x _ H3=>x=.normal/\H3.get H.nx=Hb.get H.nx/\Hb.nx<=H3.nx/\J i (k+1) H3) .mk) .mk)
  (hend:∀ H',J (b.x.hi - b.x.lo+1).toNat 0 H'->Q .normal env H') :
  wp (zq G (n+2)) (.rangeFunc f params assign body) env H Q u:=by
 refine ziC hf ?_
 obtain ⟨v,H2,h1,h2,h3⟩:=zi9 n b hb (H.alloc (.loop { env,params,assign,body,state:=.ready,pending:=.normal })) H.nx { env,params,assign,body,state:=.ready,pending:=.normal } rfl rfl hp (zaf _) (fun i k H1=>H.nx < H1.nx/\J i k H1)
  ⟨by simp,h0 _ (by simp) fun j hj=>zf hj⟩ (fun i H1 h=>⟨h.1,hrow i H1 h.2⟩)
  (fun i k H1 hi hk hJ hgl=>by
   refine (hbody i k H1 hi hk hJ.2 hJ.1).mono ?_
   rintro x env2 H2 ⟨rfl,hx2,hs2,hw⟩;have hgl2:H2.get H.nx=_:=(hs2 _ hJ.1).trans hgl
   refine ⟨rfl,hgl2,?_⟩
   have hid:=zb1 (H:=H2) (i:=H.nx) (by rw [hgl2];simp)
   refine (hw (H2.set H.nx (.loop { env,params,assign,body,state:=.busy,pending:=.normal })) rfl (fun j hj=>zg hj)).mono ?_
   rintro x env3 H3 ⟨rfl,g1,g3,g4⟩;have hlt:H.nx < H3.nx:=by simp at g3;omega
   exact ⟨rfl,by rw [g1,zP hid],by simpa using hlt,hstab _ _ _ _ g4 hlt (by simp) fun j hj=>zg hj⟩)
 exact ⟨v,H2,h1,h2,hend _ (hstab _ _ _ _ h3.2 h3.1 (by simp) fun j hj=>zg hj)⟩
def zm5 (I:ChI) (p:Problem) (l:Sl Box) (part:List Nat) (kk:Nat) (A:Acc) (pts:List Pt) (here:List Box) (H H':Heap):Prop :=
 Keep4 I H H'/\∃ pts',ChSt I part (((zbw (okK p.facts.xs part) l.xs (part.drop kk) kk here).map (pts.take kk ++ ·)).foldl zcm A) pts' here H'/\pts'.take kk=pts.take kk
theorem zjy {I:ChI} {p:Problem} {l:Sl Box} {part:List Nat} {ml:List (List Int)} (hp:ChP p l part ml) :
  ∀ (d n kk:Nat) (H:Heap) (A:Acc) (pts:List Pt) (here:List Box),kk+d=part.length->ChFix I p l part ml H->ChSt I part A pts here H->SubL here l.xs->Wf here ->
   (∀ j (h:j < part.length),kk<=j->here[part[j]]! = l.xs[part[j]]!)->A.n+(zbw (okK p.facts.xs part) l.xs (part.drop kk) kk here).length<=4000000000000000000 ->
   ∃ H',Vm.call G (n+8+3*d) (.fn 69) ([.pure (.int .i64 kk)]++zeR I p l part) H=some (.tup [],H')/\zm5 I p l part kk A pts here H H':=by
 intro d
 induction d with
 | zero =>
  intro n kk H A pts here hkk fx st hs hw hl hn;have ek:kk=part.length:=by omega
  subst ek;rw [List.drop_length] at hn;simp only [zbw,List.length_cons,List.length_nil] at hn;have o:=fx.ord;have key:=zji (n:=n+6) (H:=H) (eid:=I.eid) (sid:=I.sid) (sb:=I.sb) (pid:=I.pid) (pb:=I.pb) (c1:=.pure (.ptr false [l.pv Box.cells 4] 0)) (c2:=.box I.hb 0) (c3:=.pure (.ptr false p.cells 0)) (c4:=.box I.mb 0) (c5:=.box I.cb 0) (part:=part) (A:=A) (c:=pts)
   (k:=fun v H'=>v=.tup []/\zm5 I p l part part.length A pts here H H') ⟨by omega,by omega,by omega,by omega⟩ hp.pos hp.few st.pts st.best (by omega) fx.sb fx.pb st.s st.e st.p ?_
  ·obtain ⟨v,H',h1,rfl,h2⟩:=key;exact ⟨H',h1,h2⟩
  ·intro H' h1 h2 h3 h4;have hlt:=fx.lt
   refine ⟨rfl,⟨h1,fun j a b c _ _=>h2 j a b c⟩,pts,?_,rfl⟩
   have e1:pts.take part.length=pts:=List.take_of_length_le (by rw [st.pts.1];exact Nat.le_refl _);rw [List.drop_length];simp only [zbw,List.map_cons,List.map_nil,List.append_nil,e1,List.foldl_cons,List.foldl_nil];have hpx:I.pid < H.nx:=by omega
   have hhx:I.hid < H.nx:=by omega
   refine ⟨h3,h4,?_,?_,?_,st.pts⟩
   ·rw [h2 _ hpx (by omega) (by omega)];exact st.p
   ·rw [h2 _ hhx (by omega) (by omega)];exact st.h
   ·have:=zpL st.best st.pts (A.best.length);rwa [zgq _ _ _ (Nat.le_refl _)] at this
 | succ d ih =>
  intro n kk H A pts here hkk fx st hs hw hl hn;have hk:kk < part.length:=by omega
  have fu:n+8+3*(d+1)=n+8+3*d+2+1:=by omega
  rw [fu];obtain ⟨F,hF⟩:∃ F,F=n+8+3*d:=⟨_,rfl⟩
  have hF6:∃ F6,F=F6+6:=⟨n+2+3*d,by omega⟩
  have main:∃ v H',Vm.call G (F+2+1) (.fn 69) ([.pure (.int .i64 kk)]++zeR I p l part) H=some (v,H')/\(v=.tup []/\zm5 I p l part kk A pts here H H'):=by
   refine zbg rfl g69 rfl ?_
   have hpk:zcn 1 (.pure (zac part)) (.pure (.int .i64 kk))=some (.val (.pure (.ptr false [.int .i64 (part[kk]:Nat)] 0))):=zeJ (by simp [hk]);have hlp:zdc (.pure (zac part))=some (.val (.pure (.int .i64 part.length))):=by simp [zac]
   have hne:¬ (kk:Int)=part.length:=by omega
   obtain ⟨q,hq⟩:∃ q,q=part[kk]:=⟨_,rfl⟩
   have hqN:q < l.xs.length:=by rw [hq];exact hp.lt _ (List.getElem_mem hk)
   rw [<- hq] at hpk;have hqI:(q:Int) < l.xs.length:=by omega
   have hpv:=sh72;have hB:=fun H=>zh (G:=G) (n:=F+2) (H:=H) (caps:=[]) (ps:=[.agg l.xs[q].cells]) sh72 (e72 (F+1) l.xs[q]);simp only [Box.cells,Span.cells,List.map_cons,List.map_nil] at hB;have hrest:part.drop kk=q::part.drop (kk+1):=by rw [List.drop_eq_getElem_cons hk,hq]
   rw [hrest] at hn;have hhq:here[q]! = l.xs[q]:=by
    have:=hl kk hk (Nat.le_refl _);rw [<- hq] at this;rw [this,getElem!_pos l.xs q hqN]
   have hlen:here.length=l.xs.length:=hs.1;have hqh:q < here.length:=by omega
   have hset:here.set q l.xs[q]=here:=by
    rw [<- hhq,getElem!_pos here q hqh];exact List.set_getElem_self ..
   have hlt:=fx.lt;have o:=fx.ord;obtain ⟨hN,hhN⟩:∃ hN,hN=(l.xs[q].y.hi - l.xs[q].y.lo+1).toNat:=⟨_,rfl⟩
   obtain ⟨wN,hwN⟩:∃ wN,wN=(l.xs[q].x.hi - l.xs[q].x.lo+1).toNat:=⟨_,rfl⟩
   have hpl:(zao l.xs[q]!).length=wN*hN:=by rw [getElem!_pos l.xs q hqN,zen,<- hhN,<- hwN]
   obtain ⟨E,hE⟩:∃ E:Nat->Acc,E=fun t=>((zdb (okK p.facts.xs part) l.xs q (part.drop (kk+1)) kk here t).map (pts.take kk ++ ·)).foldl zcm A:=⟨_,rfl⟩
   have hE0:E 0=A:=by rw [hE];simp [zjG]
   have hEw:Hide (E (wN*hN)=((zbw (okK p.facts.xs part) l.xs (part.drop kk) kk here).map (pts.take kk ++ ·)).foldl zcm A):=⟨by
    rw [hE,hrest];simp only;rw [zk9 _ _ _ _ _ _ (by rw [hpl];exact Nat.le_refl _)]⟩
   have hEn:Hide (∀ t X,(zao l.xs[q]!)[t]?=some X->E (t+1)=if okK p.facts.xs part kk (here.set q (atB X))=true then ((zbw (okK p.facts.xs part) l.xs (part.drop (kk+1)) (kk+1) (here.set q (atB X))).map ((pts.take kk++[X]) ++ ·)).foldl zcm (E t) else E t):=⟨fun t X hX=>by
    rw [hE];simp only;rw [zfV _ _ _ _ _ _ hX]
    by_cases hc:okK p.facts.xs part kk (here.set q (atB X))=true
    ·rw [if_pos hc,if_pos hc,List.map_append,List.foldl_append,List.map_map]
     congr 2
     funext c
     simp
    ·rw [if_neg hc,if_neg hc];simp⟩
   have hEc:Hide (∀ t X,(zao l.xs[q]!)[t]?=some X->okK p.facts.xs part kk (here.set q (atB X))=true->(E t).n+(zbw (okK p.facts.xs part) l.xs (part.drop (kk+1)) (kk+1) (here.set q (atB X))).length<=4000000000000000000):=⟨fun t X hX hc=>by
    have h1:=zfV (okK p.facts.xs part) l.xs q (part.drop (kk+1)) kk here hX;have h2:=zmt (okK p.facts.xs part) l.xs q (part.drop (kk+1)) kk here (t+1);rw [h1,if_pos hc,List.length_append,List.length_map] at h2;rw [hE];simp only;rw [zp7,List.length_map];omega⟩
   have hEH:=Hide.mk hE;have hnH:=Hide.mk hn;have hlH:=Hide.mk hl;have hhNH:=Hide.mk hhN;have hwNH:=Hide.mk hwN;have hqH:=Hide.mk hq;have hrestH:=Hide.mk hrest;have ihH:=Hide.mk ih;have hFH:=Hide.mk hF;clear hE hn hl hq hrest ih hF;(repeat' first|simp [*,zb,c69,zeR]|(apply za<;>intro _ h<;>try simp [-Nat.le_zero_eq] at h))
   refine zmo (n:=F) (b:=l.xs[q]) (zb0 hp.ok hp.sub hp.wf _ (List.getElem_mem hqN)) ?_ rfl
    (fun i k H1=>Keep4 I H H1/\∃ y pts',ChSt I part (E (i*hN+k)) pts' (here.set q y) H1/\pts'.take kk=pts.take kk) ?_ ?_ ?_ ?_ ?_
   ·simp
   ·rintro i k H1 H2 ⟨a1,y,pts',a2,a3⟩ hx hnx hg
    refine ⟨⟨by rw [hnx];exact a1.nx,fun j h1 h2 h3 h4 h5=>by rw [hg j (by omega)];exact a1.get j h1 h2 h3 h4 h5⟩,y,pts',⟨?_,?_,?_,?_,a2.best,a2.pts⟩,a3⟩
    ·rw [hg _ (by omega)];exact a2.s
    ·rw [hg _ (by omega)];exact a2.e
    ·rw [hg _ (by omega)];exact a2.p
    ·rw [hg _ (by omega)];exact a2.h
   ·intro H1 hnx hg
    refine ⟨⟨by omega,fun j h1 _ _ _ _=>hg j h1⟩,l.xs[q],pts,?_,rfl⟩
    rw [hset,Nat.zero_mul,Nat.zero_add,hE0]
    refine ⟨?_,?_,?_,?_,st.best,st.pts⟩
    ·rw [hg _ (by omega)];exact st.s
    ·rw [hg _ (by omega)];exact st.e
    ·rw [hg _ (by omega)];exact st.p
    ·rw [hg _ (by omega)];exact st.h
   ·intro i H1 h;rw [<- hhN] at h;rwa [show (i+1)*hN+0=i*hN+hN by rw [Nat.add_mul];omega]
   ·rw [<- hhN,<- hwN];rintro i k H1 hi hkk' ⟨kp,y,pts',st1,hpt⟩ hx;obtain ⟨hT,hXe⟩:=zkm (b:=l.xs[q]) (i:=i) (k:=k) (by rw [<- hwN];exact hi) (by rw [<- hhN];exact hkk');have hTx:(zao l.xs[q]!)[i*hN+k]?=some ⟨l.xs[q].x.lo+i,l.xs[q].y.lo+k⟩:=by
     rw [getElem!_pos l.xs q hqN,hhN,List.getElem?_eq_getElem hT,hXe]
    have hXp:inB' ⟨l.xs[q].x.lo+i,l.xs[q].y.lo+k⟩ l.xs[q]:=mem_places.1 (by rw [<- hXe];exact List.getElem_mem _);have hXo:okP ⟨l.xs[q].x.lo+i,l.xs[q].y.lo+k⟩:=zpK hp hqN (mem_places.2 hXp);obtain ⟨u,hu⟩:∃ u,u=l.xs[q].x.lo+(i:Int):=⟨_,rfl⟩
    obtain ⟨v,hv⟩:∃ v,v=l.xs[q].y.lo+(k:Int):=⟨_,rfl⟩
    rw [<- hu,<- hv] at hTx hXp hXo ⊢;obtain ⟨t,ht⟩:∃ t,t=i*hN+k:=⟨_,rfl⟩
    have ht1:i*hN+(k+1)=t+1:=by omega
    rw [ht1];rw [<- ht] at st1 hTx;have hEt:=Hide.mk (hEn.h t _ hTx);have hEc:=Hide.mk (hEc.h t _ hTx);clear hT hXe hTx hu hv ht ht1 hEn;have hpl1:=st1.p;have hlh1:=st1.h;have hst1:=Hide.mk st1;have hkp:=Hide.mk kp;have hptH:=Hide.mk hpt;clear st1 hpt hpl hE0;(repeat' first|simp [*,zb]|(apply za<;>intro _ h<;>try simp [-Nat.le_zero_eq] at h))
    refine ⟨fun j hj=>(zg (show j≠H1.nx by omega)).trans (zf hj),?_⟩
    intro Hb hbn hbg;have hgo:∀ j,j < H.nx->Hb.get j=H1.get j:=fun j hj=>by rw [hbg j (by omega),zg (by omega),zf (by omega)]
    have hnew:Hb.get H1.nx=.cells true [.pure (.int .i64 u),.pure (.int .i64 v)]:=by rw [hbg _ (by omega),zP (by simp)]
    have hbn':Hb.nx=H1.nx+1:=by simpa using hbn
    have hkx:H.nx<=H1.nx:=hkp.h.nx;have kpb:Keep4 I H Hb:=⟨by omega,fun j a b c e f=>by rw [hgo j a];exact hkp.h.get j a b c e f⟩
    have fxb:=fx.keep kpb;have hb1:=fxb.hb;have pb1:=fxb.pb;have mb1:=fxb.mb;have cb1:=fxb.cb;obtain ⟨xs,hxs,hxl,hxo⟩:=fxb.mid;have hkxs:kk < xs.length:=by omega
    have hxo1:=hxo kk hkxs;have hh1:Hb.get I.hid=.cells true (zm Box.cells (here.set q y)):=by rw [hgo _ (by omega)];exact hlh1
    have hp1:Hb.get I.pid=.cells true (zm Pt.cells pts'):=by rw [hgo _ (by omega)];exact hpl1
    have hsl:q < (here.set q y).length:=by simpa using hqh
    have hss:(here.set q y).set q (atB ⟨u,v⟩)=here.set q (atB ⟨u,v⟩):=by rw [List.set_set]
    have hput:=zbm (f:=Box.cells) (sz:=4) (a:=atB ⟨u,v⟩) (fun _=>rfl) (fun _=>rfl) (by decide) hsl;rw [hss] at hput;have hptl:kk < pts'.length:=by rw [hst1.h.pts.1];exact hk
    have hput2:=zbm (f:=Pt.cells) (sz:=2) (a:=(⟨u,v⟩:Pt)) (fun _=>rfl) (fun _=>rfl) (by decide) hptl;simp only [Box.cells,Span.cells,Pt.cells,atB,List.map_cons,List.map_nil] at hput hput2;have hat:=fun H=>zh (G:=G) (n:=F) (H:=H) (caps:=[]) (ps:=[.agg (Pt.mk u v).cells]) sh52 (by
     obtain ⟨F6,rfl⟩:=hF6;exact e52 (F6+5) ⟨u,v⟩)
    simp only [Box.cells,Span.cells,Pt.cells,atB,List.map_cons,List.map_nil] at hat;have hlx:zck (.cells true xs) 1 kk=some [xs[kk]]:=by
     simp only [zck];rw [if_pos (by omega),List.drop_eq_getElem_cons hkxs];rfl
    have q1:I.pb≠I.hid:=by omega
    have q2:H1.nx≠I.hid:=by omega
    have q3:I.hb≠I.hid:=by omega
    have q4:I.hb≠I.pid:=by omega
    have q5:I.mb≠I.hid:=by omega
    have q6:I.mb≠I.pid:=by omega
    have q7:I.mid≠I.hid:=by omega
    have q8:I.mid≠I.pid:=by omega
    have q9:I.pid≠I.hid:=by omega
    have q10:I.cb≠I.hid:=by omega
    have q11:I.cb≠I.pid:=by omega
    have q12:I.hid≠I.pid:=by omega
    have r1:I.hid < Hb.nx:=by omega
    have r2:I.pid < Hb.nx:=by omega
    have hkI:(kk:Int) < part.length:=by omega
    have hxoH:=Hide.mk hxo1;have hbgH:=Hide.mk hbg;have hgoH:=Hide.mk hgo;clear hxo hxo1 hbg hgo hsl hss;(repeat' first|simp [*,zb,beside]|(apply za<;>intro _ h<;>try simp [-Nat.le_zero_eq] at h));obtain ⟨here1,hh1e⟩:∃ h1,h1=here.set q (atB ⟨u,v⟩):=⟨_,rfl⟩
    obtain ⟨pts1,hp1e⟩:∃ p1,p1=pts'.set kk ⟨u,v⟩:=⟨_,rfl⟩
    have hh1e':here.set q ⟨⟨u,u⟩,⟨v,v⟩⟩=here1:=hh1e.symm;rw [hh1e',<- hp1e];obtain ⟨Hc,hHc⟩:∃ Hc,Hc=(Hb.set I.hid (.cells true (zm Box.cells here1))).set I.pid (.cells true (zm Pt.cells pts1)):=⟨_,rfl⟩
    rw [<- hHc];have hcn:Hc.nx=Hb.nx:=by rw [hHc];simp
    have hcg:∀ j,j≠I.hid->j≠I.pid->Hc.get j=Hb.get j:=fun j h1 h2=>by rw [hHc,zg h2,zg h1]
    have hch:Hc.get I.hid=.cells true (zm Box.cells here1):=by rw [hHc,zg (by omega),zP (by omega)]
    have hcp:Hc.get I.pid=.cells true (zm Pt.cells pts1):=by rw [hHc,zP (by simpa using r2)]
    have kpc:Keep4 I H Hc:=⟨by omega,fun j a b c e f=>by rw [hcg j f e];exact kpb.get j a b c e f⟩
    have fxc:=fx.keep kpc;obtain ⟨xs',hxs',hxl',hxo'⟩:=fxc.mid;have exs:xs'=xs:=by
     rw [hcg _ (by omega) (by omega),hxs] at hxs'
     simpa using hxs'.symm
    subst exs;have hox:=(hxo' kk hkxs).1;have hs1:SubL here1 l.xs:=by
     have:=hs.set (i:=q) (a:=atB ⟨u,v⟩) (b:=l.xs[q]) (by
      unfold inB' at hXp;simp only at hXp;exact ⟨⟨hXp.1,hXp.2.1⟩,⟨hXp.2.2.1,hXp.2.2.2⟩⟩)
     rw [List.set_getElem_self] at this;rw [hh1e];exact this
    have hw1:Wf here1:=by
     rw [hh1e];exact hw.set ⟨Int.le_refl _,Int.le_refl _⟩
    have hs1p:SubL here1 p.boxes.xs:=hs1.trans hp.sub;obtain ⟨is,his,hfi⟩:=zkC (n:=10) (f:=intF) (sz:=1) (fun _=>rfl) hox;have hl1:here1.length=l.xs.length:=hs1.1;obtain ⟨s1,hs1x,hf1⟩:=zeB (n:=10) (f:=Box.cells) (sz:=4) (fun _=>rfl) hch hl1;obtain ⟨m1,m2,m3⟩:=hp.ml kk hk;have hbad:zI G F 47 [p.facts.pv Fact.cells 9,is.pv intF 1,s1.pv Box.cells 4]=some (.int .i64 (badI p.facts.xs here1 ml[kk]!)):=by
     obtain ⟨F6,rfl⟩:=hF6;have:=e47 F6 p.facts is s1 (by rw [his];exact m1) (by rw [his];omega) (fun f hf=>by rw [hs1x];exact ziY hp.ok hs1p hw1 hf);rw [his,hs1x] at this;exact this
    refine zbA (caps:=[]) (ps:=[_,_,_]) sh47 (.cons (.pure _) (.cons hfi (.cons hf1 .nil))) hbad rfl ?_
    have hbadiff:=m3 here1;have hpts1:okC part.length pts1:=by
     rw [hp1e]
     refine ⟨by rw [List.length_set];exact hst1.h.pts.1,fun x hx=>?_⟩
     rcases List.mem_or_eq_of_mem_set hx with h|rfl
     ·exact hst1.h.pts.2 x h
     ·exact hXo
    have htk:pts1.take kk=pts.take kk:=by
     rw [hp1e,List.take_set_of_le (Nat.le_refl _)];exact hptH.h
    have htk1:pts1.take (kk+1)=pts.take kk++[⟨u,v⟩]:=by
     rw [<- htk,List.take_add_one,hp1e];simp [hptl]
    have stc:ChSt I part (E t) pts1 here1 Hc:=⟨by
      rw [hcg _ (by omega) (by omega),hgoH.h _ (by omega)];exact hst1.h.s,by
      rw [hcg _ (by omega) (by omega),hgoH.h _ (by omega)];exact hst1.h.e,hcp,hch,hst1.h.best,hpts1⟩
    have hEt2:=hEt.h;have hEc2:=hEc.h;rw [<- hh1e] at hEt2 hEc2;have hcbc:=fxc.cb;have hstcH:=Hide.mk stc;have hfxc:=Hide.mk fxc;have hkpc:=Hide.mk kpc;have hEtH:=Hide.mk hEt2;have hEcH:=Hide.mk hEc2;have hidc:Hc.get H.nx=Hb.get H.nx:=hcg _ (by omega) (by omega);have hidH:=Hide.mk hidc;have hcnH:=Hide.mk hcn;have hh1eH:=Hide.mk hh1e;have htkH:=Hide.mk htk;have htk1H:=Hide.mk htk1;have hqH2:=Hide.mk hs1;have hwH2:=Hide.mk hw1;clear stc fxc kpc hEt2 hEc2 hEt hEc hidc hcn hcg hch hcp hxs' hxo' hox hs1p hs1 hw1 hfi hf1 hbad m1 m2 m3 hHc hh1 hp1 hput hput2 hlx hxs htk htk1 hpts1 hh1e hp1e hat hnew hb1 pb1 mb1 cb1 fxb kpb
    by_cases hok:okK p.facts.xs part kk here1=true
    ·have hneg:=hbadiff.2 hok;have hEc3:=Hide.mk (hEcH.h hok);have hEt3:Hide (E (t+1)=((zbw (okK p.facts.xs part) l.xs (part.drop (kk+1)) (kk+1) here1).map ((pts.take kk++[⟨u,v⟩]) ++ ·)).foldl zcm (E t)):=⟨by rw [hEtH.h,if_pos hok]⟩
     clear hbadiff;generalize badI p.facts.xs here1 ml[kk]! = B at *;have w1:IntKind.i64.wrap ((kk:Int)+1)=(kk+1:Nat):=by rw [wrap64 (by have:=hp.few;omega) (by have:=hp.few;omega)];omega
     have hFx:=hFH.h;have hl2:∀ j (h:j < part.length),kk+1<=j->here1[part[j]]! = l.xs[part[j]]! := fun j h hj=>by
      have h1:=hlH.h j h (by omega);have hq2:=hqH.h;have hnq:q≠part[j]:=by
       rw [hq2];intro e;have:=(List.getElem_inj hp.nodup).1 e;omega
      rw [<- h1,hh1eH.h];simp [List.getElem?_set,hnq]
     obtain ⟨H',r1,r2,pts2,r3,r4⟩:=ihH.h n (kk+1) Hc (E t) pts1 here1 (by omega) hfxc.h hstcH.h hqH2.h hwH2.h hl2 hEc3.h;rw [<- hFx] at r1;have hl2H:=Hide.mk hl2;have hFxH:=Hide.mk hFx;clear hl2 hFx;(repeat' first|simp [*,zb,zeR]|(apply za<;>intro _ h<;>try simp [-Nat.le_zero_eq] at h));obtain ⟨F1,rfl⟩:∃ F1,F=F1+1:=⟨n+7+3*d,by have:=hFxH.h;omega⟩
     refine zfc (n:=F1) zh6 ⟨.tup [],H',by simpa [zeR] using r1,?_⟩
     have hnx2:=r2.nx;have hid2:H'.get H.nx=Hb.get H.nx:=(r2.get _ (by have:=hcnH.h;omega) (by omega) (by omega) (by omega) (by omega)).trans hidH.h;have kpf:=Hide.mk (hkpc.h.trans r2);rw [htk1H.h] at r4;have htf:pts2.take kk=pts.take kk:=by
      have h2:=congrArg (List.take kk) r4;rw [List.take_take,Nat.min_eq_left (by omega)] at h2;rw [h2,List.take_append_of_le_length (by rw [List.length_take];have:=st.pts.1;omega),List.take_take,Nat.min_self]
     have hstf:ChSt I part (E (t+1)) pts2 (here.set q (atB ⟨u,v⟩)) H':=by
      rw [hEt3.h,<- hh1eH.h];rw [htk1H.h] at r3;exact r3
     have hstfH:=Hide.mk hstf;have htfH:=Hide.mk htf;have hcx:=hcnH.h;clear r1 r2 r3 r4 hstf htf;(repeat' first|simp [*,zb]|(apply za<;>intro _ h<;>try simp [-Nat.le_zero_eq] at h));exact ⟨by omega,kpf.h,_,pts2,hstfH.h,htfH.h⟩
    ·have hneg:¬ badI p.facts.xs here1 ml[kk]! < 0:=fun h=>hok (hbadiff.1 h);have hEt3:Hide (E (t+1)=E t):=⟨by rw [hEtH.h,if_neg hok]⟩
     clear hbadiff;generalize badI p.facts.xs here1 ml[kk]! = B at *;(repeat' first|simp [*,zb]|(apply za<;>intro _ h<;>try simp [-Nat.le_zero_eq] at h))
     refine ⟨hidH.h,by have:=hcnH.h;omega,hkpc.h,atB ⟨u,v⟩,pts1,?_,htkH.h⟩
     rw [hEt3.h,<- hh1eH.h];exact hstcH.h
   ·rw [<- hwN];rintro H1 ⟨kp,y,pts',st1,hpt⟩;rw [Nat.add_zero,hEw.h] at st1;have fx1:=fx.keep kp;have hb1:=fx1.hb;have h1h:=st1.h;have hsl:q < (here.set q y).length:=by simpa using hqh
    have hss:(here.set q y).set q l.xs[q]=here:=by rw [List.set_set,hset]
    have hput:=zbm (f:=Box.cells) (sz:=4) (a:=l.xs[q]) (fun _=>rfl) (fun _=>rfl) (by decide) hsl;rw [hss] at hput;simp only [Box.cells,Span.cells,List.map_cons,List.map_nil] at hput;have hst1H:=Hide.mk st1;have hH1:=zC h1h;clear fx1;(repeat' first|simp [*,zb]|(apply za<;>intro _ h<;>try simp [-Nat.le_zero_eq] at h))
    refine ⟨⟨by simpa using kp.nx,fun j a b c e f=>by rw [zg f];exact kp.get j a b c e f⟩,pts',⟨?_,?_,?_,?_,hst1H.h.best,hst1H.h.pts⟩,hpt⟩
    ·rw [zg (by omega)];exact hst1H.h.s
    ·rw [zg (by omega)];exact hst1H.h.e
    ·rw [zg (by omega)];exact hst1H.h.p
    ·rw [zP hH1]
  obtain ⟨v,H',h1,rfl,h2⟩:=main;rw [<- hF];exact ⟨H',h1,h2⟩
theorem zeD {α:Type} [BEq α] [LawfulBEq α] {x:α}:∀ {l:List α} {j:Nat} (h:j < l.length),j < l.idxOf x->l[j]≠x
 | a::l,j,h,hj=>by
  rw [List.idxOf_cons] at hj
  by_cases e:a=x
  ·subst e;simp at hj
  ·have e':(a == x)=false:=by simpa using e
   rw [e'] at hj;simp only [cond_false] at hj
   cases j with
   | zero=>simpa using e
   | succ j=>simpa using zeD (l:=l) (by simpa using h) (by omega)
open Classical in
noncomputable def idxI (part:List Nat) (x:Int):Int:=if x∈zY part then ((zY part).idxOf x:Nat) else -1
theorem zgc (part:List Nat) (x:Int):IsIdx (zY part) x (idxI part x):=by
 unfold idxI
 split
 ·rename_i h;have hl:=List.idxOf_lt_length_of_mem h
  refine .inl ⟨(zY part).idxOf x,hl,rfl,List.getElem_idxOf hl,fun j hj hlt e=>?_⟩
  exact zeD hj hlt e
 ·rename_i h;exact .inr ⟨rfl,h⟩
theorem zkb {part:List Nat} {x:Int} (h0:0<=x):x∈zY part↔x.toNat∈part:=by
 unfold zY;rw [List.mem_map]
 constructor
 ·rintro ⟨k,hk,rfl⟩;simpa using hk
 ·intro h;exact ⟨x.toNat,h,by omega⟩
theorem zf9 {part:List Nat} {x:Int} (h0:0<=x) (h:x.toNat∈part):idxI part x=(part.idxOf x.toNat:Nat):=by
 have hl:=List.idxOf_lt_length_of_mem h
 refine (zgc part x).unique (.inl ⟨part.idxOf x.toNat,by rw [zaw];exact hl,rfl,?_,fun j hj hlt e=>?_⟩)
 ·simp only [zY,List.getElem_map];rw [List.getElem_idxOf hl];omega
 ·simp only [zY,List.getElem_map] at e;have hj':j < part.length:=by rw [zaw] at hj;exact hj
  exact zeD hj' hlt (by omega)
noncomputable def lastI (part:List Nat) (f:Fact):Int:=if f.kind=2 then max (max (idxI part f.a) (idxI part f.b)) (idxI part f.c) else max (idxI part f.a) (idxI part f.b)
theorem zjE {part:List Nat} {f:Fact} (ha:0<=f.a) (hb:0<=f.b) (hc:f.kind=2->0<=f.c) (hw:Within part f):lastI part f=(zdM part f:Nat):=by
 unfold lastI zdM;rw [zf9 ha hw.a,zf9 hb hw.b]
 split
 ·rename_i h;rw [zf9 (hc h) (hw.c h)];omega
 ·omega
open Classical in
noncomputable def mineB (part:List Nat) (k:Nat) (f:Fact):Bool:=decide (lastI part f=k)&&decide (f.a∈zY part)
noncomputable def mineL (fs:List Fact) (part:List Nat) (k:Nat):List Int:=(zah fs.length).filter fun i=>mineB part k fs[i.toNat]!
theorem zl2 (fs:List Fact) (part:List Nat) (k:Nat):okIs fs (mineL fs part k):=fun i hi=>zcr fs i (List.mem_filter.1 hi).1
theorem znd (fs:List Fact) (part:List Nat) (k:Nat):(mineL fs part k).length<=fs.length:=by
 have:=List.length_filter_le (fun i:Int=>mineB part k fs[i.toNat]!) (zah fs.length);rwa [zay] at this
theorem znK {fs:List Fact} {part:List Nat} {k:Nat} (hn:∀ f∈fs,0<=f.a/\0<=f.b/\(f.kind=2->0<=f.c)) (hw:∀ f∈fs,f.a.toNat∈part->Within part f) (here:List Box):badI fs here (mineL fs part k) < 0↔okK fs part k here=true:=by
 have h1:=zf8 (fs:=fs) (l:=here) (is:=mineL fs part k) fun i hi=>(zl2 fs part k i hi).1;have h2:(badI fs here (mineL fs part k) < 0)↔¬ ∃ i∈mineL fs part k,zQ fs[i.toNat]! here=true:=by rw [<- h1];omega
 rw [h2];have hcond:∀ f∈fs,(mineB part k f=true↔(part.contains f.a.toNat&&decide (zdM part f=k))=true):=fun f hf=>by
  obtain ⟨a1,a2,a3⟩:=hn f hf;unfold mineB;simp only [Bool.and_eq_true,decide_eq_true_eq,List.contains_iff_mem,List.elem_eq_mem,zkb a1]
  constructor
  ·rintro ⟨b1,b2⟩;rw [zjE a1 a2 a3 (hw f hf b2)] at b1;exact ⟨b2,by omega⟩
  ·rintro ⟨b1,b2⟩;rw [zjE a1 a2 a3 (hw f hf b1)];exact ⟨by omega,b1⟩
 unfold okK;rw [List.all_eq_true]
 constructor
 ·intro h f hf
  by_cases hc:(part.contains f.a.toNat&&decide (zdM part f=k))=true
  ·rw [hc];simp only [Bool.not_true,Bool.false_or]
   cases hs:zQ f here with
   | false=>rfl
   | true =>
    exfalso;obtain ⟨j,hj,rfl⟩:=List.mem_iff_getElem.1 hf
    refine h ⟨(j:Nat),List.mem_filter.2 ⟨mem_nats.2 ⟨j,hj,rfl⟩,?_⟩,?_⟩
    ·rw [show ((j:Int)).toNat=j by simp,getElem!_pos fs j hj];exact (hcond _ hf).2 hc
    ·rw [show ((j:Int)).toNat=j by simp,getElem!_pos fs j hj];exact hs
  ·simp only [Bool.not_eq_true] at hc;rw [hc];rfl
 ·rintro h ⟨i,hi,hs⟩;obtain ⟨hi1,hi2⟩:=List.mem_filter.1 hi;obtain ⟨j,hj,rfl⟩:=mem_nats.1 hi1;rw [show ((j:Int)).toNat=j by simp,getElem!_pos fs j hj] at hi2 hs;have:=h _ (List.getElem_mem hj);rw [(hcond _ (List.getElem_mem hj)).1 hi2,hs] at this;simp at this
structure SeenD where
 part:List Nat
 n:Nat
 ends:List (Option (List Pt))
 first:Option (List Pt)
def SeenD.cells (s:SeenD):List PV:=[zac s.part,.int .i64 s.n,.slice false 4 (chunks 4 s.part.length (s.ends.map zX)),zX s.first]
def SeenD.pv (s:SeenD):PV:=.ptr false s.cells 0
def oneD (b:Box) (part:List Nat):SeenD:=⟨part,(zbt b).toNat,[some [⟨b.x.lo,b.y.lo⟩],some [⟨b.x.hi,b.y.lo⟩],some [⟨b.x.lo,b.y.lo⟩],some [⟨b.x.lo,b.y.hi⟩]],some [⟨b.x.lo,b.y.lo⟩]⟩
def zeY (facts:List Fact) (l:List Box) (part:List Nat):SeenD:=⟨part,(zal facts l part).length,(List.range (4*part.length)).map fun j=>zj9 (keyC j) (zal facts l part),(zal facts l part).head?⟩
def zai (facts:List Fact) (l:List Box) (part:List Nat):SeenD:=if part.length=1 then oneD l[part[0]!]! part else zeY facts l part
structure SeenOk (facts:List Fact) (l:List Box) (part:List Nat) (s:SeenD):Prop where
 same:s.part=part
 n:s.n=(zal facts l part).length
 len:s.ends.length=4*part.length
 none:s.n=0->s.first=Option.none
 first:s.n≠0->∃ c∈zal facts l part,s.first=some c
 ends:s.n≠0->∀ j (h:j < s.ends.length),∃ c∈zal facts l part,s.ends[j]=some c/\∀ c'∈zal facts l part,keyC j c<=keyC j c'
theorem zoT (facts:List Fact) (l:List Box) (part:List Nat):SeenOk facts l part (zeY facts l part):=by
 refine ⟨rfl,rfl,by simp [zeY],fun h=>?_,fun h=>?_,fun h j hj=>?_⟩
 ·have:zal facts l part=[]:=List.eq_nil_of_length_eq_zero h;simp [zeY,this]
 ·show ∃ c∈zal facts l part,(zal facts l part).head?=some c;have h':(zal facts l part).length≠0:=h
  cases hs:zal facts l part with
  | nil=>rw [hs] at h';simp at h'
  | cons c cs=>exact ⟨c,by simp,rfl⟩
 ·have h':zal facts l part≠[]:=fun e=>h (by simp [zeY,e]);obtain ⟨e,h1,h2,h3⟩:=zoE (keyC j) h';exact ⟨e,h2,by simp [zeY,h1],h3⟩
theorem zcG {facts:List Fact} {l:List Box} {i:Nat} (hn:∀ f∈facts,f.a.toNat≠i):∀ c,c∈zal facts l [i]↔∃ x,c=[x]/\inB' x l[i]! := by
 intro c;rw [zeV (by simp) (fun f hf h=>absurd (by simpa using h) (hn f hf))]
 constructor
 ·rintro ⟨⟨h1,h2⟩,_⟩
  match c,h1 with
  | [x],_=>exact ⟨x,rfl,by simpa using h2 0 (by simp) (by simp)⟩
 ·rintro ⟨x,rfl,h⟩
  refine ⟨⟨rfl,fun k h1 h2=>?_⟩,fun f hf ha=>absurd (by simpa using ha) (hn f hf)⟩
  have:k=0:=by simpa using h1
  subst this
  simpa using h
theorem zmd {facts:List Fact} {l:List Box} {i:Nat} (hn:∀ f∈facts,f.a.toNat≠i):(zal facts l [i]).length=(zao l[i]!).length:=by
 have h1:(zal facts l [i]).Nodup:=zk8 ..;have h2:((zao l[i]!).map fun x=>[x]).Nodup:=zdx (fun a b h=>by simpa using h) (ze1 _);have:=zoj h1 h2 fun c=>by
  rw [zcG hn,List.mem_map]
  constructor
  ·rintro ⟨x,rfl,h⟩;exact ⟨x,mem_places.2 h,rfl⟩
  ·rintro ⟨x,h,rfl⟩;exact ⟨x,rfl,mem_places.1 h⟩
 simpa using this
theorem zp9 {facts:List Fact} {l:List Box} {i:Nat} (hi:i < l.length) (hw:Wf l) (hn:∀ f∈facts,f.a.toNat≠i):SeenOk facts l [i] (oneD l[i]! [i]):=by
 have hb:wfB l[i]! := by rw [getElem!_pos l i hi];exact hw _ (List.getElem_mem hi)
 have ha:=zdQ hb;have hpa:=zfQ hb;generalize hB:l[i]! = b at *
 refine ⟨rfl,?_,rfl,fun h=>?_,fun h=>?_,fun h j hj=>?_⟩
 ·rw [zmd hn,hB];show (zbt b).toNat=_;omega
 ·exfalso;have:(zbt b).toNat=0:=h;omega
 ·refine ⟨_,(zcG hn _).2 ⟨⟨b.x.lo,b.y.lo⟩,rfl,?_⟩,rfl⟩
  rw [hB];exact ⟨Int.le_refl _,hb.1,Int.le_refl _,hb.2⟩
 ·have hj4:j < 4:=hj;have h5:j=0\/j=1\/j=2\/j=3:=by omega
  have key:∀ c'∈zal facts l [i],∃ x,c'=[x]/\inB' x b:=fun c' h=>by rw [<- hB];exact (zcG hn c').1 h
  rcases h5 with rfl|rfl|rfl|rfl
  ·refine ⟨[⟨b.x.lo,b.y.lo⟩],(zcG hn _).2 ⟨_,rfl,by rw [hB];exact ⟨Int.le_refl _,hb.1,Int.le_refl _,hb.2⟩⟩,rfl,fun c' hc=>?_⟩
   obtain ⟨x,rfl,hx⟩:=key c' hc;unfold inB' at hx;simp [keyC,keyS];omega
  ·refine ⟨[⟨b.x.hi,b.y.lo⟩],(zcG hn _).2 ⟨_,rfl,by rw [hB];exact ⟨hb.1,Int.le_refl _,Int.le_refl _,hb.2⟩⟩,rfl,fun c' hc=>?_⟩
   obtain ⟨x,rfl,hx⟩:=key c' hc;unfold inB' at hx;simp [keyC,keyS];omega
  ·refine ⟨[⟨b.x.lo,b.y.lo⟩],(zcG hn _).2 ⟨_,rfl,by rw [hB];exact ⟨Int.le_refl _,hb.1,Int.le_refl _,hb.2⟩⟩,rfl,fun c' hc=>?_⟩
   obtain ⟨x,rfl,hx⟩:=key c' hc;unfold inB' at hx;simp [keyC,keyS];omega
  ·refine ⟨[⟨b.x.lo,b.y.hi⟩],(zcG hn _).2 ⟨_,rfl,by rw [hB];exact ⟨Int.le_refl _,hb.1,hb.2,Int.le_refl _⟩⟩,rfl,fun c' hc=>?_⟩
   obtain ⟨x,rfl,hx⟩:=key c' hc;unfold inB' at hx;simp [keyC,keyS];omega
theorem zo3 {facts:List Fact} {l:List Box} {part:List Nat} (hp:∀ k∈part,k < l.length) (hw:Wf l) (hn:∀ f∈facts,f.a.toNat∈part->Within part f) (hd:∀ f∈facts,0<=f.a/\0<=f.b/\f.a≠f.b):SeenOk facts l part (zai facts l part):=by
 unfold zai
 split
 ·rename_i h
  match part,h with
  | [i],_ =>
   refine zp9 (hp i (by simp)) hw fun f hf e=>?_
   have w:=hn f hf (by simp [e]);have h1:=w.b;simp only [List.mem_singleton] at h1;have:=hd f hf;omega
 ·exact zoT ..
theorem zhK {α:Type}:∀ (m:Nat) (L:List α) (k:Nat),k < m->(chunks 4 m L)[k]?=some ((L.drop (4*k)).take 4)
 | 0,_,_,h=>by omega
 | m+1,L,0,_=>by simp [chunks]
 | m+1,L,k+1,h=>by
  simp only [chunks,List.getElem?_cons_succ];rw [zhK m (L.drop 4) k (by omega),List.drop_drop]
  congr 3
  omega
noncomputable def mineTo (fs:List Fact) (part:List Nat) (k i:Nat):List Int:=(zah i).filter fun j:Int=>mineB part k fs[j.toNat]!
theorem zjf (fs:List Fact) (part:List Nat) (k:Nat):mineTo fs part k 0=[]:=by simp [mineTo,zah]
theorem zlb (fs:List Fact) (part:List Nat) (k:Nat):mineTo fs part k fs.length=mineL fs part k:=rfl
theorem zll (fs:List Fact) (part:List Nat) (k i:Nat):(mineTo fs part k i).length<=i:=by
 have:=List.length_filter_le (fun j:Int=>mineB part k fs[j.toNat]!) (zah i);rwa [zay] at this
theorem zmq {fs:List Fact} {part:List Nat} {k i:Nat} (h:i < fs.length):mineTo fs part k i++(if mineB part k fs[i]=true then [(i:Int)] else [])=mineTo fs part k (i+1):=by
 unfold mineTo zah;rw [List.range_succ,List.map_append,List.filter_append]
 congr 1
 simp [h,List.filter_cons]
theorem zkg {H:Heap} {eid m n:Nat} {cs:List AV} {ps:List PV} (h:H.get eid=.cells true cs) (hl:cs.length=4*m) (hf:FrzL H false n cs ps):FrzK H false (n+1) (.row eid 4 0 m) (.slice false 4 (chunks 4 m ps)):=by
 obtain ⟨ids,h1⟩:=hf;have hp:=zd4 h1;have h2:(cs.drop (0*4)).take (m*4)=cs:=by
  rw [Nat.zero_mul,List.drop_zero];exact List.take_of_length_le (by omega)
 refine ⟨eid::ids,?_⟩
 unfold freeze;simp only [h,h2,h1];rw [if_pos (by omega)]
theorem zh1 (B:List (Option (List Pt))):zm optF B=(B.map zX).map .pure:=by
 induction B with
 | nil=>rfl
 | cons b B ih=>rw [zbF,ih];rfl
theorem zn0 {H:Heap} {eid m n:Nat} {B:List (Option (List Pt))} (h:H.get eid=.cells true (zm optF B)) (hl:B.length=4*m):FrzK H false (n+2) (.row eid 4 0 m) (.slice false 4 (chunks 4 m (B.map zX))) :=
 zkg h (by rw [zh1];simpa using hl) (by rw [zh1];exact FrzL.pures _)
theorem zjJ {H:Heap} {eid sid:Nat} {D:SeenD} (hs:H.get sid=.cells true [.pure (zac D.part),.pure (.int .i64 D.n),.row eid 4 0 D.part.length,.pure (zX D.first)]) (he:FrzK H false 11 (.row eid 4 0 D.part.length) (.slice false 4 (chunks 4 D.part.length (D.ends.map zX)))):∃ ids,freeze H false zab (.box sid 0)=some (D.pv,ids):=by
 obtain ⟨ids,h1⟩:=FrzL.cons (FrzK.pure (H:=H) (k:=false) (n:=10) (zac D.part)) (.cons (FrzK.pure (.int .i64 D.n)) (.cons he (.cons (FrzK.pure (zX D.first)) .nil)))
 refine ⟨sid::ids,?_⟩
 show freeze H false 12 (.box sid 0)=_;unfold freeze;simp only [hs,h1];rfl
theorem znZ {H:Heap} {eid sid:Nat} {D:SeenD} (hs:H.get sid=.cells true [.pure (zac D.part),.pure (.int .i64 D.n),.row eid 4 0 D.part.length,.pure (zX D.first)]) (he:H.get eid=.cells true (zm optF D.ends)) (hl:D.ends.length=4*D.part.length):∃ ids,freeze H false zab (.box sid 0)=some (D.pv,ids):=zjJ hs (zn0 (n:=9) he hl)
structure MineJ (fs:List Fact) (part:List Nat) (mb:Nat) (H:Heap) (V:AV) (k:Nat):Prop where
 low:∀ id,Names V id->mb < id
 ex:∃ xs:List AV,RowA H V xs/\xs.length=k/\xs.all AV.one=true/\∀ j (h:j < xs.length),OwnV intF 1 H xs[j] (mineL fs part j)/\∀ id,Names xs[j] id->mb < id/\¬ Names V id
theorem MineJ.nil (fs:List Fact) (part:List Nat) (mb:Nat) (H:Heap):MineJ fs part mb H (.pure .nils) 0 :=
 ⟨fun id ⟨_,_,_,h⟩=>by simp at h,[],RowA.nil,rfl,rfl,fun j h=>by simp at h⟩
theorem MineJ.keep {fs:List Fact} {part:List Nat} {mb:Nat} {H H':Heap} {V:AV} {k:Nat} (h:MineJ fs part mb H V k) (hg:∀ id,mb < id->id < H.nx->H'.get id=H.get id):MineJ fs part mb H' V k:=by
 obtain ⟨xs,h1,h2,h3,h4⟩:=h.ex
 refine ⟨h.low,xs,h1.keep fun id hn=>hg id (h.low id hn) (h1.names_lt hn),h2,h3,fun j hj=>?_⟩
 obtain ⟨a,b⟩:=h4 j hj;exact ⟨a.keep fun id ⟨n,hn⟩=>hg id (b id ⟨_,_,_,hn⟩).1 (a.names_lt ⟨_,_,_,hn⟩),b⟩
theorem MineJ.lt {fs:List Fact} {part:List Nat} {mb:Nat} {H:Heap} {V:AV} {k:Nat} (h:MineJ fs part mb H V k) {id:Nat} (hn:Names V id):id < H.nx:=by
 obtain ⟨xs,h1,_⟩:=h.ex;exact h1.names_lt hn
theorem ziE {fs:List Fact} {part:List Nat} {mb:Nat} {H:Heap} {V u:AV} {k bytes:Nat} {b:AV} {K:AV->Heap->Prop} {u'} (hJ:MineJ fs part mb H V k) (hb:zJ H 1 b=some ([u],1)) (hu:OwnV intF 1 H u (mineL fs part k))
  (hn:∀ id,Names u id->mb < id/\¬ Names V id) (hmb:mb < H.nx) (hm:k+1<=zn/\(k+1)*bytes<=zn)
  (hk:∀ v' H',MineJ fs part mb H' v' (k+1)->H.nx<=H'.nx->(∀ c,c<=mb->H'.get c=H.get c)->AV.one v'=true->AV.cells v'=[v']->K v' H'):wpE 0 (zi H 1 bytes V b) H K u':=by
 obtain ⟨xs,h1,h2,h3,h4⟩:=hJ.ex
 refine zfR h1 hb hu.one.1 h3 (by rw [h2];exact hm) ?_
 intro v' H' hr hnx hsame hnew o1 o2
 refine hk v' H' ⟨fun id h=>by have:=hnew id h;omega,xs++[u],hr,by simp [h2],by simp [h3,hu.one.1],fun j hj=>?_⟩ hnx (fun c hc=>hsame c (by omega) fun h=>by have:=hJ.low c h;omega) o1 o2
 rw [List.getElem_append]
 split
 ·rename_i hj';obtain ⟨a,b⟩:=h4 j hj'
  refine ⟨a.keep fun id ⟨n,hn⟩=>?_,fun id hid=>⟨(b id hid).1,fun h=>?_⟩⟩
  ·exact hsame id (a.names_lt ⟨_,_,_,hn⟩) (b id ⟨_,_,_,hn⟩).2
  ·have:=hnew id h;have:=a.names_lt hid;omega
 ·rename_i hj';have ej:j=k:=by simp at hj;omega
  subst ej;simp only [List.getElem_singleton]
  refine ⟨hu.keep fun id ⟨n,hn'⟩=>?_,fun id hid=>⟨(hn id hid).1,fun h=>?_⟩⟩
  ·exact hsame id (hu.names_lt ⟨_,_,_,hn'⟩) (hn id ⟨_,_,_,hn'⟩).2
  ·have:=hnew id h;have:=hu.names_lt hid;omega
theorem zrv {p:Problem} {l:Sl Box} {part:List Nat} (ok:CheckOk p) (sub:SubL l.xs p.boxes.xs) (wf:Wf l.xs) (nodup:part.Nodup) (lt:∀ i∈part,i < l.xs.length) (pos:0 < part.length) (few:part.length<=12) (within:∀ f∈p.facts.xs,f.a.toNat∈part->Within part f) :
  ∃ ml:List (List Int),(∀ k,k < part.length->ml[k]! = mineL p.facts.xs part k)/\ChP p l part ml:=by
 have hm:∀ k,k < part.length->((List.range part.length).map (mineL p.facts.xs part))[k]! = mineL p.facts.xs part k:=fun k hk=>by
  rw [getElem!_pos _ k (by simpa using hk)];simp
 refine ⟨(List.range part.length).map (mineL p.facts.xs part),hm,⟨ok,sub,wf,nodup,lt,pos,few,fun k hk=>?_⟩⟩
 rw [hm k hk]
 refine ⟨zl2 p.facts.xs part k,Nat.le_trans (znd ..) ok.nf,znK (fun f hf=>?_) within⟩
 have h:=(za5 f _).1 (ok.fact f hf)
 refine ⟨by omega,by omega,fun h2=>?_⟩
 have:=h.2.2.2.2.2.1 h2;omega
theorem zob (m:Nat):okB m (List.replicate (4*m) none):=⟨by simp,fun o ho d hd=>by have:=List.eq_of_mem_replicate ho;rw [this] at hd;cases hd⟩
structure LkB (l:Sl Box) (part:List Nat) (hid hb:Nat) (H:Heap):Prop where
 e:H.get 0=.cells true (zm optF (List.replicate (4*part.length) none))
 s:H.get 1=.cells true (zd7 part 0 (ze7 (4*part.length)))
 sb:H.get 2=.cells true [.box 1 0]
 h:H.get hid=.cells true (zm Box.cells l.xs)
 hb:H.get hb=.cells true [.row hid 4 0 l.xs.length]
theorem LkB.keep {l:Sl Box} {part:List Nat} {hid hb mb:Nat} {H H':Heap} (h:LkB l part hid hb H) (o:2 < hid/\hid < hb/\hb < mb) (hg:∀ c,c < mb->H'.get c=H.get c):LkB l part hid hb H' :=
 ⟨by rw [hg _ (by omega)];exact h.e,by rw [hg _ (by omega)];exact h.s,by rw [hg _ (by omega)];exact h.sb,by rw [hg _ (by omega)];exact h.h,by rw [hg _ (by omega)];exact h.hb⟩
theorem zou (m:Nat):(List.replicate m (([PV.nils,PV.nils,PV.nils,PV.nils]:List PV).map AV.pure)).flatten=zm optF (List.replicate (4*m) none):=by
 induction m with
 | zero=>rfl
 | succ m ih =>
  rw [List.replicate_succ,List.flatten_cons,ih,show 4*(m+1)=4*m+1+1+1+1 by omega];simp only [List.replicate_succ,zbF];rfl
@[simp] theorem zqA (f:Nat) (a:PV) (i o:Nat) (l:List AV):zff f (.pure a::.box i o::l)=.func f (.pure a::.box i o::l):=rfl
@[simp] theorem zpw (f:Nat) (l:List AV):AV.cells (.func f l)=[.func f l]:=rfl
@[simp] theorem zpI (f:Nat) (l:List AV):AV.one (.func f l)=true:=rfl
theorem zoA (m:Nat):(List.replicate m (([PV.int .i64 0,PV.int .i64 0]:List PV).map AV.pure)).flatten=zm Pt.cells (List.replicate m ⟨0,0⟩):=by
 simp [zm]
theorem zpJ {X:Option (AV×Heap)} {v:AV} {P:Heap->Prop} {k:AV->Heap->Prop} (h:∃ H',X=some (v,H')/\P H') (h2:∀ H',P H'->k v H'):∃ v H',X=some (v,H')/\k v H':=by
 obtain ⟨H',a,b⟩:=h;exact ⟨v,H',a,h2 H' b⟩
structure LookIn (p:Problem) (l:Sl Box) (part:List Nat):Prop where
 ok:CheckOk p
 sub:SubL l.xs p.boxes.xs
 wf:Wf l.xs
 nodup:part.Nodup
 lt:∀ i∈part,i < l.xs.length
 pos:0 < part.length
 few:part.length<=12
 within:∀ f∈p.facts.xs,f.a.toNat∈part->Within part f
 sols:1 < part.length->(zal p.facts.xs l.xs part).length<=1000000000000000000
theorem sh56:G.shared 56=false:=by decide
theorem e56 (n:Nat) (p:Problem) (l:Sl Box) (part:List Nat) (h:LookIn p l part):zI G (n+50) 56 [.agg p.cells,l.pv Box.cells 4,zac part]=some ((zai p.facts.xs l.xs part).pv):=by
 refine zA (zB _) rfl g56 rfl ?_
 by_cases h1:part.length=1
 case pos =>
  obtain ⟨i,rfl⟩:∃ i,part=[i]:=by
   match part,h1 with
   | [i],_=>exact ⟨i,rfl⟩
  have hi:=h.lt i (by simp);have hv:=valid_iff.1 (zb0 h.ok h.sub h.wf _ (List.getElem_mem hi));have hD:zai p.facts.xs l.xs [i]=oneD l.xs[i] [i]:=by
   simp [zai,hi]
  rw [hD];have hb:=h.wf _ (List.getElem_mem hi);have ha:=zdQ hb;have hz1:=fun H=>zh (G:=G) (n:=n+49) (H:=H) (caps:=[]) (ps:=[.agg l.xs[i].x.cells]) sh21 (e21 (n+48) l.xs[i].x (by omega) (by omega));have hz2:=fun H=>zh (G:=G) (n:=n+49) (H:=H) (caps:=[]) (ps:=[.agg l.xs[i].y.cells]) sh21 (e21 (n+48) l.xs[i].y (by omega) (by omega));have hw:=zoU (u:=l.xs[i].x.hi - l.xs[i].x.lo+1) (v:=l.xs[i].y.hi - l.xs[i].y.lo+1) (by have:=hb.1;omega) (by omega) (by have:=hb.2;omega) (by omega);have hiI:(i:Int) < l.xs.length:=by omega
  have hmk:=zmh (sz:=4) (bytes:=96) (zero:=[.nils,.nils,.nils,.nils]) (k:=.i64) (k':=.i64) (n:=1) (by decide);have hmk1:zjb 4 96 [.nils,.nils,.nils,.nils] (.pure (.int .i64 1)) (.pure (.int .i64 1))=some (.new (.cells true [.pure .nils,.pure .nils,.pure .nils,.pure .nils]) fun id=>.row id 4 0 1):=hmk;have hA:Hide (((zbt l.xs[i]).toNat:Int)=(l.xs[i].x.hi - l.xs[i].x.lo+1)*(l.xs[i].y.hi - l.xs[i].y.lo+1)):=⟨by
   rw [Int.toNat_of_nonneg (by omega)];rfl⟩
  simp only [Span.cells,List.map_cons,List.map_nil] at hz1 hz2;have hpk0:zcn 1 (.pure (.slice false 1 [[.int .i64 (i:Int)]])) (.pure (.int .i64 0))=some (.val (.pure (.ptr false [.int .i64 (i:Int)] 0))):=by simp [zcn]
  have had0:∀ id:Nat,zcn 4 (.row id 4 0 1) (.pure (.int .i64 0))=some (.val (.box id 0)):=fun id=>by simp [zcn]
  clear hv hb ha hmk hD h1;(repeat' first|simp [*,zb,c56,zac,Box.cells,Span.cells,zan,zjm,chunks,beside]|(apply za<;>intro _ h<;>try simp [-Nat.le_zero_eq] at h)|(show wpE 0 (zi ..) ..;refine zt ?_)|(refine zk fun v2 H2 hv2 hnx2 hget2 hnew2 hone2 hcel2=>?_))
  refine zjJ (eid:=0) (D:=oneD l.xs[i] [i]) ?_ ?_
  ·simp [oneD,hA.h,zac,zX,Sl.pv,Pt.cells]
  ·refine zkg (n:=10) (m:=1) (cs:=[.pure (zX (some [⟨l.xs[i].x.lo,l.xs[i].y.lo⟩])),.row 4 2 0 1,.pure (zX (some [⟨l.xs[i].x.lo,l.xs[i].y.lo⟩])),.row 5 2 0 1]) ?_ rfl ?_
   ·simp [zX,Sl.pv,Pt.cells]
   ·refine .cons (.pure _) (.cons (zbz (n:=8) (f:=Pt.cells) (sz:=2) (l:=[⟨l.xs[i].x.hi,l.xs[i].y.lo⟩]) (fun _=>rfl) ?_ rfl) (.cons (.pure _) (.cons (zbz (n:=8) (f:=Pt.cells) (sz:=2) (l:=[⟨l.xs[i].x.lo,l.xs[i].y.hi⟩]) (fun _=>rfl) ?_ rfl) .nil)))
    ·simp [zm]
    ·simp [zm]
 case neg =>
  have hD:zai p.facts.xs l.xs part=zeY p.facts.xs l.xs part:=by unfold zai;rw [if_neg h1]
  rw [hD];have hmp:=h.pos;have hmf:=h.few;have h1I:¬ (part.length:Int)=1:=by omega
  have hlp:zdc (.pure (zac part))=some (.val (.pure (.int .i64 part.length))):=by simp [zac]
  have hcp:AV.cells (.pure (zac part))=[.pure (zac part)]:=rfl;have hmx:part.length*4<=zn/\part.length*96<=zn/\part.length<=zn:=by unfold zn;omega
  have hl0:l.xs≠[]:=by
   intro e;have:=h.lt part[0] (List.getElem_mem hmp);rw [e] at this;simp at this
  have hl12:l.xs.length<=12:=by have:=h.sub.1;have:=h.ok.nb;omega
  have hrep:=zou part.length;simp only [List.map_cons,List.map_nil] at hrep;have hH:=Hide.mk h;have hl0H:=Hide.mk hl0;clear h hD h1 hl0;(repeat' first|simp [*,zb,c56,zan]|(apply za<;>intro _ h<;>try simp [-Nat.le_zero_eq] at h)|(show wpE 0 (zi ..) ..;refine zt ?_)|(refine zk fun v2 H2 hv2 hnx2 hget2 hnew2 hone2 hcel2=>?_))
  refine zaW (by omega) ?_
  intro v H1 hv hvn hnx hsame hnew;obtain ⟨hid,rfl,hg⟩:=hv.row hl0H.h;have hid3:2 < hid:=by have:=hnew hid ⟨_,_,_,rfl⟩;simp at this;omega
  have hlt1:=zC hg;have b0:H1.get 0=.cells true (zm optF (List.replicate (4*part.length) none)):=by
   rw [hsame 0 (by simp)];simp [hrep]
  have b1:H1.get 1=.cells true (zd7 part 0 (ze7 (4*part.length))):=by
   rw [hsame 1 (by simp)];simp [zd7,ze7,zX]
  have b2:H1.get 2=.cells true [.box 1 0]:=by
   rw [hsame 2 (by simp)];simp
  clear hv hvn hnx hsame hnew hrep hmx;(repeat' first|simp [*,zb]|(apply za<;>intro _ h<;>try simp [-Nat.le_zero_eq] at h)|(show wpE 0 (zi ..) ..;refine zt ?_)|(refine zk fun v2 H2 hv2 hnx2 hget2 hnew2 hone2 hcel2=>?_))
  refine zz [(11,15),(89,136)] (fun (k:Nat) env H2=>env 89=.pure (.int .i64 k)/\k<=part.length/\H1.nx+1 < H2.nx/\Hide (LkB l part hid H1.nx H2)/\∃ V,H2.get (H1.nx+1)=.cells true [V]/\Hide (MineJ p.facts.xs part (H1.nx+1) H2 V k)) (fun k=>part.length - k) 0 ?_ ?_ ?_ ?_
  ·decide
  ·refine ⟨by simp,by omega,by simp,⟨?_⟩,.pure .nils,?_,⟨MineJ.nil _ _ _ _⟩⟩
   ·refine ⟨?_,?_,?_,?_,?_⟩
    ·rw [zf (by simp<;>omega),zg (by omega),zf (by omega)];exact b0
    ·rw [zf (by simp<;>omega),zg (by omega),zf (by omega)];exact b1
    ·rw [zf (by simp<;>omega),zg (by omega),zf (by omega)];exact b2
    ·rw [zf (by simp<;>omega),zg (by omega),zf (by omega)];exact hg
    ·rw [zf (by simp),zP (by simp)]
   ·simp
  ·simp only [zx];omega
  clear b0 b1 b2 hg;have nf:=hH.h.ok.nf;rintro k env H2 ⟨g89,hk,hnx2,hB,V,hmb,hM⟩
  by_cases hlt:k < part.length
  ·have w1:IntKind.i64.wrap ((k:Int)+1)=(k+1:Nat):=by rw [wrap64 (by omega) (by omega)];omega
   have hltI:(k:Int) < part.length:=by omega
   have hG0:GrowV intF 1 H2 (.pure .nils) ([]:List Int):=GrowV.nil;have hG0:=Hide.mk hG0;(repeat' first|simp [*,zb]|(apply za<;>intro _ h<;>try simp [-Nat.le_zero_eq] at h)|(show wpE 0 (zi ..) ..;refine zt ?_)|(refine zk fun v2 H2 hv2 hnx2 hget2 hnew2 hone2 hcel2=>?_))
   refine zz [(12,15),(95,131)] (fun (i:Nat) env H3=>env 95=.pure (.int .i64 i)/\i<=p.facts.xs.length/\H2.nx<=H3.nx/\Hide (∀ c,c < H2.nx->H3.get c=H2.get c)/\∃ u,env 12=u/\Hide (GrowV intF 1 H3 u (mineTo p.facts.xs part k i)/\∀ id,Names u id->H2.nx<=id)) (fun i=>p.facts.xs.length - i) 0 ?_ ?_ ?_ ?_
   ·decide
   ·exact ⟨by simp,by omega,Nat.le_refl _,⟨fun _ _=>rfl⟩,_,rfl,⟨by rw [zjf];exact hG0.h,fun id ⟨_,_,_,h⟩=>by simp at h⟩⟩
   ·simp only [zx];omega
   have g89':=g89;clear g89 hG0;rintro i env H3 ⟨g95,hi,hnx3,hsame,u,g12,hU⟩
   by_cases hil:i < p.facts.xs.length
   ·have w2:IntKind.i64.wrap ((i:Int)+1)=(i+1:Nat):=by rw [wrap64 (by omega) (by omega)];omega
    have hilI:(i:Int) < p.facts.xs.length:=by omega
    have c1:=fun (x:Int) H=>zh (G:=G) (n:=n+49) (H:=H) (caps:=[]) (ps:=[(Sl.mk false (zY part)).pv intF 1,.int .i64 x]) sh51 (e51 (n+48) (Sl.mk false (zY part)) x (idxI part x) (by rw [Sl.xs_mk,zaw];omega) (zgc part x));have c2:=fun (x:Int) H=>zh (G:=G) (n:=n+49) (H:=H) (caps:=[]) (ps:=[(Sl.mk false (zY part)).pv intF 1,.int .i64 x]) sh28 (e28 (n+47) (Sl.mk false (zY part)) x (by rw [Sl.xs_mk,zaw];omega));rw [<- zeg] at c1 c2;simp only [List.map_cons,List.map_nil,Sl.xs_mk] at c1 c2;have hms:=Hide.mk (zmq (part:=part) (k:=k) hil);obtain ⟨f,hf⟩:∃ f,f=p.facts.xs[i]:=⟨_,rfl⟩
    have hmB:Hide (mineB part k p.facts.xs[i]=(decide (lastI part f=k)&&decide (f.a∈zY part))):=⟨by rw [hf];unfold mineB;congr⟩
    have hlast:Hide (lastI part f=if f.kind=2 then max (max (idxI part f.a) (idxI part f.b)) (idxI part f.c) else max (idxI part f.a) (idxI part f.b)):=⟨rfl⟩
    rw [<- hf] at hmB hms;have hfr:=hf.symm;have hAdd:Hide (∀ (H4:Heap) (u4:AV),H3.nx<=H4.nx->GrowV intF 1 H4 u4 ((mineTo p.facts.xs part k i)++(if mineB part k f=true then [(i:Int)] else []))->GrowV intF 1 H4 u4 (mineTo p.facts.xs part k (i+1))):=⟨fun H4 u4 _ h=>h.cast hms.h⟩
    have hmlen:(mineTo p.facts.xs part k i).length<=60:=by have:=zll p.facts.xs part k i;omega
    generalize (mineTo p.facts.xs part k i)=L at *;have hmB2:Hide (mineB part k f=(decide (lastI part f=k)&&decide (f.a∈zY part))):=⟨by unfold mineB;congr⟩
    clear hms hf hmB;obtain ⟨d1,d2,d3,da,db,dc,⟨d4,d5⟩,d6⟩:=f;simp only at hlast hmB2;have c1a:=c1 da;have c1b:=c1 db;have c1c:=c1 dc;have c2a:=c2 da;clear c1 c2;generalize idxI part da=ia at *;generalize idxI part db=ib at *;generalize idxI part dc=ic at *;have hU1:=hU.h.1;have hU1o:=hU1.1.one;have hU1a:=hU1o.1;have hU1b:=hU1o.2;have hUH:=Hide.mk hU.h;have hU1H:=Hide.mk hU1;clear hU hU1 hU1o
    by_cases hk2:d2=2
    ·have hl2:Hide (lastI part ⟨d1,d2,d3,da,db,dc,⟨d4,d5⟩,d6⟩=max ia (max ib ic)):=⟨by rw [hlast.h,if_pos hk2];exact Int.max_assoc ..⟩
     clear hlast;subst hk2
     by_cases hc:max ia (max ib ic)=(k:Int)
     ·by_cases hd:da∈zY part
      ·have hadd:=Hide.mk (fun H4 u4 hx (h:GrowV intF 1 H4 u4 (L++[(i:Int)]))=>hAdd.h H4 u4 hx (by rw [hmB2.h,hl2.h,decide_eq_true hc,decide_eq_true hd];exact h));clear hmB2 hl2 hAdd;(repeat' first|simp [*,zb,Fact.cells,Span.cells]|(apply za<;>intro _ h<;>try simp [-Nat.le_zero_eq] at h)|(show wpE 0 (zi ..) ..;refine zt ?_)|(refine zk fun v2 H2 hv2 hnx2 hget2 hnew2 hone2 hcel2=>?_))
       refine zaE (f:=intF) (sz:=1) (l:=L) ((hU1H.h.setNew _ _).alloc _) (fun _=>rfl) (by decide) (fun _=>rfl) (by unfold zn;omega) ⟨(i:Int),by simp [intF],?_⟩
       intro u4 H4 hg4 ha;have hU4:Hide (GrowV intF 1 H4 u4 (mineTo p.facts.xs part k (i+1))/\∀ id,Names u4 id->H2.nx<=id):=⟨hadd.h H4 u4 (by have:=ha.nx;simp at this;omega) hg4,fun id hn=>by have:=ha.new id hn;simp at this;omega⟩
       have hs4:Hide (∀ c,c < H2.nx->H4.get c=H2.get c):=⟨fun c hc=>by rw [ha.get c (by simp;omega) (fun hn=>by have:=hUH.h.2 c hn;omega),zf (by simp;omega),zg (by omega),zf (by omega)];exact hsame.h c hc⟩
       have hx4:H2.nx<=H4.nx:=by have:=ha.nx;simp at this;omega
       clear hg4 ha hsame hadd hUH hU1H;(repeat' first|simp [*,zb]|(apply za<;>intro _ h<;>try simp [-Nat.le_zero_eq] at h)|(show wpE 0 (zi ..) ..;refine zt ?_)|(refine zk fun v2 H2 hv2 hnx2 hget2 hnew2 hone2 hcel2=>?_));exact ⟨i+1,by omega,by omega,by omega,hU4⟩
      ·have hfin:Hide (∀ H4,GrowV intF 1 H4 u L->H3.nx<=H4.nx->GrowV intF 1 H4 u (mineTo p.facts.xs part k (i+1))):=⟨fun H4 h hx=>hAdd.h H4 u hx (by rw [hmB2.h,hl2.h,decide_eq_false hd];simpa using h)⟩
       clear hmB2 hl2 hAdd;(repeat' first|simp [*,zb,Fact.cells,Span.cells]|(apply za<;>intro _ h<;>try simp [-Nat.le_zero_eq] at h)|(show wpE 0 (zi ..) ..;refine zt ?_)|(refine zk fun v2 H2 hv2 hnx2 hget2 hnew2 hone2 hcel2=>?_))
       refine ⟨i+1,by omega,by omega,by omega,by omega,⟨fun c hc=>?_⟩,⟨hfin.h _ (hU1H.h.setNew _ _) (by simp),hUH.h.2⟩⟩
       rw [zg (by omega),zf (by omega)];exact hsame.h c hc
     ·have hfin:Hide (∀ H4,GrowV intF 1 H4 u L->H3.nx<=H4.nx->GrowV intF 1 H4 u (mineTo p.facts.xs part k (i+1))):=⟨fun H4 h hx=>hAdd.h H4 u hx (by rw [hmB2.h,hl2.h,decide_eq_false hc];simpa using h)⟩
      clear hmB2 hl2 hAdd;(repeat' first|simp [*,zb,Fact.cells,Span.cells]|(apply za<;>intro _ h<;>try simp [-Nat.le_zero_eq] at h)|(show wpE 0 (zi ..) ..;refine zt ?_)|(refine zk fun v2 H2 hv2 hnx2 hget2 hnew2 hone2 hcel2=>?_))
      refine ⟨i+1,by omega,by omega,by omega,by omega,⟨fun c hc=>?_⟩,⟨hfin.h _ (hU1H.h.setNew _ _) (by simp),hUH.h.2⟩⟩
      rw [zg (by omega),zf (by omega)];exact hsame.h c hc
    ·have hl2:Hide (lastI part ⟨d1,d2,d3,da,db,dc,⟨d4,d5⟩,d6⟩=max ia ib):=⟨by rw [hlast.h,if_neg hk2]⟩
     clear hlast
     by_cases hc:max ia ib=(k:Int)
     ·by_cases hd:da∈zY part
      ·have hadd:=Hide.mk (fun H4 u4 hx (h:GrowV intF 1 H4 u4 (L++[(i:Int)]))=>hAdd.h H4 u4 hx (by rw [hmB2.h,hl2.h,decide_eq_true hc,decide_eq_true hd];exact h));clear hmB2 hl2 hAdd;(repeat' first|simp [*,zb,Fact.cells,Span.cells]|(apply za<;>intro _ h<;>try simp [-Nat.le_zero_eq] at h)|(show wpE 0 (zi ..) ..;refine zt ?_)|(refine zk fun v2 H2 hv2 hnx2 hget2 hnew2 hone2 hcel2=>?_))
       refine zaE (f:=intF) (sz:=1) (l:=L) ((hU1H.h.setNew _ _).alloc _) (fun _=>rfl) (by decide) (fun _=>rfl) (by unfold zn;omega) ⟨(i:Int),by simp [intF],?_⟩
       intro u4 H4 hg4 ha;have hU4:Hide (GrowV intF 1 H4 u4 (mineTo p.facts.xs part k (i+1))/\∀ id,Names u4 id->H2.nx<=id):=⟨hadd.h H4 u4 (by have:=ha.nx;simp at this;omega) hg4,fun id hn=>by have:=ha.new id hn;simp at this;omega⟩
       have hs4:Hide (∀ c,c < H2.nx->H4.get c=H2.get c):=⟨fun c hc=>by rw [ha.get c (by simp;omega) (fun hn=>by have:=hUH.h.2 c hn;omega),zf (by simp;omega),zg (by omega),zf (by omega)];exact hsame.h c hc⟩
       have hx4:H2.nx<=H4.nx:=by have:=ha.nx;simp at this;omega
       clear hg4 ha hsame hadd hUH hU1H;(repeat' first|simp [*,zb]|(apply za<;>intro _ h<;>try simp [-Nat.le_zero_eq] at h)|(show wpE 0 (zi ..) ..;refine zt ?_)|(refine zk fun v2 H2 hv2 hnx2 hget2 hnew2 hone2 hcel2=>?_));exact ⟨i+1,by omega,by omega,by omega,hU4⟩
      ·have hfin:Hide (∀ H4,GrowV intF 1 H4 u L->H3.nx<=H4.nx->GrowV intF 1 H4 u (mineTo p.facts.xs part k (i+1))):=⟨fun H4 h hx=>hAdd.h H4 u hx (by rw [hmB2.h,hl2.h,decide_eq_false hd];simpa using h)⟩
       clear hmB2 hl2 hAdd;(repeat' first|simp [*,zb,Fact.cells,Span.cells]|(apply za<;>intro _ h<;>try simp [-Nat.le_zero_eq] at h)|(show wpE 0 (zi ..) ..;refine zt ?_)|(refine zk fun v2 H2 hv2 hnx2 hget2 hnew2 hone2 hcel2=>?_))
       refine ⟨i+1,by omega,by omega,by omega,by omega,⟨fun c hc=>?_⟩,⟨hfin.h _ (hU1H.h.setNew _ _) (by simp),hUH.h.2⟩⟩
       rw [zg (by omega),zf (by omega)];exact hsame.h c hc
     ·have hfin:Hide (∀ H4,GrowV intF 1 H4 u L->H3.nx<=H4.nx->GrowV intF 1 H4 u (mineTo p.facts.xs part k (i+1))):=⟨fun H4 h hx=>hAdd.h H4 u hx (by rw [hmB2.h,hl2.h,decide_eq_false hc];simpa using h)⟩
      clear hmB2 hl2 hAdd;(repeat' first|simp [*,zb,Fact.cells,Span.cells]|(apply za<;>intro _ h<;>try simp [-Nat.le_zero_eq] at h)|(show wpE 0 (zi ..) ..;refine zt ?_)|(refine zk fun v2 H2 hv2 hnx2 hget2 hnew2 hone2 hcel2=>?_))
      refine ⟨i+1,by omega,by omega,by omega,by omega,⟨fun c hc=>?_⟩,⟨hfin.h _ (hU1H.h.setNew _ _) (by simp),hUH.h.2⟩⟩
      rw [zg (by omega),zf (by omega)];exact hsame.h c hc
   ·have hie:i=p.facts.xs.length:=by omega
    subst hie;have hU2:=hU.h;rw [zlb] at hU2;have hUo:=hU2.1.1.one;have hUo1:=hUo.1;have hUo2:=hUo.2;have hmb3:H3.get (H1.nx+1)=.cells true [V]:=by rw [hsame.h _ hnx2];exact hmb
    have hU2H:=Hide.mk hU2;have hlt3:H1.nx+1 < H3.nx:=by omega
    clear hUo hU2;(repeat' first|simp [*,zb]|(apply za<;>intro _ h<;>try simp [-Nat.le_zero_eq] at h)|(show wpE 0 (zi ..) ..;refine zt ?_)|(refine zk fun v2 H2 hv2 hnx2 hget2 hnew2 hone2 hcel2=>?_))
    refine ziE (mb:=H1.nx+1) (k:=k) (u:=u) ((hM.h.keep (H':=H3) fun c _ hc=>hsame.h c hc).keep fun c _ hc=>zf hc) ?_ (hU2H.h.1.alloc _).1 ?_ (by simp;omega) (by unfold zn;omega) ?_
    ·simp
    ·intro id hn;have:=hU2H.h.2 id hn;exact ⟨by omega,fun h=>by have:=hM.h.lt h;omega⟩
    intro v' H' hM' hnx' hs' o1 o2;have hmb':H'.get (H1.nx+1)=.cells true [V]:=by rw [hs' _ (Nat.le_refl _),zf hlt3];exact hmb3
    have hlt':H1.nx+1 < H'.nx:=by simp at hnx';omega
    have hM2:Hide (∀ o,MineJ p.facts.xs part (H1.nx+1) (H'.set (H1.nx+1) o) v' (k+1)):=⟨fun o=>hM'.keep fun c hc _=>zg (by omega)⟩
    have hB2:Hide (∀ o,LkB l part hid H1.nx (H'.set (H1.nx+1) o)):=⟨fun o=>hB.h.keep (mb:=H1.nx+1) ⟨by omega,by omega,by omega⟩ fun c hc=>by
     rw [zg (by omega),hs' c (by omega),zf (by omega),hsame.h c (by omega)]⟩
    clear hM' hs' hB hM hsame hmb3 hU hU2H hmb;(repeat' first|simp [*,zb]|(apply za<;>intro _ h<;>try simp [-Nat.le_zero_eq] at h)|(show wpE 0 (zi ..) ..;refine zt ?_)|(refine zk fun v2 H2 hv2 hnx2 hget2 hnew2 hone2 hcel2=>?_));exact ⟨k+1,by omega,by omega,by omega,⟨hB2.h _⟩,⟨hM2.h _⟩⟩
  ·have hkN:k=part.length:=by omega
   subst hkN;have hmx:part.length*2<=zn/\part.length*16<=zn/\part.length<=zn:=by unfold zn;omega
   have key:∀ Hs:Heap,Hs.nx=H2.nx+3->(∀ j,j < H2.nx->Hs.get j=H2.get j)->Hs.get H2.nx=.cells true (zm Pt.cells (List.replicate part.length ⟨0,0⟩))->Hs.get (H2.nx+1)=.cells true [.row H2.nx 2 0 part.length] ->
     Hs.get (H2.nx+1+1)=.cells true [.func 69 (zeR ⟨1,0,2,H2.nx,H2.nx+1,hid,H1.nx,0,H1.nx+1,H2.nx+1+1⟩ p l part)] ->
     ∃ H',Vm.call G (n+48+1) (.fn 69) ([.pure (.int .i64 0)]++zeR ⟨1,0,2,H2.nx,H2.nx+1,hid,H1.nx,0,H1.nx+1,H2.nx+1+1⟩ p l part) Hs=some (.tup [],H') /\
      (H'.get 2=.cells true [.box 1 0]/\H'.get 1=.cells true (zd7 part 0 ((zal p.facts.xs l.xs part).foldl zcm (ze7 (4*part.length))))/\H'.get 0=.cells true (zm optF ((zal p.facts.xs l.xs part).foldl zcm (ze7 (4*part.length))).best)):=by
    intro Hs hn hg s1 s2 s3;have hLI:=hH.h;obtain ⟨ml,hml,hcp'⟩:=zrv hLI.ok hLI.sub hLI.wf hLI.nodup hLI.lt hLI.pos hLI.few hLI.within;obtain ⟨xs,hra,hxl,hx1,hxo⟩:=hM.h.ex;have hB':=hB.h;rcases hra with ⟨_,rfl⟩|⟨mid,rfl,hxne,hmid⟩
    ·simp at hxl;omega
    have hmlo:=hM.h.low mid ⟨_,_,_,rfl⟩;have hmlt:=zC hmid;have hxl':xs.length=part.length:=hxl;have sp:1 < part.length:=by omega
    have hsf:=hLI.sols sp;obtain ⟨H',r1,r2,pts',r3,_⟩:=zjy (I:=⟨1,0,2,H2.nx,H2.nx+1,hid,H1.nx,mid,H1.nx+1,H2.nx+1+1⟩) hcp' part.length (n+41 - 3*part.length) 0 Hs (ze7 (4*part.length)) (List.replicate part.length ⟨0,0⟩) l.xs (by omega)
     ⟨⟨(by decide:0 < 1),(by decide:1 < 2),hid3,hlt1,(by omega:H1.nx < H1.nx+1),hmlo,hmlt,(by omega:H2.nx < H2.nx+1),(by omega:H2.nx+1 < H2.nx+1+1)⟩,by show Hs.get 2=_;rw [hg 2 (by omega)];exact hB'.sb,s2,by show Hs.get H1.nx=_;rw [hg H1.nx (by omega)];exact hB'.hb,by show Hs.get (H1.nx+1)=_;rw [hg _ hnx2];rw [hmb,hxl'],⟨xs,by rw [hg _ hmlt];exact hmid,hxl',fun k hk=>by
      obtain ⟨a,b⟩:=hxo k hk;rw [hml k (by omega)];exact ⟨a.keep fun id ⟨n,hn⟩=>hg id (a.names_lt ⟨_,_,_,hn⟩),fun id hid=>⟨(b id hid).1,a.names_lt hid⟩⟩⟩,s3⟩
     ⟨by show Hs.get 1=_;rw [hg 1 (by omega)];exact hB'.s,by show Hs.get 0=_;rw [hg 0 (by omega)];exact hB'.e,s1,by show Hs.get hid=_;rw [hg hid (by omega)];exact hB'.h,zob _,⟨by simp,fun x hx=>by
      have:=List.eq_of_mem_replicate hx;subst this;exact ⟨⟨by decide,by decide⟩,⟨by decide,by decide⟩⟩⟩⟩
     (SubL.refl _) hLI.wf (fun j h _=>rfl) (by
      have:(zbw (okK p.facts.xs part) l.xs (part.drop 0) 0 l.xs).length=(zal p.facts.xs l.xs part).length:=rfl;rw [this];show 0+_<=_;omega)
    refine ⟨H',?_,?_,?_,?_⟩
    ·have e:n+41 - 3*part.length+8+3*part.length=n+48+1:=by omega
     rw [e] at r1;exact r1
    ·rw [r2.get 2 (by omega) (show (2:Nat)≠1 by decide) (show (2:Nat)≠0 by decide) (by show 2≠H2.nx;omega) (by show 2≠hid;omega),hg _ (by omega)];exact hB'.sb
    ·have:=r3.s
     simpa [zal] using this
    ·have:=r3.e
     simpa [zal] using this
   have hrp:=zoA part.length;simp only [List.map_cons,List.map_nil] at hrp;have keyH:=Hide.mk key;have hDl:Hide (((zal p.facts.xs l.xs part).foldl zcm (ze7 (4*part.length)))=⟨(zal p.facts.xs l.xs part).length,(zal p.facts.xs l.xs part).head?,(List.range (4*part.length)).map fun j=>zj9 (keyC j) (zal p.facts.xs l.xs part)⟩):=⟨zom _ _⟩
   clear key hB hM;(repeat' first|simp [*,zb]|(apply za<;>intro _ h<;>try simp [-Nat.le_zero_eq] at h)|(show wpE 0 (zi ..) ..;refine zt ?_)|(refine zk fun v2 H2 hv2 hnx2 hget2 hnew2 hone2 hcel2=>?_))
   refine zfc (n:=n+48) zh6 (zpJ (keyH.h _ ?_ ?_ ?_ ?_ ?_) ?_)
   ·simp
   ·intro j hj;rw [zg (by omega),zf (by rw [zaL];simp;omega),zg (by omega),zf (by simp;omega),zf hj]
   ·rw [zg (by omega),zf (by rw [zaL];simp;omega),zg (by omega),zf (by simp),zaf]
   ·simp
   ·simp [zeR]
   ·rintro H' ⟨q1,q2,q3⟩;rw [hDl.h] at q2 q3;clear keyH hDl;(repeat' first|simp [*,zb]|(apply za<;>intro _ h<;>try simp [-Nat.le_zero_eq] at h)|(show wpE 0 (zi ..) ..;refine zt ?_)|(refine zk fun v2 H2 hv2 hnx2 hget2 hnew2 hone2 hcel2=>?_))
    refine znZ (eid:=0) (D:=zeY p.facts.xs l.xs part) ?_ ?_ ?_
    ·exact q2
    ·exact q3
    ·simp [zeY]
end Go.Proofs.Ytleggocccaeemaa.Vm
