/- Narrowing: the plain facts that the walk of narrow uses. Narrowing: what the program's narrow computes. The leaf of choose (look$1): all points of a part are chosen; what is gathered. choose (look$1): what it gathers, by induction on the points that are left. What look is to return, and the lists of facts that it makes. Plain Lean. look: what the program sees of a part, walked. -/
import Derived.Test.YtmghcpdpilgplaaGreatQk16
import Derived.Test.YtmghcpdpilgplaaGreatQk17
import Derived.Test.YtmghcpdpilgplaaGreatQk20
import Derived.Test.YtmghcpdpilgplaaGreatQk21
import Derived.Test.YtmghcpdpilgplaaGreatQk19
namespace Go.Proofs.YtmghcpdpilgplaaGreat.Vm
open Go
set_option linter.unusedSimpArgs false
set_option linter.unusedVariables false
set_option maxHeartbeats 4000000
def failsP (f:Fact) (l:List Box):Prop:=failsS f l=true
theorem named_ok {f:Fact} {n:Nat} (h:formedB f n=true):Named f n:=by
 have h':=(formedB_iff f n).1 h
 refine ⟨by omega,by omega,?_⟩
 by_cases hk:f.kind=2
 ·have:=h'.2.2.2.2.2.1 hk;omega
 ·have:=h'.2.2.2.2.2.2 hk;omega
theorem nar_anti {p:Problem} (ok:CheckOk p):Anti failsP p.facts.xs p.boxes.xs.length:=fun f hf l m hm hw hs hl h =>
 fails_less (by rw [hm];exact named_ok (ok.fact f hf)) hs hl hw h
theorem nar_wf {p:Problem} (ok:CheckOk p):Wf p.boxes.xs:=fun b hb=>by
 have:=valid_iff.1 (ok.valid b hb);exact ⟨by omega,by omega⟩
theorem valid_sub {p:Problem} (ok:CheckOk p) {l:List Box} (hs:SubL l p.boxes.xs) (hw:Wf l):∀ b∈l,validB b=true:=by
 intro b hb;obtain ⟨i,hi,rfl⟩:=List.mem_iff_getElem.1 hb;have hi':i < p.boxes.xs.length:=by rw [← hs.1];exact hi
 have h1:=hs.2 i hi hi';have h2:=valid_iff.1 (ok.valid _ (List.getElem_mem hi'));have h3:=hw _ (List.getElem_mem hi);unfold subB subS at h1;unfold wfB at h3;rw [valid_iff];omega
theorem rok_sub {p:Problem} (ok:CheckOk p) {l:List Box} (hs:SubL l p.boxes.xs) (hw:Wf l) {f:Fact} (hf:f∈p.facts.xs):ROk f l:=fine_ok (ok.fine hs.1 (valid_sub ok hs hw) hf)
theorem stripL_wf {l:List Box} (hw:Wf l) {i:Nat} (hi:i < l.length) (k:Nat):Wf (stripL l i k):=by
 rw [stripL_at hi];exact hw.set (strip_wf (hw _ (List.getElem_mem hi)) k)
theorem stripL_sub {l:List Box} (hw:Wf l) {i:Nat} (hi:i < l.length) (k:Nat):SubL (stripL l i k) l:=by
 rw [stripL_at hi];have:=(SubL.refl l).set (i:=i) (strip_sub (hw _ (List.getElem_mem hi)) k);rwa [List.set_getElem_self] at this
theorem mem_nats {n:Nat} {j:Int}:j∈natsL n↔∃ k:Nat,k < n∧j=k:=by
 simp only [natsL,List.mem_map,List.mem_range]
 constructor
 ·rintro ⟨k,h,rfl⟩;exact ⟨k,h,rfl⟩
 ·rintro ⟨k,h,rfl⟩;exact ⟨k,h,rfl⟩
theorem nats_ok (fs:List Fact):okIs fs (natsL fs.length):=fun i hi=>by
 obtain ⟨k,h,rfl⟩:=mem_nats.1 hi;omega
theorem about_ok (fs:List Fact) (i:Int):okIs fs (aboutL fs (natsL fs.length) i):=fun j hj=>nats_ok fs j (List.mem_filter.1 hj).1
theorem about_len (fs:List Fact) (i:Int):(aboutL fs (natsL fs.length) i).length≤fs.length:=by
 have:=List.length_filter_le (fun k=>namesB fs[k.toNat]! i) (natsL fs.length);rwa [natsL_length] at this
theorem bad_all {fs:List Fact} {l:List Box}:0≤badI fs l (natsL fs.length)↔∃ f∈fs,failsS f l=true:=by
 rw [badI_nn fun i hi=>(nats_ok fs i hi).1]
 constructor
 ·rintro ⟨j,hj,h⟩;obtain ⟨k,hk,rfl⟩:=mem_nats.1 hj;rw [show ((k:Int)).toNat=k by simp,getElem!_pos fs k hk] at h;exact ⟨_,List.getElem_mem hk,h⟩
 ·rintro ⟨f,hf,h⟩;obtain ⟨k,hk,rfl⟩:=List.mem_iff_getElem.1 hf;exact ⟨k,mem_nats.2 ⟨k,hk,rfl⟩,by rw [show ((k:Int)).toNat=k by simp,getElem!_pos fs k hk];exact h⟩
theorem bad_about {fs:List Fact} {l:List Box} {i:Int}:0≤badI fs l (aboutL fs (natsL fs.length) i)↔∃ f∈fs,namesB f i=true∧failsS f l=true:=by
 rw [badI_nn fun j hj=>(about_ok fs i j hj).1];unfold aboutL;simp only [List.mem_filter]
 constructor
 ·rintro ⟨j,⟨hj,hn⟩,h⟩;obtain ⟨k,hk,rfl⟩:=mem_nats.1 hj;rw [show ((k:Int)).toNat=k by simp,getElem!_pos fs k hk] at h hn;exact ⟨_,List.getElem_mem hk,hn,h⟩
 ·rintro ⟨f,hf,hn,h⟩;obtain ⟨k,hk,rfl⟩:=List.mem_iff_getElem.1 hf;exact ⟨k,⟨mem_nats.2 ⟨k,hk,rfl⟩,by rw [show ((k:Int)).toNat=k by simp,getElem!_pos fs k hk];exact hn⟩,by rw [show ((k:Int)).toNat=k by simp,getElem!_pos fs k hk];exact h⟩
theorem set_agree {p:Problem} (ok:CheckOk p) {f:Fact} (hf:f∈p.facts.xs) {i:Nat} (hn:namesB f i=false) {l:List Box} (hi:i < l.length) (b:Box):failsS f (l.set i b)=failsS f l:=by
 have hfm:=(formedB_iff f _).1 (ok.fact f hf);unfold namesB at hn;simp only [Bool.or_eq_false_iff,Bool.and_eq_false_iff,decide_eq_false_iff_not] at hn;obtain ⟨ha,hb,hc⟩:=hn;have g:∀ j:Int,0≤j→j≠i→(l.set i b)[j.toNat]! = l[j.toNat]! := fun j h0 hj=>by
  rw [getElem!_def,getElem!_def,List.getElem?_set_ne (by omega)]
 refine fails_congr ⟨g _ (by omega) ha,g _ (by omega) hb,fun hk=>g _ ?_ ?_⟩
 ·have:=hfm.2.2.2.2.2.1 hk;omega
 ·rcases hc with h|h
  ·exact absurd hk h
  ·exact h
section
variable {p:Problem} {L L0:List Box} {i k:Nat} {c:Bool}
structure NarJ (p:Problem) (L:List Box):Prop where
 hold:Holds' failsP p.facts.xs p.boxes.xs L
 none:∀ f∈p.facts.xs,failsS f L=false
structure WhileJ (p:Problem) (i:Nat) (L:List Box):Prop where
 hold:Holds' failsP p.facts.xs p.boxes.xs L
 others:∀ f∈p.facts.xs,namesB f i=false→failsS f L=false
theorem NarJ.while (h:NarJ p L) (i:Nat):WhileJ p i L:=⟨h.hold,fun f hf _=>h.none f hf⟩
theorem WhileJ.exit (ok:CheckOk p) (h:WhileJ p i L) (hi:i < L.length) (hb:¬ ∃ f∈p.facts.xs,namesB f i=true∧failsS f (stripL L i k)=true):NarJ p L∧∀ f∈p.facts.xs,failsS f (stripL L i k)=false:=by
 have key:∀ f∈p.facts.xs,failsS f (stripL L i k)=false:=fun f hf=>by
  cases hn:namesB f i with
  | true =>
   cases hs:failsS f (stripL L i k) with
   | true=>exact absurd ⟨f,hf,hn,hs⟩ hb
   | false=>rfl
  | false=>rw [stripL_at hi,set_agree ok hf hn hi];exact h.others f hf hn
 refine ⟨⟨h.hold,fun f hf=>?_⟩,key⟩
 cases hs:failsS f L with
 | false=>rfl
 | true =>
  have:=nar_anti ok f hf (stripL L i k) L h.hold.sub.1 h.hold.wf (stripL_sub h.hold.wf hi k) (stripL_wf h.hold.wf hi k) hs;unfold failsP at this;rw [key f hf] at this;simp at this
theorem WhileJ.step (ok:CheckOk p) (h:WhileJ p i L) (hi:i < L.length) (hk:k < 4) (hb:∃ f∈p.facts.xs,namesB f i=true∧failsS f (stripL L i k)=true) (ht:¬ thinB L[i] k):WhileJ p i (cutL L i k)∧sizeL (cutL L i k) < sizeL L:=by
 obtain ⟨f,hf,_,hs⟩:=hb
 refine ⟨⟨h.hold.cut (nar_anti ok) hi hk hf hs ht,fun g hg hn=>?_⟩,cutL_size h.hold.wf hi hk ht⟩
 rw [cutL_at hi,set_agree ok hg hn hi];exact h.others g hg hn
theorem WhileJ.empty (ok:CheckOk p) (h:WhileJ p i L) (hi:i < L.length) (hk:k < 4) (hb:∃ f∈p.facts.xs,namesB f i=true∧failsS f (stripL L i k)=true) (ht:thinB L[i] k):IsNar failsP p.facts.xs p.boxes.xs none:=by
 obtain ⟨f,hf,_,hs⟩:=hb;exact h.hold.empty (nar_anti ok) hi hk hf hs ht
def DoneTo (p:Problem) (L:List Box) (i k:Nat):Prop:=∀ i' k',k' < 4→(i' < i∨(i'=i∧k' < k))→i' < L.length→∀ f∈p.facts.xs,failsS f (stripL L i' k')=false
structure PJ (p:Problem) (L0 L:List Box) (c:Bool) (i k:Nat):Prop where
 nar:NarJ p L
 same:c=false→L=L0∧DoneTo p L i k
 less:c=true→sizeL L < sizeL L0
structure WJ (p:Problem) (L0 L:List Box) (c:Bool) (i k:Nat):Prop where
 wj:WhileJ p i L
 same:c=false→L=L0∧DoneTo p L i k
 less:c=true→sizeL L < sizeL L0
theorem PJ.start (h:NarJ p L):PJ p L L false 0 0:=⟨h,fun _=>⟨rfl,fun i' k' _ h=>by omega⟩,fun h=>by cases h⟩
theorem PJ.while (h:PJ p L0 L c i k):WJ p L0 L c i k:=⟨h.nar.while i,h.same,h.less⟩
theorem WJ.exit (ok:CheckOk p) (h:WJ p L0 L c i k) (hi:i < L.length) (hk:k < 4) (hb:¬ ∃ f∈p.facts.xs,namesB f i=true∧failsS f (stripL L i k)=true):PJ p L0 L c i (k+1):=by
 obtain ⟨h1,h2⟩:=h.wj.exit ok hi hb
 refine ⟨h1,fun hc=>?_,h.less⟩
 obtain ⟨h3,h4⟩:=h.same hc
 refine ⟨h3,fun i' k' hk' hlt hi' f hf=>?_⟩
 rcases hlt with hl|⟨rfl,hl⟩
 ·exact h4 i' k' hk' (.inl hl) hi' f hf
 ·rcases Nat.lt_succ_iff_lt_or_eq.1 hl with hl|rfl
  ·exact h4 i' k' hk' (.inr ⟨rfl,hl⟩) hi' f hf
  ·exact h2 f hf
theorem WJ.step (ok:CheckOk p) (h:WJ p L0 L c i k) (hi:i < L.length) (hk:k < 4) (hb:∃ f∈p.facts.xs,namesB f i=true∧failsS f (stripL L i k)=true) (ht:¬ thinB L[i] k):WJ p L0 (cutL L i k) true i k∧sizeL (cutL L i k) < sizeL L:=by
 obtain ⟨h1,h2⟩:=h.wj.step ok hi hk hb ht
 refine ⟨⟨h1,fun hc=>(by cases hc),fun _=>?_⟩,h2⟩
 cases c with
 | false=>have:=(h.same rfl).1;subst this;exact h2
 | true=>have:=h.less rfl;omega
theorem PJ.nextI (h:PJ p L0 L c i 4):PJ p L0 L c (i+1) 0:=⟨h.nar,fun hc=>⟨(h.same hc).1,fun i' k' hk' hlt hi' f hf=>(h.same hc).2 i' k' hk' (by omega) hi' f hf⟩,h.less⟩
theorem PJ.done (h:PJ p L0 L c L.length 0) (hc:c=false):Stable failsP p.facts.xs L:=fun i hi k hk f hf hs=>by
 have:=(h.same hc).2 i k hk (.inl hi) hi f hf;unfold failsP at hs;rw [this] at hs;simp at hs
theorem size_bd {M:Nat}:∀ {l:List Box},(∀ b∈l,sizeB b≤M)→sizeL l≤M*l.length
 | [],_=>by simp [sizeL]
 | b::l,h=>by
  have h1:=h b (by simp);have h2:=size_bd (l:=l) fun x hx=>h x (by simp [hx]);unfold sizeL at h2 ⊢;simp only [List.map_cons,List.sum_cons,List.length_cons,Nat.mul_add,Nat.mul_one];omega
theorem nar_size (ok:CheckOk p) (hs:SubL L p.boxes.xs):sizeL L≤24552:=by
 have h1:sizeL L≤2046*L.length:=size_bd fun b hb=>by
  obtain ⟨i,hi,rfl⟩:=List.mem_iff_getElem.1 hb;have hi':i < p.boxes.xs.length:=by rw [← hs.1];exact hi
  have h1:=hs.2 i hi hi';have h2:=ok.box _ (List.getElem_mem hi');unfold boxB at h2;simp only [Bool.and_eq_true,decide_eq_true_eq] at h2;unfold subB subS at h1;unfold sizeB;omega
 have h2:L.length≤12:=by rw [hs.1];exact ok.nb
 have:2046*L.length≤2046*12:=Nat.mul_le_mul_left _ h2;omega
end
set_option maxRecDepth 4000
theorem own_sl {α:Type} {f:α→List PV} {sz:Nat} {H:Heap} {v:AV} {l:List α} {n:Nat} (hf:∀ a,(f a).length=sz) (h:OwnV f sz H v l):∃ s:Sl α,s.xs=l∧FrzK H true (n+2) v (s.pv f sz):=by
 rcases h with ⟨rfl,rfl⟩|⟨id,rfl,hg⟩
 ·exact ⟨.nil,rfl,.pure _⟩
 ·exact row_sl hf hg rfl
theorem cold_boxes (l:List Box):((Sl.mk false l).pv Box.cells 4).cold=true:=by
 simp [Sl.pv,PV.cold,PV.coldN,Box.cells,Span.cells]
theorem tdivN_2 (a:Nat):Int.tdiv (a:Int) 2=((a / 2:Nat):Int):=rfl
theorem tmodN_2 (a:Nat):Int.tmod (a:Int) 2=((a % 2:Nat):Int):=rfl
def narPV (p:Problem):Option (List Box)→PV
 | none=>.nils
 | some l=>(if p.boxes.isNil=true then Sl.nil else Sl.mk false l).pv Box.cells 4
theorem sh62:G.shared 62=false:=by decide
theorem e62 (n:Nat) (p:Problem) (ok:CheckOk p) (r:Option (List Box)) (hr:IsNar failsP p.facts.xs p.boxes.xs r):callP G (n+7) 62 [.agg p.cells]=some (.tup [narPV p r,.bool r.isSome]):=by
 refine callP_of (ext_none _) rfl g62 rfl ?_
 obtain ⟨bs,fs⟩:=p;have nb:bs.xs.length≤12:=ok.nb;have nf:fs.xs.length≤60:=ok.nf;have hAll:=fun H=>call_pureC (G:=G) (n:=n+6) (H:=H) (caps:=[]) (ps:=[fs.pv Fact.cells 9]) sh93 (e93 (n+5) fs (by omega));simp only [List.map_cons,List.map_nil] at hAll;have hBad:Hide (∀ (is:Sl Int) (l:Sl Box),okIs fs.xs is.xs→is.xs.length≤60→SubL l.xs bs.xs→Wf l.xs→callP G (n+6) 91 [fs.pv Fact.cells 9,is.pv intF 1,l.pv Box.cells 4]=some (.int .i64 (badI fs.xs l.xs is.xs))) :=
  ⟨fun is l h1 h2 h3 h4=>e91 n fs is l h1 (by omega) (fun f hf=>rok_sub ok h3 h4 hf)⟩
 have ho:=of_eq (n+5);have okH:=Hide.mk ok;have hrH:=Hide.mk hr
 by_cases hN:bs.xs=[]
 ·have hf0:fs.xs=[]:=by
   cases hfx:fs.xs with
   | nil=>rfl
   | cons f l =>
    have:=(formedB_iff f _).1 (ok.fact f (by show f∈fs.xs;rw [hfx];simp));have e:((Problem.mk bs fs).boxes.xs.length:Int)=0:=by show (bs.xs.length:Int)=0;rw [hN];rfl
    omega
  have hrs:r=some []:=hrH.h.unique (s:=some []) (by
   show IsNar failsP fs.xs bs.xs (some []);rw [hN];exact ⟨Holds'.init (fun b hb=>by simp at hb),fun i hi=>by simp at hi⟩)
  subst hrs;have hB0:badI fs.xs [] (natsL fs.xs.length)=-1:=by rw [hf0];rfl
  have hbH:=Hide.mk (hBad.h (Sl.mk false (natsL fs.xs.length)));have hbl:bs.xs.length=0:=by rw [hN];rfl
  have hNH:=Hide.mk hN;clear hr hf0 hN;(repeat' first|simp [*,initEnv,c62,Problem.cells]|(apply wpIf_two<;>intro _ h<;>try simp [-Nat.le_zero_eq] at h))
  refine wpE_cloneB (by omega) ?_
  intro v H1 hv hvn hnx hsame hnew;rw [hNH.h] at hv;obtain ⟨s0,hs0,hf0⟩:=own_sl (n:=10) (f:=Box.cells) (sz:=4) (fun _=>rfl) hv;have c0:=hbH.h s0 (nats_ok _) (by simp [natsL_length];omega) (by rw [hs0,hNH.h];exact SubL.refl _) (by rw [hs0];exact fun b hb=>by simp at hb);rw [hs0,Sl.xs_mk,hB0] at c0;have hlv:=hv.len;have hone:=hv.one;simp only [List.length_nil] at hlv;have hres:∃ ids,freeze H1 false 11 v=some (narPV ⟨bs,fs⟩ (some []),ids):=by
   rcases hv with ⟨_,rfl⟩|⟨id,rfl,hg⟩
   ·have e:bs.isNil=true:=by simpa [isNil] using hvn.symm
    refine ⟨[],?_⟩
    unfold narPV;rw [e];rfl
   ·have e:bs.isNil=false:=by simpa [isNil] using hvn.symm
    obtain ⟨ids,hids⟩:=row_res (n:=9) (f:=Box.cells) (sz:=4) (fun _=>rfl) hg rfl
    refine ⟨ids,?_⟩
    unfold narPV;rw [e];exact hids
  have hresH:=Hide.mk hres;clear hv hvn hsame hnew hbH hres hs0;(repeat' first|simp [*,initEnv]|(apply wpIf_two<;>intro _ h<;>try simp [-Nat.le_zero_eq] at h))
  refine wpE_own (caps:=[]) (ps:=[_,_,_]) (by decide) (.cons (.pure _) (.cons (.pure _) (.cons hf0 .nil))) c0 rfl ?_
  clear c0 hf0;(repeat' first|simp [*,initEnv]|(apply wpIf_two<;>intro _ h<;>try simp [-Nat.le_zero_eq] at h))
  refine wp_loopF [(2,3),(6,11),(24,85)] (fun (b:Bool) env H=>env 6=.pure (.bool b)∧H=H1) (fun b=>if b=true then 1 else 0) true ?_ ?_ ?_ ?_
  ·decide
  ·exact ⟨by simp,rfl⟩
  ·simp only [loopFuel];simp
  rintro b env H ⟨g6,rfl⟩
  cases b with
  | false =>
   obtain ⟨ids,hids⟩:=hresH.h;(repeat' first|simp [*,initEnv]|(apply wpIf_two<;>intro _ h<;>try simp [-Nat.le_zero_eq] at h))
  | true =>
   (repeat' first|simp [*,initEnv]|(apply wpIf_two<;>intro _ h<;>try simp [-Nat.le_zero_eq] at h))
   refine wp_loopF [(2,3),(6,11),(27,85)] (fun (u:Unit) env H2=>env 27=.pure (.int .i64 0)∧env 6=.pure (.bool false)∧H2=H) (fun u=>0) () ?_ ?_ ?_ ?_
   ·decide
   ·exact ⟨by simp,by simp,rfl⟩
   ·simp only [loopFuel];omega
   rintro u env2 H2 ⟨g27,g6',rfl⟩;(repeat' first|simp [*,initEnv]|(apply wpIf_two<;>intro _ h<;>try simp [-Nat.le_zero_eq] at h))
 have hN0:0 < bs.xs.length:=List.length_pos_iff.2 hN;have hnil:bs.isNil=false:=by
  cases bs with
  | nil=>exact absurd rfl hN
  | mk h l=>rfl
 have hpv:Hide (∀ l,narPV ⟨bs,fs⟩ (some l)=(Sl.mk false l).pv Box.cells 4):=⟨fun l=>by unfold narPV;simp only [hnil];rfl⟩
 have hnone:narPV ⟨bs,fs⟩ none=.nils:=rfl;clear hr;have hbH:=Hide.mk (hBad.h (Sl.mk false (natsL fs.xs.length)));(repeat' first|simp [*,initEnv,c62,Problem.cells]|(apply wpIf_two<;>intro _ h<;>try simp [-Nat.le_zero_eq] at h))
 refine wpE_cloneB (by omega) ?_
 intro v H1 hv hvn hnx hsame hnew;obtain ⟨id,rfl,hg⟩:=hv.row hN;have hid:=nx_of_get hg;obtain ⟨s0,hs0,hf0⟩:=row_sl (n:=10) (f:=Box.cells) (sz:=4) (fun _=>rfl) hg rfl;have c0:=hbH.h s0 (nats_ok _) (by simp [natsL_length];omega) (by rw [hs0];exact SubL.refl _) (by rw [hs0];exact nar_wf okH.h);rw [hs0] at c0;simp only [Sl.xs_mk] at c0;clear hv hvn hsame hnew hbH;(repeat' first|simp [*,initEnv]|(apply wpIf_two<;>intro _ h<;>try simp [-Nat.le_zero_eq] at h))
 refine wpE_own (caps:=[]) (ps:=[_,_,_]) (by decide) (.cons (.pure _) (.cons (.pure _) (.cons hf0 .nil))) c0 rfl ?_
 have hba:=bad_all (fs:=fs.xs) (l:=bs.xs)
 by_cases hb0:0≤badI fs.xs bs.xs (natsL fs.xs.length)
 ·have hrn:r=none:=hrH.h.unique (by
   obtain ⟨f,hf,hs⟩:=hba.1 hb0;exact (Holds'.init (nar_wf okH.h)).fail (nar_anti okH.h) hN0 hf hs)
  subst hrn;clear hba c0 hf0 hs0 hrH;generalize badI fs.xs bs.xs (natsL fs.xs.length)=B at *;(repeat' first|simp [*,initEnv]|(apply wpIf_two<;>intro _ h<;>try simp [-Nat.le_zero_eq] at h))
 have hnone0:∀ f∈fs.xs,failsS f bs.xs=false:=fun f hf=>by
  cases hs:failsS f bs.xs with
  | false=>rfl
  | true=>exact absurd (hba.2 ⟨f,hf,hs⟩) hb0
 have hJ0:NarJ ⟨bs,fs⟩ bs.xs:=⟨Holds'.init (nar_wf okH.h),hnone0⟩
 have hJ0:=Hide.mk hJ0;have hb0':¬ 0≤badI fs.xs bs.xs (natsL fs.xs.length):=hb0;clear hba c0 hf0 hs0 hnone0 hb0;generalize badI fs.xs bs.xs (natsL fs.xs.length)=B at *;(repeat' first|simp [*,initEnv]|(apply wpIf_two<;>intro _ h<;>try simp [-Nat.le_zero_eq] at h))
 refine wp_loopF [(2,3),(6,11),(24,85)] (fun (s:List Box×Bool) env H=>env 6=.pure (.bool s.2)∧id < H.nx∧H.get id=.cells true (rowOf Box.cells s.1)∧Hide (NarJ ⟨bs,fs⟩ s.1∧(s.2=false→Stable failsP fs.xs s.1))) (fun s=>2*sizeL s.1+if s.2=true then 1 else 0) (bs.xs,true) ?_ ?_ ?_ ?_
 ·decide
 ·exact ⟨by simp,hid,hg,⟨hJ0.h,fun h=>by cases h⟩⟩
 ·have:=nar_size okH.h (L:=bs.xs) (SubL.refl _);simp only [loopFuel,if_true];omega
 clear hJ0 hg hid;rintro ⟨L0,b⟩ env H ⟨g6,hid,hg,hJ⟩;simp only at g6 hg;have hL0:Hide (L0.length=bs.xs.length):=⟨hJ.h.1.hold.sub.1⟩
 have hg0:=Hide.mk hg
 cases b with
 | false =>
  have hrs:r=some L0:=hJ.h.1.hold.stop (hJ.h.2 rfl) hrH.h;subst hrs;obtain ⟨ids,hids⟩:=row_res (n:=9) (f:=Box.cells) (sz:=4) (fun _=>rfl) hg hL0.h;rw [hpv.h];clear hJ hrH;(repeat' first|simp [*,initEnv]|(apply wpIf_two<;>intro _ h<;>try simp [-Nat.le_zero_eq] at h))
 | true =>
  have hP0:=Hide.mk (PJ.start hJ.h.1);have hsz:=Hide.mk (nar_size okH.h (L:=L0) hJ.h.1.hold.sub);clear hJ hg;(repeat' first|simp [*,initEnv]|(apply wpIf_two<;>intro _ h<;>try simp [-Nat.le_zero_eq] at h))
  refine wp_loopF [(2,3),(6,11),(27,85)] (fun (i:Nat) env H=>env 27=.pure (.int .i64 i)∧i≤bs.xs.length∧∃ c:Bool,env 6=.pure (.bool c)∧id < H.nx∧∃ L,H.get id=.cells true (rowOf Box.cells L)∧Hide (PJ ⟨bs,fs⟩ L0 L c i 0)) (fun i=>bs.xs.length - i) 0 ?_ ?_ ?_ ?_
  ·decide
  ·exact ⟨by simp,by omega,false,by simp,hid,L0,hg0.h,hP0⟩
  ·simp only [loopFuel];omega
  clear hP0 g6 hid hg0;rintro i env H ⟨g27,hi,c,g6,hid,L,hg,hP⟩;have hLl:Hide (L.length=bs.xs.length):=⟨hP.h.nar.hold.sub.1⟩
  by_cases hlt:i < bs.xs.length
  ·have w0:IntKind.i64.wrap ((i:Int)+1)=(i+1:Nat):=by rw [wrap64 (by omega) (by omega)];omega
   have hltI:(i:Int) < bs.xs.length:=by omega
   have hAb:=fun H=>call_pureC (G:=G) (n:=n+6) (H:=H) (caps:=[]) (ps:=[fs.pv Fact.cells 9,(Sl.mk false (natsL fs.xs.length)).pv intF 1,.int .i64 i]) sh92 (e92 (n+4) fs (Sl.mk false (natsL fs.xs.length)) i (nats_ok _) (by simp [natsL_length];omega));simp only [List.map_cons,List.map_nil] at hAb;(repeat' first|simp [*,initEnv]|(apply wpIf_two<;>intro _ h<;>try simp [-Nat.le_zero_eq] at h))
   refine wp_loopF [(2,3),(6,6),(9,11),(35,84)] (fun (k:Nat) env H=>env 35=.pure (.int .i64 k)∧k≤4∧∃ c:Bool,env 6=.pure (.bool c)∧id < H.nx∧∃ L,H.get id=.cells true (rowOf Box.cells L)∧Hide (PJ ⟨bs,fs⟩ L0 L c i k)) (fun k=>4 - k) 0 ?_ ?_ ?_ ?_
   ·decide
   ·exact ⟨by simp,by omega,c,by simp [g6],hid,L,hg,hP⟩
   ·simp only [loopFuel];omega
   have g27':=g27;clear g27 g6 hid hg hP hLl;rintro k env H ⟨g35,hk,c,g6,hid,L,hg,hP⟩;have hLl:Hide (L.length=bs.xs.length):=⟨hP.h.nar.hold.sub.1⟩
   by_cases hk4:k < 4
   ·have w1:IntKind.i64.wrap ((k:Int)+1)=(k+1:Nat):=by rw [wrap64 (by omega) (by omega)];omega
    have hkI:(k:Int) < 4:=by omega
    have q1:=tdivN_2 k;have q2:=tmodN_2 k;have u1:IntKind.i64.wrap ((k / 2:Nat):Int)=(k / 2:Nat):=wrap64 (by omega) (by omega);obtain ⟨ax,hax⟩:∃ ax:Nat,ax=k / 2:=⟨_,rfl⟩
    obtain ⟨hg2,hhg⟩:∃ m:Nat,m=k % 2:=⟨_,rfl⟩
    rw [← hax] at q1 u1;rw [← hhg] at q2;have hsk:Hide ((sideK i k).cells=[.int .i64 i,.int .i64 ax,.bool (decide (hg2=1))]):=⟨by simp [sideK,Side.cells,hax,hhg]⟩
    have haxH:=Hide.mk hax;have hhgH:=Hide.mk hhg;clear hax hhg;have hWJ:=Hide.mk hP.h.while;clear hP;(repeat' first|simp [*,initEnv]|(apply wpIf_two<;>intro _ h<;>try simp [-Nat.le_zero_eq] at h));generalize hhb:decide ((hg2:Int)=1)=hb at *;have hhbH:=Hide.mk hhb;have hsk:Hide ((sideK i k).cells=[.int .i64 i,.int .i64 ax,.bool hb]):=⟨by
     rw [hsk.h,← hhb];simp;omega⟩
    clear hhb;have hne:id≠H.nx:=by omega
    refine wp_loopF [(2,3),(6,6),(11,11),(45,83)] (fun (s:List Box) env H2=>∃ c:Bool,env 6=.pure (.bool c)∧H.nx < H2.nx∧H2.get id=.cells true (rowOf Box.cells s)∧H2.get H.nx=.cells true [.pure (.int .i64 i),.pure (.int .i64 ax),.pure (.bool hb)]∧Hide (WJ ⟨bs,fs⟩ L0 s c i k)) sizeL L ?_ ?_ ?_ ?_
    ·decide
    ·exact ⟨c,by simp [g6],by simp,by rw [get_set_ne hne,get_alloc_lt hid];exact hg,by simp,hWJ⟩
    ·have:=nar_size okH.h (L:=L) hWJ.h.wj.hold.sub;simp only [loopFuel];omega
    have g35':=g35;clear g35 g6 hg hLl hWJ q1 q2 u1;rintro s env H2 ⟨c,g6,hnx2,hg,hgs,hJ⟩;have hls:s.length=bs.xs.length:=hJ.h.wj.hold.sub.1;have his:i < s.length:=by omega
    have hid2:id < H2.nx:=nx_of_get hg;obtain ⟨s1,hs1,hf1⟩:=row_sl (n:=10) (f:=Box.cells) (sz:=4) (fun _=>rfl) hg hls;have c1:=e113 (n+4) s1 i k (by rw [hs1];exact his) hk4 (by rw [hs1];omega);rw [hs1,hsk.h] at c1;have hsw:=hJ.h.wj.hold.wf;have hss:=hJ.h.wj.hold.sub;have c2:=hBad.h (Sl.of (aboutL fs.xs (natsL fs.xs.length) i)) (Sl.mk false (stripL s i k)) (by rw [Sl.xs_of];exact about_ok _ _) (by rw [Sl.xs_of];have:=about_len fs.xs i;omega) (by rw [Sl.xs_mk];exact (stripL_sub hsw his k).trans hss) (by rw [Sl.xs_mk];exact stripL_wf hsw his k);rw [Sl.xs_of,Sl.xs_mk] at c2;have c3:=fun H=>call_pureC (G:=G) (n:=n+6) (H:=H) (caps:=[]) (ps:=[fs.pv Fact.cells 9,(Sl.of (aboutL fs.xs (natsL fs.xs.length) i)).pv intF 1,(Sl.mk false (stripL s i k)).pv Box.cells 4]) sh91 c2;simp only [List.map_cons,List.map_nil] at c3;have hvv:=valid_iff.1 (valid_sub okH.h hss hsw _ (List.getElem_mem his));have hlsH:=Hide.mk hls;have p1:=putIn_xlo his;have p2:=putIn_xhi his;have p3:=putIn_ylo his;have p4:=putIn_yhi his;have r3:=loadIn_rowF (own:=true) (f:=Box.cells) (sz:=4) (l:=s) (i:=i) (size:=1) (off:=3) (fun _=>rfl) his (by decide);have e3:i*4+2+1=i*4+3:=rfl;have v1:IntKind.i64.wrap (s[i].x.lo+1)=s[i].x.lo+1:=wrap64 (by omega) (by omega);have v2:IntKind.i64.wrap (s[i].x.hi - 1)=s[i].x.hi - 1:=wrap64 (by omega) (by omega);have v3:IntKind.i64.wrap (s[i].y.lo+1)=s[i].y.lo+1:=wrap64 (by omega) (by omega);have v4:IntKind.i64.wrap (s[i].y.hi - 1)=s[i].y.hi - 1:=wrap64 (by omega) (by omega);clear c2 hsw hss hvv hls hs1;have hba:=Hide.mk (bad_about (fs:=fs.xs) (l:=stripL s i k) (i:=i));generalize hBv:badI fs.xs (stripL s i k) (aboutL fs.xs (natsL fs.xs.length) i)=B2 at *;clear hBv;(repeat' first|simp [*,initEnv]|(apply wpIf_two<;>intro _ h<;>try simp [-Nat.le_zero_eq] at h))
    refine wpE_own (caps:=[]) (ps:=[_,_]) (by decide) (.cons hf1 (.cons (.pure _) .nil)) c1 (cold_boxes _) ?_
    clear c1 hf1
    by_cases hB2:0≤B2
    case neg =>
     have hPx:=Hide.mk (hJ.h.exit okH.h his hk4 (fun h=>hB2 (hba.h.2 h)));clear hba hJ p1 p2 p3 p4 r3;(repeat' first|simp [*,initEnv]|(apply wpIf_two<;>intro _ h<;>try simp [-Nat.le_zero_eq] at h))
     refine ⟨k+1,by omega,by omega,by omega,?_⟩
     cases c with
     | false=>exact .inl ⟨rfl,s,rfl,hPx⟩
     | true=>exact .inr ⟨rfl,s,rfl,hPx⟩
    case pos =>
     have hfl:=hba.h.1 hB2;clear hba;have hk4':k=0∨k=1∨k=2∨k=3:=by omega
     rcases hk4' with rfl|rfl|rfl|rfl
     ·have hx0:ax=0:=haxH.h;have hb0:hb=false:=by rw [← hhbH.h,hhgH.h];rfl
      subst hx0;subst hb0;have hW:=fun ht:¬ s[i].x.lo=s[i].x.hi=>hJ.h.step okH.h his (show 0 < 4 by omega) hfl (fun e=>ht (by simpa [thinB] using e));have hE:=fun ht:s[i].x.lo=s[i].x.hi=>hJ.h.wj.empty okH.h his (show 0 < 4 by omega) hfl (by simpa [thinB] using ht);rw [cutL_at his] at hW;have hW:=Hide.mk hW;have hE:=Hide.mk hE;have hlenS:=Hide.mk hJ.h.wj.hold.sub.1;clear hJ hfl
      by_cases hth:s[i].x.lo=s[i].x.hi
      ·have hrn:r=none:=hrH.h.unique (hE.h hth);subst hrn;clear hW hE hrH;(repeat' first|simp [*,initEnv]|(apply wpIf_two<;>intro _ h<;>try simp [-Nat.le_zero_eq] at h))
      ·obtain ⟨hW1,hW2⟩:=hW.h hth;have hW1:=Hide.mk hW1;have hW2:=Hide.mk hW2;clear hW hE;(repeat' first|simp [*,initEnv]|(apply wpIf_two<;>intro _ h<;>try simp [-Nat.le_zero_eq] at h))
       refine ⟨_,hW2.h,rfl,?_,hW1⟩
       rw [get_set_ne (Ne.symm hne)]
       simpa using hgs
     ·have hx0:ax=0:=haxH.h;have hb0:hb=true:=by rw [← hhbH.h,hhgH.h];rfl
      subst hx0;subst hb0;have hW:=fun ht:¬ s[i].x.lo=s[i].x.hi=>hJ.h.step okH.h his (show 1 < 4 by omega) hfl (fun e=>ht (by simpa [thinB] using e));have hE:=fun ht:s[i].x.lo=s[i].x.hi=>hJ.h.wj.empty okH.h his (show 1 < 4 by omega) hfl (by simpa [thinB] using ht);rw [cutL_at his] at hW;have hW:=Hide.mk hW;have hE:=Hide.mk hE;have hlenS:=Hide.mk hJ.h.wj.hold.sub.1;clear hJ hfl
      by_cases hth:s[i].x.lo=s[i].x.hi
      ·have hrn:r=none:=hrH.h.unique (hE.h hth);subst hrn;clear hW hE hrH;(repeat' first|simp [*,initEnv]|(apply wpIf_two<;>intro _ h<;>try simp [-Nat.le_zero_eq] at h))
      ·obtain ⟨hW1,hW2⟩:=hW.h hth;have hW1:=Hide.mk hW1;have hW2:=Hide.mk hW2;clear hW hE;(repeat' first|simp [*,initEnv]|(apply wpIf_two<;>intro _ h<;>try simp [-Nat.le_zero_eq] at h))
       refine ⟨_,hW2.h,rfl,?_,hW1⟩
       rw [get_set_ne (Ne.symm hne)]
       simpa using hgs
     ·have hx0:ax=1:=haxH.h;have hb0:hb=false:=by rw [← hhbH.h,hhgH.h];rfl
      subst hx0;subst hb0;have hW:=fun ht:¬ s[i].y.lo=s[i].y.hi=>hJ.h.step okH.h his (show 2 < 4 by omega) hfl (fun e=>ht (by simpa [thinB] using e));have hE:=fun ht:s[i].y.lo=s[i].y.hi=>hJ.h.wj.empty okH.h his (show 2 < 4 by omega) hfl (by simpa [thinB] using ht);rw [cutL_at his] at hW;have hW:=Hide.mk hW;have hE:=Hide.mk hE;have hlenS:=Hide.mk hJ.h.wj.hold.sub.1;clear hJ hfl
      by_cases hth:s[i].y.lo=s[i].y.hi
      ·have hrn:r=none:=hrH.h.unique (hE.h hth);subst hrn;clear hW hE hrH;(repeat' first|simp [*,initEnv]|(apply wpIf_two<;>intro _ h<;>try simp [-Nat.le_zero_eq] at h))
      ·obtain ⟨hW1,hW2⟩:=hW.h hth;have hW1:=Hide.mk hW1;have hW2:=Hide.mk hW2;clear hW hE;(repeat' first|simp [*,initEnv]|(apply wpIf_two<;>intro _ h<;>try simp [-Nat.le_zero_eq] at h))
       refine ⟨_,hW2.h,rfl,?_,hW1⟩
       rw [get_set_ne (Ne.symm hne)]
       simpa using hgs
     ·have hx0:ax=1:=haxH.h;have hb0:hb=true:=by rw [← hhbH.h,hhgH.h];rfl
      subst hx0;subst hb0;have hW:=fun ht:¬ s[i].y.lo=s[i].y.hi=>hJ.h.step okH.h his (show 3 < 4 by omega) hfl (fun e=>ht (by simpa [thinB] using e));have hE:=fun ht:s[i].y.lo=s[i].y.hi=>hJ.h.wj.empty okH.h his (show 3 < 4 by omega) hfl (by simpa [thinB] using ht);rw [cutL_at his] at hW;have hW:=Hide.mk hW;have hE:=Hide.mk hE;have hlenS:=Hide.mk hJ.h.wj.hold.sub.1;clear hJ hfl
      by_cases hth:s[i].y.lo=s[i].y.hi
      ·have hrn:r=none:=hrH.h.unique (hE.h hth);subst hrn;clear hW hE hrH;(repeat' first|simp [*,initEnv]|(apply wpIf_two<;>intro _ h<;>try simp [-Nat.le_zero_eq] at h))
      ·obtain ⟨hW1,hW2⟩:=hW.h hth;have hW1:=Hide.mk hW1;have hW2:=Hide.mk hW2;clear hW hE;(repeat' first|simp [*,initEnv]|(apply wpIf_two<;>intro _ h<;>try simp [-Nat.le_zero_eq] at h))
       refine ⟨_,hW2.h,rfl,?_,hW1⟩
       rw [get_set_ne (Ne.symm hne)]
       simpa using hgs
   ·have hkk:k=4:=by omega
    subst hkk;have hP2:=Hide.mk hP.h.nextI;clear hP;(repeat' first|simp [*,initEnv]|(apply wpIf_two<;>intro _ h<;>try simp [-Nat.le_zero_eq] at h))
    refine ⟨i+1,by omega,rfl,by omega,?_⟩
    cases c with
    | false=>exact .inl ⟨rfl,L,rfl,hP2⟩
    | true=>exact .inr ⟨rfl,L,rfl,hP2⟩
  ·have hiN:i=bs.xs.length:=by omega
   subst hiN;have hP2:=hP.h;rw [← hLl.h] at hP2;have hst:=Hide.mk hP2.done;have hns:=Hide.mk hP2.nar;have hle:=Hide.mk hP2.less;have hsm:=Hide.mk hP2.same;clear hP hP2;(repeat' first|simp [*,initEnv]|(apply wpIf_two<;>intro _ h<;>try simp [-Nat.le_zero_eq] at h))
   refine ⟨L,?_⟩
   cases c with
   | false=>exact .inl ⟨by rw [(hsm.h rfl).1];omega,rfl,rfl,⟨hns.h,hst.h rfl⟩⟩
   | true=>exact .inr ⟨hle.h rfl,rfl,rfl,⟨hns.h⟩⟩
def optPV:Option (List Pt)→PV
 | none=>.nils
 | some c=>(Sl.mk false c).pv Pt.cells 2
def optF (o:Option (List Pt)):List PV:=[optPV o]
theorem cold_opt (c:List Pt):((Sl.mk false c).pv Pt.cells 2).cold=true:=by
 simp [Sl.pv,PV.cold,PV.coldN,Pt.cells]
theorem point_cl {H:Heap} {pid m:Nat} {c:List Pt} (hp:H.get pid=.cells true (rowOf Pt.cells c)) (hc:c.length=m):FrzL H true depthF ([.row pid 2 0 m]++([]:List PV).map .pure) [(Sl.mk true c).pv Pt.cells 2]:=by
 subst hc;have hch:∀ l:List Pt,chunks 2 l.length ((l.map Pt.cells).flatten)=l.map Pt.cells:=by
  intro l
  induction l with
  | nil=>rfl
  | cons a l ih=>simp only [List.length_cons,chunks,List.map_cons,List.flatten_cons];rw [List.take_left' (by rfl),List.drop_left' (by rfl),ih]
 refine .cons ?_ .nil
 obtain ⟨s,hs,hf⟩:=row_sl (n:=10) (f:=Pt.cells) (sz:=2) (fun _=>rfl) hp rfl;obtain ⟨ids,hids⟩:=hf
 refine ⟨ids,hids.trans ?_⟩
 cases s with
 | nil =>
  exfalso;have h0:c=[]:=hs.symm;subst h0;unfold freeze at hids;simp [hp,rowOf_nil,freezeL,Sl.pv] at hids
 | mk h xs =>
  have hx:xs=c:=hs;subst hx
  cases h with
  | true=>rfl
  | false =>
   exfalso;unfold freeze at hids;simp only [hp] at hids
   split at hids
   ·split at hids
    ·simp [Sl.pv] at hids
    ·simp at hids
   ·simp at hids
def seenC (part:List Nat) (eid:Nat) (A:Acc):List AV:=[.pure (partPV part),.pure (.int .i64 A.n),.row eid 4 0 part.length,.pure (optPV A.first)]
def okC (m:Nat) (c:List Pt):Prop:=c.length=m∧∀ x∈c,okP x
theorem sh89:G.shared 89=false:=by decide
theorem e89 (n:Nat) (b:Box):callP G (n+1) 89 [.agg b.cells]=some (.func 128 [.ptr false b.cells 0]):=by
 refine callP_of (ext_none _) rfl g89 rfl ?_
 (repeat' first|simp [*,initEnv,c89,Box.cells,Span.cells]|(apply wpIf_two<;>intro _ h<;>try simp [-Nat.le_zero_eq] at h))
structure ChI where
 sid:Nat
 eid:Nat
 sb:Nat
 pid:Nat
 pb:Nat
 hid:Nat
 hb:Nat
 mid:Nat
 mb:Nat
 cb:Nat
def capsC (I:ChI) (p:Problem) (l:Sl Box) (part:List Nat):List AV:=[.pure (.ptr false [partPV part] 0),.box I.sb 0,.box I.pb 0,.pure (.ptr false [l.pv Box.cells 4] 0),.box I.hb 0,.pure (.ptr false p.cells 0),.box I.mb 0,.box I.cb 0]
structure ChFix (I:ChI) (p:Problem) (l:Sl Box) (part:List Nat) (ml:List (List Int)) (H:Heap):Prop where
 ord:I.eid < I.sid∧I.sid < I.sb∧I.sb < I.hid∧I.hid < I.hb∧I.hb < I.mb∧I.mb < I.mid∧I.mid < I.pid∧I.pid < I.pb∧I.pb < I.cb
 sb:H.get I.sb=.cells true [.box I.sid 0]
 pb:H.get I.pb=.cells true [.row I.pid 2 0 part.length]
 hb:H.get I.hb=.cells true [.row I.hid 4 0 l.xs.length]
 mb:H.get I.mb=.cells true [.row I.mid 1 0 part.length]
 mid:∃ xs:List AV,H.get I.mid=.cells true xs∧xs.length=part.length∧∀ k (h:k < xs.length),OwnV intF 1 H xs[k] ml[k]! ∧ ∀ id,Names xs[k] id→I.mb < id∧id < I.pid
 cb:H.get I.cb=.cells true [.func 151 (capsC I p l part)]
structure Keep4 (I:ChI) (H H':Heap):Prop where
 nx:H.nx≤H'.nx
 get:∀ j,j < H.nx→j≠I.sid→j≠I.eid→j≠I.pid→j≠I.hid→H'.get j=H.get j
theorem Keep4.refl (I:ChI) (H:Heap):Keep4 I H H:=⟨Nat.le_refl _,fun _ _ _ _ _ _=>rfl⟩
theorem Keep4.trans {I:ChI} {H H1 H2:Heap} (h:Keep4 I H H1) (h':Keep4 I H1 H2):Keep4 I H H2 :=
 ⟨Nat.le_trans h.nx h'.nx,fun j a b c d e=>(h'.get j (by have:=h.nx;omega) b c d e).trans (h.get j a b c d e)⟩
section
variable {I:ChI} {p:Problem} {l:Sl Box} {part:List Nat} {ml:List (List Int)} {H H':Heap}
theorem ChFix.lt (h:ChFix I p l part ml H):I.cb < H.nx:=nx_of_get h.cb
theorem ChFix.keep (h:ChFix I p l part ml H) (k:Keep4 I H H'):ChFix I p l part ml H':=by
 have hlt:=h.lt;have o:=h.ord;have g:∀ j,j < H.nx→j≠I.sid→j≠I.eid→j≠I.pid→j≠I.hid→H'.get j=H.get j:=k.get
 refine ⟨o,?_,?_,?_,?_,?_,?_⟩
 ·rw [g _ (by omega) (by omega) (by omega) (by omega) (by omega)];exact h.sb
 ·rw [g _ (by omega) (by omega) (by omega) (by omega) (by omega)];exact h.pb
 ·rw [g _ (by omega) (by omega) (by omega) (by omega) (by omega)];exact h.hb
 ·rw [g _ (by omega) (by omega) (by omega) (by omega) (by omega)];exact h.mb
 ·obtain ⟨xs,h1,h2,h3⟩:=h.mid
  refine ⟨xs,?_,h2,fun k hk=>?_⟩
  ·rw [g _ (by omega) (by omega) (by omega) (by omega) (by omega)];exact h1
  ·obtain ⟨a,b⟩:=h3 k hk
   refine ⟨a.keep fun id ⟨m,hm⟩=>?_,b⟩
   have:=b id ⟨_,_,_,hm⟩;exact g _ (by omega) (by omega) (by omega) (by omega) (by omega)
 ·rw [g _ (by omega) (by omega) (by omega) (by omega) (by omega)];exact h.cb
end
theorem wp_places {n:Nat} {b:Box} (hb:validB b=true) {env:Env} {H:Heap} {f:Opnd} {params:List Nat} {assign body:VCode} {Q:VExit→Env→Heap→Prop} {u} (hf:f.eval env=.pure (.func 128 [.ptr false b.cells 0])) (hp:params.length=1)
  (J:Nat→Nat→Heap→Prop)
  (hstab:∀ i k H1 H2,J i k H1→H.nx < H1.nx→H2.nx=H1.nx→(∀ j,j≠H.nx→H2.get j=H1.get j)→J i k H2)
  (h0:∀ H1,H1.nx=H.nx+1→(∀ j,j < H.nx→H1.get j=H.get j)→J 0 0 H1)
  (hrow:∀ i H1,J i (b.y.hi - b.y.lo+1).toNat H1→J (i+1) 0 H1)
  (hbody:∀ i k H1,i < (b.x.hi - b.x.lo+1).toNat→k < (b.y.hi - b.y.lo+1).toNat→J i k H1→H.nx < H1.nx →
   wp (calleeOf G n) assign ((params.zip [.pure (.agg [.int .i64 (b.x.lo+i),.int .i64 (b.y.lo+k)])]).foldl (fun e x=>upd e x.1 x.2) env) H1 (fun x env2 H2=>x=.normal∧H1.nx≤H2.nx∧(∀ j,j < H1.nx→H2.get j=H1.get j) ∧
    ∀ Hb,Hb.nx=H2.nx→(∀ j,j≠H.nx→Hb.get j=H2.get j) →
     wp (calleeOf G n) body env2 Hb (fun x _ H3=>x=.normal∧H3.get H.nx=Hb.get H.nx∧Hb.nx≤H3.nx∧J i (k+1) H3) .mk) .mk)
  (hend:∀ H',J (b.x.hi - b.x.lo+1).toNat 0 H'→Q .normal env H') :
  wp (calleeOf G (n+2)) (.rangeFunc f params assign body) env H Q u:=by
 refine wp_rangeFunc hf ?_
 obtain ⟨v,H2,h1,h2,h3⟩:=places_call n b hb (H.alloc (.loop { env,params,assign,body,state:=.ready,pending:=.normal })) H.nx { env,params,assign,body,state:=.ready,pending:=.normal } rfl rfl hp (get_alloc_nx _) (fun i k H1=>H.nx < H1.nx∧J i k H1)
  ⟨by simp,h0 _ (by simp) fun j hj=>get_alloc_lt hj⟩ (fun i H1 h=>⟨h.1,hrow i H1 h.2⟩)
  (fun i k H1 hi hk hJ hgl=>by
   refine (hbody i k H1 hi hk hJ.2 hJ.1).mono ?_
   rintro x env2 H2 ⟨rfl,hx2,hs2,hw⟩;have hgl2:H2.get H.nx=_:=(hs2 _ hJ.1).trans hgl
   refine ⟨rfl,hgl2,?_⟩
   have hid:=lt_of_get (H:=H2) (i:=H.nx) (by rw [hgl2];simp)
   refine (hw (H2.set H.nx (.loop { env,params,assign,body,state:=.busy,pending:=.normal })) rfl (fun j hj=>get_set_ne hj)).mono ?_
   rintro x env3 H3 ⟨rfl,g1,g3,g4⟩;have hlt:H.nx < H3.nx:=by simp at g3;omega
   exact ⟨rfl,by rw [g1,get_set_own hid],by simpa using hlt,hstab _ _ _ _ g4 hlt (by simp) fun j hj=>get_set_ne hj⟩)
 exact ⟨v,H2,h1,h2,hend _ (hstab _ _ _ _ h3.2 h3.1 (by simp) fun j hj=>get_set_ne hj)⟩
open Classical in
noncomputable def idxI (part:List Nat) (x:Int):Int:=if x∈intsN part then ((intsN part).idxOf x:Nat) else -1
noncomputable def lastI (part:List Nat) (f:Fact):Int:=if f.kind=2 then max (max (idxI part f.a) (idxI part f.b)) (idxI part f.c) else max (idxI part f.a) (idxI part f.b)
open Classical in
noncomputable def mineB (part:List Nat) (k:Nat) (f:Fact):Bool:=decide (lastI part f=k)&&decide (f.a∈intsN part)
noncomputable def mineL (fs:List Fact) (part:List Nat) (k:Nat):List Int:=(natsL fs.length).filter fun i=>mineB part k fs[i.toNat]!
structure SeenD where
 part:List Nat
 n:Nat
 ends:List (Option (List Pt))
 first:Option (List Pt)
def SeenD.cells (s:SeenD):List PV:=[partPV s.part,.int .i64 s.n,.slice false 4 (chunks 4 s.part.length (s.ends.map optPV)),optPV s.first]
def SeenD.pv (s:SeenD):PV:=.ptr false s.cells 0
def oneD (b:Box) (part:List Nat):SeenD:=⟨part,(areaB b).toNat,[some [⟨b.x.lo,b.y.lo⟩],some [⟨b.x.hi,b.y.lo⟩],some [⟨b.x.lo,b.y.lo⟩],some [⟨b.x.lo,b.y.hi⟩]],some [⟨b.x.lo,b.y.lo⟩]⟩
def manyD (facts:List Fact) (l:List Box) (part:List Nat):SeenD:=⟨part,(solsC facts l part).length,(List.range (4*part.length)).map fun j=>bestL (keyC j) (solsC facts l part),(solsC facts l part).head?⟩
def lookD (facts:List Fact) (l:List Box) (part:List Nat):SeenD:=if part.length=1 then oneD l[part[0]!]! part else manyD facts l part
structure SeenOk (facts:List Fact) (l:List Box) (part:List Nat) (s:SeenD):Prop where
 same:s.part=part
 n:s.n=(solsC facts l part).length
 len:s.ends.length=4*part.length
 none:s.n=0→s.first=Option.none
 first:s.n≠0→∃ c∈solsC facts l part,s.first=some c
 ends:s.n≠0→∀ j (h:j < s.ends.length),∃ c∈solsC facts l part,s.ends[j]=some c∧∀ c'∈solsC facts l part,keyC j c≤keyC j c'
structure MineJ (fs:List Fact) (part:List Nat) (mb:Nat) (H:Heap) (V:AV) (k:Nat):Prop where
 low:∀ id,Names V id→mb < id
 ex:∃ xs:List AV,RowA H V xs∧xs.length=k∧xs.all AV.one=true∧∀ j (h:j < xs.length),OwnV intF 1 H xs[j] (mineL fs part j)∧∀ id,Names xs[j] id→mb < id∧¬ Names V id
theorem MineJ.nil (fs:List Fact) (part:List Nat) (mb:Nat) (H:Heap):MineJ fs part mb H (.pure .nils) 0 :=
 ⟨fun id ⟨_,_,_,h⟩=>by simp at h,[],RowA.nil,rfl,rfl,fun j h=>by simp at h⟩
theorem MineJ.keep {fs:List Fact} {part:List Nat} {mb:Nat} {H H':Heap} {V:AV} {k:Nat} (h:MineJ fs part mb H V k) (hg:∀ id,mb < id→id < H.nx→H'.get id=H.get id):MineJ fs part mb H' V k:=by
 obtain ⟨xs,h1,h2,h3,h4⟩:=h.ex
 refine ⟨h.low,xs,h1.keep fun id hn=>hg id (h.low id hn) (h1.names_lt hn),h2,h3,fun j hj=>?_⟩
 obtain ⟨a,b⟩:=h4 j hj;exact ⟨a.keep fun id ⟨n,hn⟩=>hg id (b id ⟨_,_,_,hn⟩).1 (a.names_lt ⟨_,_,_,hn⟩),b⟩
theorem MineJ.lt {fs:List Fact} {part:List Nat} {mb:Nat} {H:Heap} {V:AV} {k:Nat} (h:MineJ fs part mb H V k) {id:Nat} (hn:Names V id):id < H.nx:=by
 obtain ⟨xs,h1,_⟩:=h.ex;exact h1.names_lt hn
structure LkB (l:Sl Box) (part:List Nat) (hid hb:Nat) (H:Heap):Prop where
 e:H.get 0=.cells true (rowOf optF (List.replicate (4*part.length) none))
 s:H.get 1=.cells true (seenC part 0 (accOf (4*part.length)))
 sb:H.get 2=.cells true [.box 1 0]
 h:H.get hid=.cells true (rowOf Box.cells l.xs)
 hb:H.get hb=.cells true [.row hid 4 0 l.xs.length]
theorem LkB.keep {l:Sl Box} {part:List Nat} {hid hb mb:Nat} {H H':Heap} (h:LkB l part hid hb H) (o:2 < hid∧hid < hb∧hb < mb) (hg:∀ c,c < mb→H'.get c=H.get c):LkB l part hid hb H' :=
 ⟨by rw [hg _ (by omega)];exact h.e,by rw [hg _ (by omega)];exact h.s,by rw [hg _ (by omega)];exact h.sb,by rw [hg _ (by omega)];exact h.h,by rw [hg _ (by omega)];exact h.hb⟩
@[simp] theorem funcV_mix (f:Nat) (a:PV) (i o:Nat) (l:List AV):funcV f (.pure a::.box i o::l)=.func f (.pure a::.box i o::l):=rfl
@[simp] theorem cells_funcA (f:Nat) (l:List AV):AV.cells (.func f l)=[.func f l]:=rfl
@[simp] theorem aone_funcA (f:Nat) (l:List AV):AV.one (.func f l)=true:=rfl
theorem rep_pts (m:Nat):(List.replicate m (([PV.int .i64 0,PV.int .i64 0]:List PV).map AV.pure)).flatten=rowOf Pt.cells (List.replicate m ⟨0,0⟩):=by
 simp [rowOf]
theorem run_of {X:Option (AV×Heap)} {v:AV} {P:Heap→Prop} {k:AV→Heap→Prop} (h:∃ H',X=some (v,H')∧P H') (h2:∀ H',P H'→k v H'):∃ v H',X=some (v,H')∧k v H':=by
 obtain ⟨H',a,b⟩:=h;exact ⟨v,H',a,h2 H' b⟩
end Go.Proofs.YtmghcpdpilgplaaGreat.Vm
