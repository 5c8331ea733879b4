/- Narrowing: the plain facts that the walk of narrow uses. Narrowing: what the program's narrow computes. The leaf of choose (look$1): all points of a part are chosen; what is gathered. choose (look$1): what it gathers, by induction on the points that are left. What look is to return, and the lists of facts that it makes. Plain Lean. look: what the program sees of a part, walked. -/
import Derived.Test.YtmmhnfghklppiaaGreatWk17
import Derived.Test.YtmmhnfghklppiaaGreatWk19
import Derived.Test.YtmmhnfghklppiaaGreatWk22
import Derived.Test.YtmmhnfghklppiaaGreatWk23
import Derived.Test.YtmmhnfghklppiaaGreatWk21
namespace Go.Proofs.YtmmhnfghklppiaaGreat.Vm
open Go
set_option linter.unusedSimpArgs false
set_option linter.unusedVariables false
set_option maxHeartbeats 4000000
def zX (f:Fact) (l:List Box):Prop:=zJ f l=true
theorem zij {f:Fact} {n:Nat} (h:qX f n=true):Named f n:=by
 have h':=(CZ f n).1 h
 refine ⟨by omega,by omega,?_⟩
 by_cases hk:f.kind=2
 .have:=h'.2.2.2.2.2.1 hk;omega
 .have:=h'.2.2.2.2.2.2 hk;omega
theorem KE {p:Problem} (ok:ae p):xI zX p.facts.xs p.boxes.xs.length:=fun f hf l m hm hw hs hl h =>
 zn2 (by rw [hm];exact zij (ok.fact f hf)) hs hl hw h
theorem vI {p:Problem} (ok:ae p):Wf p.boxes.xs:=fun b hb=>by
 have:=aF.1 (ok.valid b hb);exact ⟨by omega,by omega⟩
theorem KF {p:Problem} (ok:ae p) {l:List Box} (hs:aP l p.boxes.xs) (hw:Wf l):∀ b∈l,o7 b=true:=by
 intro b hb;obtain ⟨i,hi,rfl⟩:=List.mem_iff_getElem.1 hb;have bR:i < p.boxes.xs.length:=by rw [<- hs.1];exact hi
 have h1:=hs.2 i hi bR;have h2:=aF.1 (ok.valid _ (List.getElem_mem bR));have h3:=hw _ (List.getElem_mem hi);unfold fH fG at h1;unfold jl at h3;rw [aF];omega
theorem QU {p:Problem} (ok:ae p) {l:List Box} (hs:aP l p.boxes.xs) (hw:Wf l) {f:Fact} (hf:f∈p.facts.xs):ui f l:=zkY (ok.fine hs.1 (KF ok hs hw) hf)
theorem zgV {l:List Box} (hw:Wf l) {i:Nat} (hi:i < l.length) (k:Nat):Wf (jW l i k):=by
 rw [CR hi];exact hw.set (QI (hw _ (List.getElem_mem hi)) k)
theorem zfX {l:List Box} (hw:Wf l) {i:Nat} (hi:i < l.length) (k:Nat):aP (jW l i k) l:=by
 rw [CR hi];have:=(aP.refl l).set (i:=i) (zj6 (hw _ (List.getElem_mem hi)) k);rwa [List.set_getElem_self] at this
theorem jy {n:Nat} {j:Int}:j∈jS n↔∃ k:Nat,k < n/\j=k:=by
 simp only [jS,List.mem_map,List.mem_range]
 constructor
 .rintro ⟨k,h,rfl⟩;exact ⟨k,h,rfl⟩
 .rintro ⟨k,h,rfl⟩;exact ⟨k,h,rfl⟩
theorem M3 (fs:List Fact):uX fs (jS fs.length):=fun i hi=>by
 obtain ⟨k,h,rfl⟩:=jy.1 hi;omega
theorem zh2 (fs:List Fact) (i:Int):uX fs (rT fs (jS fs.length) i):=fun j hj=>M3 fs j (List.mem_filter.1 hj).1
theorem zjH (fs:List Fact) (i:Int):(rT fs (jS fs.length) i).length<=fs.length:=by
 have:=List.length_filter_le (fun k=>rE fs[k.toNat]! i) (jS fs.length);rwa [Js] at this
theorem zs1 {fs:List Fact} {l:List Box}:0<=fP fs l (jS fs.length)↔∃ f∈fs,zJ f l=true:=by
 rw [TR fun i hi=>(M3 fs i hi).1]
 constructor
 .rintro ⟨j,hj,h⟩;obtain ⟨k,hk,rfl⟩:=jy.1 hj;rw [show ((k:Int)).toNat=k by simp,getElem!_pos fs k hk] at h;exact ⟨_,List.getElem_mem hk,h⟩
 .rintro ⟨f,hf,h⟩;obtain ⟨k,hk,rfl⟩:=List.mem_iff_getElem.1 hf;exact ⟨k,jy.2 ⟨k,hk,rfl⟩,by rw [show ((k:Int)).toNat=k by simp,getElem!_pos fs k hk];exact h⟩
theorem rU {fs:List Fact} {l:List Box} {i:Int}:0<=fP fs l (rT fs (jS fs.length) i)↔∃ f∈fs,rE f i=true/\zJ f l=true:=by
 rw [TR fun j hj=>(zh2 fs i j hj).1];unfold rT;simp only [List.mem_filter]
 constructor
 .rintro ⟨j,⟨hj,hn⟩,h⟩;obtain ⟨k,hk,rfl⟩:=jy.1 hj;rw [show ((k:Int)).toNat=k by simp,getElem!_pos fs k hk] at h hn;exact ⟨_,List.getElem_mem hk,hn,h⟩
 .rintro ⟨f,hf,hn,h⟩;obtain ⟨k,hk,rfl⟩:=List.mem_iff_getElem.1 hf;exact ⟨k,⟨jy.2 ⟨k,hk,rfl⟩,by rw [show ((k:Int)).toNat=k by simp,getElem!_pos fs k hk];exact hn⟩,by rw [show ((k:Int)).toNat=k by simp,getElem!_pos fs k hk];exact h⟩
theorem zg6 {p:Problem} (ok:ae p) {f:Fact} (hf:f∈p.facts.xs) {i:Nat} (hn:rE f i=false) {l:List Box} (hi:i < l.length) (b:Box):zJ f (l.set i b)=zJ f l:=by
 have OI:=(CZ f _).1 (ok.fact f hf);unfold rE at hn;simp only [Bool.or_eq_false_iff,Bool.and_eq_false_iff,decide_eq_false_iff_not] at hn;obtain ⟨ha,hb,hc⟩:=hn;have g:∀ j:Int,0<=j->j≠i->(l.set i b)[j.toNat]! = l[j.toNat]! := fun j h0 hj=>by
  rw [getElem!_def,getElem!_def,List.getElem?_set_ne (by omega)]
 refine Jp ⟨g _ (by omega) ha,g _ (by omega) hb,fun hk=>g _ ?_ ?_⟩
 .have:=OI.2.2.2.2.2.1 hk;omega
 .rcases hc with h|h
  .exact absurd hk h
  .exact h
section
variable {p:Problem} {L L0:List Box} {i k:Nat} {c:Bool}
structure Db (p:Problem) (L:List Box):Prop where
 hold:Holds' zX p.facts.xs p.boxes.xs L
 none:∀ f∈p.facts.xs,zJ f L=false
structure nD (p:Problem) (i:Nat) (L:List Box):Prop where
 hold:Holds' zX p.facts.xs p.boxes.xs L
 others:∀ f∈p.facts.xs,rE f i=false->zJ f L=false
theorem Db.while (h:Db p L) (i:Nat):nD p i L:=⟨h.hold,fun f hf _=>h.none f hf⟩
theorem nD.exit (ok:ae p) (h:nD p i L) (hi:i < L.length) (hb:¬ ∃ f∈p.facts.xs,rE f i=true/\zJ f (jW L i k)=true):Db p L/\∀ f∈p.facts.xs,zJ f (jW L i k)=false:=by
 have key:∀ f∈p.facts.xs,zJ f (jW L i k)=false:=fun f hf=>by
  cases hn:rE f i with
  | true =>
   cases hs:zJ f (jW L i k) with
   | true=>exact absurd ⟨f,hf,hn,hs⟩ hb
   | false=>rfl
  | false=>rw [CR hi,zg6 ok hf hn hi];exact h.others f hf hn
 refine ⟨⟨h.hold,fun f hf=>?_⟩,key⟩
 cases hs:zJ f L with
 | false=>rfl
 | true =>
  have:=KE ok f hf (jW L i k) L h.hold.sub.1 h.hold.wf (zfX h.hold.wf hi k) (zgV h.hold.wf hi k) hs;unfold zX at this;rw [key f hf] at this;simp at this
theorem nD.step (ok:ae p) (h:nD p i L) (hi:i < L.length) (hk:k < 4) (hb:∃ f∈p.facts.xs,rE f i=true/\zJ f (jW L i k)=true) (ht:¬ nS L[i] k):nD p i (qV L i k)/\uS (qV L i k) < uS L:=by
 obtain ⟨f,hf,_,hs⟩:=hb
 refine ⟨⟨h.hold.cut (KE ok) hi hk hf hs ht,fun g hg hn=>?_⟩,WI h.hold.wf hi hk ht⟩
 rw [Jn hi,zg6 ok hg hn hi];exact h.others g hg hn
theorem nD.empty (ok:ae p) (h:nD p i L) (hi:i < L.length) (hk:k < 4) (hb:∃ f∈p.facts.xs,rE f i=true/\zJ f (jW L i k)=true) (ht:nS L[i] k):bM zX p.facts.xs p.boxes.xs none:=by
 obtain ⟨f,hf,_,hs⟩:=hb;exact h.hold.empty (KE ok) hi hk hf hs ht
def znO (p:Problem) (L:List Box) (i k:Nat):Prop:=∀ i' k',k' < 4->(i' < i\/(i'=i/\k' < k))->i' < L.length->∀ f∈p.facts.xs,zJ f (jW L i' k')=false
structure PJ (p:Problem) (L0 L:List Box) (c:Bool) (i k:Nat):Prop where
 Fq:Db p L
 same:c=false->L=L0/\znO p L i k
 less:c=true->uS L < uS L0
structure WJ (p:Problem) (L0 L:List Box) (c:Bool) (i k:Nat):Prop where
 wj:nD p i L
 same:c=false->L=L0/\znO p L i k
 less:c=true->uS L < uS L0
theorem PJ.start (h:Db p L):PJ p L L false 0 0:=⟨h,fun _=>⟨rfl,fun i' k' _ h=>by omega⟩,fun h=>by cases h⟩
theorem PJ.while (h:PJ p L0 L c i k):WJ p L0 L c i k:=⟨h.Fq.while i,h.same,h.less⟩
theorem WJ.exit (ok:ae p) (h:WJ p L0 L c i k) (hi:i < L.length) (hk:k < 4) (hb:¬ ∃ f∈p.facts.xs,rE f i=true/\zJ f (jW L i k)=true):PJ p L0 L c i (k+1):=by
 obtain ⟨h1,h2⟩:=h.wj.exit ok hi hb
 refine ⟨h1,fun hc=>?_,h.less⟩
 obtain ⟨h3,h4⟩:=h.same hc
 refine ⟨h3,fun i' k' wS aO bR f hf=>?_⟩
 rcases aO with hl|⟨rfl,hl⟩
 .exact h4 i' k' wS (.inl hl) bR f hf
 .rcases Nat.lt_succ_iff_lt_or_eq.1 hl with hl|rfl
  .exact h4 i' k' wS (.inr ⟨rfl,hl⟩) bR f hf
  .exact h2 f hf
theorem WJ.step (ok:ae p) (h:WJ p L0 L c i k) (hi:i < L.length) (hk:k < 4) (hb:∃ f∈p.facts.xs,rE f i=true/\zJ f (jW L i k)=true) (ht:¬ nS L[i] k):WJ p L0 (qV L i k) true i k/\uS (qV L i k) < uS L:=by
 obtain ⟨h1,h2⟩:=h.wj.step ok hi hk hb ht
 refine ⟨⟨h1,fun hc=>(by cases hc),fun _=>?_⟩,h2⟩
 cases c with
 | false=>have:=(h.same rfl).1;subst this;exact h2
 | true=>have:=h.less rfl;omega
theorem PJ.M4 (h:PJ p L0 L c i 4):PJ p L0 L c (i+1) 0:=⟨h.Fq,fun hc=>⟨(h.same hc).1,fun i' k' wS aO bR f hf=>(h.same hc).2 i' k' wS (by omega) bR f hf⟩,h.less⟩
theorem PJ.done (h:PJ p L0 L c L.length 0) (hc:c=false):Stable zX p.facts.xs L:=fun i hi k hk f hf hs=>by
 have:=(h.same hc).2 i k hk (.inl hi) hi f hf;unfold zX at hs;rw [this] at hs;simp at hs
theorem zoC {M:Nat}:∀ {l:List Box},(∀ b∈l,QJ b<=M)->uS l<=M*l.length
 | [],_=>by simp [uS]
 | b::l,h=>by
  have h1:=h b (by simp);have h2:=zoC (l:=l) fun x hx=>h x (by simp [hx]);unfold uS at h2 ⊢;simp only [List.map_cons,List.sum_cons,List.length_cons,Nat.mul_add,Nat.mul_one];omega
theorem ziq (ok:ae p) (hs:aP L p.boxes.xs):uS L<=24552:=by
 have h1:uS L<=2046*L.length:=zoC fun b hb=>by
  obtain ⟨i,hi,rfl⟩:=List.mem_iff_getElem.1 hb;have bR:i < p.boxes.xs.length:=by rw [<- hs.1];exact hi
  have h1:=hs.2 i hi bR;have h2:=ok.box _ (List.getElem_mem bR);unfold jU at h2;simp only [Bool.and_eq_true,decide_eq_true_eq] at h2;unfold fH fG at h1;unfold QJ;omega
 have h2:L.length<=12:=by rw [hs.1];exact ok.nb
 have:2046*L.length<=2046*12:=Nat.mul_le_mul_left _ h2;omega
end
set_option maxRecDepth 4000
theorem Ud {α:Type} {f:α->List PV} {sz:Nat} {H:Heap} {v:AV} {l:List α} {n:Nat} (hf:∀ a,(f a).length=sz) (h:bL f sz H v l):∃ s:Sl α,s.xs=l/\FrzK H true (n+2) v (s.pv f sz):=by
 rcases h with ⟨rfl,rfl⟩|⟨id,rfl,hg⟩
 .exact ⟨.nil,rfl,.pure _⟩
 .exact Jm hf hg rfl
theorem Xe (l:List Box):((Sl.mk false l).pv Box.cells 4).cold=true:=by
 simp [Sl.pv,PV.cold,PV.iT,Box.cells,Span.cells]
theorem zoE (a:Nat):Int.tdiv (a:Int) 2=((a / 2:Nat):Int):=rfl
theorem zoN (a:Nat):Int.tmod (a:Int) 2=((a % 2:Nat):Int):=rfl
def EC (p:Problem):Option (List Box)->PV
 | none=>.nils
 | some l=>(if p.boxes.isNil=true then Sl.nil else Sl.mk false l).pv Box.cells 4
theorem sh62:G.shared 62=false:=by decide
theorem e62 (n:Nat) (p:Problem) (ok:ae p) (r:Option (List Box)) (hr:bM zX p.facts.xs p.boxes.xs r):zK G (n+7) 62 [.agg p.cells]=some (.aQ [EC p r,.bool r.isSome]):=by
 refine zz (zy _) rfl g62 rfl ?_
 obtain ⟨bs,fs⟩:=p;have nb:bs.xs.length<=12:=ok.nb;have nf:fs.xs.length<=60:=ok.nf;have OP:=fun H=>ze (G:=G) (n:=n+6) (H:=H) (caps:=[]) (ps:=[fs.pv Fact.cells 9]) ztp (e105 (n+5) fs (by omega));simp only [List.map] at OP;have OQ:Hide (∀ (is:Sl Int) (l:Sl Box),uX fs.xs is.xs->is.xs.length<=60->aP l.xs bs.xs->Wf l.xs->zK G (n+6) 74 [fs.pv Fact.cells 9,is.pv aI 1,l.pv Box.cells 4]=some (.int .i64 (fP fs.xs l.xs is.xs))) :=
  ⟨fun is l h1 h2 h3 h4=>e74 n fs is l h1 (by omega) (fun f hf=>QU ok h3 h4 hf)⟩
 have ho:=Et (n+5);have Am:=Hide.mk ok;have Fv:=Hide.mk hr
 by_cases hN:bs.xs=[]
 .have Ao:fs.xs=[]:=by
   cases Yr:fs.xs with
   | nil=>rfl
   | cons f l =>
    have:=(CZ f _).1 (ok.fact f (by show f∈fs.xs;rw [Yr];simp));have e:((Problem.mk bs fs).boxes.xs.length:Int)=0:=by show (bs.xs.length:Int)=0;rw [hN];rfl
    omega
  have Ec:r=some []:=Fv.h.unique (s:=some []) (by
   show bM zX fs.xs bs.xs (some []);rw [hN];exact ⟨Holds'.init (fun b hb=>by simp at hb),fun i hi=>by simp at hi⟩)
  subst Ec;have hB0:fP fs.xs [] (jS fs.xs.length)=-1:=by rw [Ao];rfl
  have KC:=Hide.mk (OQ.h (Sl.mk false (jS fs.xs.length)));have lT:bs.xs.length=0:=by rw [hN];rfl
  have hNH:=Hide.mk hN;clear hr Ao hN;(repeat' first|simp [*,zb,c62,Problem.cells]|(apply za<;>intro _ h<;>try simp [-Nat.le_zero_eq] at h))
  refine Ff (by omega) ?_
  intro v H1 hv Jy bX ah aR;rw [hNH.h] at hv;obtain ⟨s0,pM,Ao⟩:=Ud (n:=10) (f:=Box.cells) (sz:=4) (fun _=>rfl) hv;have c0:=KC.h s0 (M3 _) (by simp [Js];omega) (by rw [pM,hNH.h];exact aP.refl _) (by rw [pM];exact fun b hb=>by simp at hb);rw [pM,Sl.iW,hB0] at c0;have X8:=hv.len;have bG:=hv.one;simp only [List.length_nil] at X8;have bA:∃ ids,freeze H1 false 11 v=some (EC ⟨bs,fs⟩ (some []),ids):=by
   rcases hv with ⟨_,rfl⟩|⟨id,rfl,hg⟩
   .have e:bs.isNil=true:=by simpa [isNil] using Jy.symm
    refine ⟨[],?_⟩
    unfold EC;rw [e];rfl
   .have e:bs.isNil=false:=by simpa [isNil] using Jy.symm
    obtain ⟨ids,jk⟩:=sO (n:=9) (f:=Box.cells) (sz:=4) (fun _=>rfl) hg rfl
    refine ⟨ids,?_⟩
    unfold EC;rw [e];exact jk
  have Ue:=Hide.mk bA;clear hv Jy ah aR KC bA pM;(repeat' first|simp [*,zb]|(apply za<;>intro _ h<;>try simp [-Nat.le_zero_eq] at h))
  refine OA (caps:=[]) (ps:=[_,_,_]) (by decide) (.cons (.pure _) (.cons (.pure _) (.cons Ao .nil))) c0 rfl ?_
  clear c0 Ao;(repeat' first|simp [*,zb]|(apply za<;>intro _ h<;>try simp [-Nat.le_zero_eq] at h))
  refine zL [(2,3),(6,11),(24,85)] (fun (b:Bool) env H=>env 6=.pure (.bool b)/\H=H1) (fun b=>if b=true then 1 else 0) true ?_ ?_ ?_ ?_
  .decide
  .exact ⟨by simp,rfl⟩
  .simp only [zF];simp
  rintro b env H ⟨g6,rfl⟩
  cases b with
  | false =>
   obtain ⟨ids,jk⟩:=Ue.h;simp [*,zb]
  | true =>
   (repeat' first|simp [*,zb]|(apply za<;>intro _ h<;>try simp [-Nat.le_zero_eq] at h))
   refine zL [(2,3),(6,11),(27,85)] (fun (u:Unit) env H2=>env 27=.pure (.int .i64 0)/\env 6=.pure (.bool false)/\H2=H) (fun u=>0) () ?_ ?_ ?_ ?_
   .decide
   .exact ⟨by simp,by simp,rfl⟩
   .simp only [zF];omega
   rintro u ji H2 ⟨g27,g6',rfl⟩;simp [*,zb]
 have hN0:0 < bs.xs.length:=List.length_pos_iff.2 hN;have G6:bs.isNil=false:=by
  cases bs with
  | nil=>exact absurd rfl hN
  | mk h l=>rfl
 have hpv:Hide (∀ l,EC ⟨bs,fs⟩ (some l)=(Sl.mk false l).pv Box.cells 4):=⟨fun l=>by unfold EC;simp only [G6];rfl⟩
 have Ap:EC ⟨bs,fs⟩ none=.nils:=rfl;clear hr;have KC:=Hide.mk (OQ.h (Sl.mk false (jS fs.xs.length)));(repeat' first|simp [*,zb,c62,Problem.cells]|(apply za<;>intro _ h<;>try simp [-Nat.le_zero_eq] at h))
 refine Ff (by omega) ?_
 intro v H1 hv Jy bX ah aR;obtain ⟨id,rfl,hg⟩:=hv.row hN;have au:=zx hg;obtain ⟨s0,pM,Ao⟩:=Jm (n:=10) (f:=Box.cells) (sz:=4) (fun _=>rfl) hg rfl;have c0:=KC.h s0 (M3 _) (by simp [Js];omega) (by rw [pM];exact aP.refl _) (by rw [pM];exact vI Am.h);rw [pM] at c0;simp only [Sl.iW] at c0;clear hv Jy ah aR KC;(repeat' first|simp [*,zb]|(apply za<;>intro _ h<;>try simp [-Nat.le_zero_eq] at h))
 refine OA (caps:=[]) (ps:=[_,_,_]) (by decide) (.cons (.pure _) (.cons (.pure _) (.cons Ao .nil))) c0 rfl ?_
 have KG:=zs1 (fs:=fs.xs) (l:=bs.xs)
 by_cases uG:0<=fP fs.xs bs.xs (jS fs.xs.length)
 .have wD:r=none:=Fv.h.unique (by
   obtain ⟨f,hf,hs⟩:=KG.1 uG;exact (Holds'.init (vI Am.h)).fail (KE Am.h) hN0 hf hs)
  subst wD;clear KG c0 Ao pM Fv;generalize fP fs.xs bs.xs (jS fs.xs.length)=B at *;simp [*,zb]
 have Iu:∀ f∈fs.xs,zJ f bs.xs=false:=fun f hf=>by
  cases hs:zJ f bs.xs with
  | false=>rfl
  | true=>exact absurd (KG.2 ⟨f,hf,hs⟩) uG
 have L6:Db ⟨bs,fs⟩ bs.xs:=⟨Holds'.init (vI Am.h),Iu⟩
 have L6:=Hide.mk L6;have hb0':¬ 0<=fP fs.xs bs.xs (jS fs.xs.length):=uG;clear KG c0 Ao pM Iu uG;generalize fP fs.xs bs.xs (jS fs.xs.length)=B at *;(repeat' first|simp [*,zb]|(apply za<;>intro _ h<;>try simp [-Nat.le_zero_eq] at h))
 refine zL [(2,3),(6,11),(24,85)] (fun (s:List Box×Bool) env H=>env 6=.pure (.bool s.2)/\id < H.nx/\H.get id=.cells true (zq Box.cells s.1)/\Hide (Db ⟨bs,fs⟩ s.1/\(s.2=false->Stable zX fs.xs s.1))) (fun s=>2*uS s.1+if s.2=true then 1 else 0) (bs.xs,true) ?_ ?_ ?_ ?_
 .decide
 .exact ⟨by simp,au,hg,⟨L6.h,fun h=>by cases h⟩⟩
 .have:=ziq Am.h (L:=bs.xs) (aP.refl _);simp only [zF,if_true];omega
 clear L6 hg au;rintro ⟨L0,b⟩ env H ⟨g6,au,hg,hJ⟩;simp only at g6 hg;have hL0:Hide (L0.length=bs.xs.length):=⟨hJ.h.1.hold.sub.1⟩
 have Jz:=Hide.mk hg
 cases b with
 | false =>
  have Ec:r=some L0:=hJ.h.1.hold.stop (hJ.h.2 rfl) Fv.h;subst Ec;obtain ⟨ids,jk⟩:=sO (n:=9) (f:=Box.cells) (sz:=4) (fun _=>rfl) hg hL0.h;rw [hpv.h];clear hJ Fv;simp [*,zb]
 | true =>
  have Ub:=Hide.mk (PJ.start hJ.h.1);have bZ:=Hide.mk (ziq Am.h (L:=L0) hJ.h.1.hold.sub);clear hJ hg;(repeat' first|simp [*,zb]|(apply za<;>intro _ h<;>try simp [-Nat.le_zero_eq] at h))
  refine zL [(2,3),(6,11),(27,85)] (fun (i:Nat) env H=>env 27=.pure (.int .i64 i)/\i<=bs.xs.length/\∃ c:Bool,env 6=.pure (.bool c)/\id < H.nx/\∃ L,H.get id=.cells true (zq Box.cells L)/\Hide (PJ ⟨bs,fs⟩ L0 L c i 0)) (fun i=>bs.xs.length - i) 0 ?_ ?_ ?_ ?_
  .decide
  .exact ⟨by simp,by omega,false,by simp,au,L0,Jz.h,Ub⟩
  .simp only [zF];omega
  clear Ub g6 au Jz;rintro i env H ⟨g27,hi,c,g6,au,L,hg,hP⟩;have Xf:Hide (L.length=bs.xs.length):=⟨hP.h.Fq.hold.sub.1⟩
  by_cases aO:i < bs.xs.length
  .have w0:IntKind.i64.wrap ((i:Int)+1)=(i+1:Nat):=by rw [wrap64 (by omega) (by omega)];omega
   have qh:(i:Int) < bs.xs.length:=by omega
   have hAb:=fun H=>ze (G:=G) (n:=n+6) (H:=H) (caps:=[]) (ps:=[fs.pv Fact.cells 9,(Sl.mk false (jS fs.xs.length)).pv aI 1,.int .i64 i]) ztv (e106 (n+4) fs (Sl.mk false (jS fs.xs.length)) i (M3 _) (by simp [Js];omega));simp only [List.map] at hAb;(repeat' first|simp [*,zb]|(apply za<;>intro _ h<;>try simp [-Nat.le_zero_eq] at h))
   refine zL [(2,3),(6,6),(9,11),(35,84)] (fun (k:Nat) env H=>env 35=.pure (.int .i64 k)/\k<=4/\∃ c:Bool,env 6=.pure (.bool c)/\id < H.nx/\∃ L,H.get id=.cells true (zq Box.cells L)/\Hide (PJ ⟨bs,fs⟩ L0 L c i k)) (fun k=>4 - k) 0 ?_ ?_ ?_ ?_
   .decide
   .exact ⟨by simp,by omega,c,by simp [g6],au,L,hg,hP⟩
   .simp only [zF];omega
   have g27':=g27;clear g27 g6 au hg hP Xf;rintro k env H ⟨g35,hk,c,g6,au,L,hg,hP⟩;have Xf:Hide (L.length=bs.xs.length):=⟨hP.h.Fq.hold.sub.1⟩
   by_cases nW:k < 4
   .have w1:IntKind.i64.wrap ((k:Int)+1)=(k+1:Nat):=by rw [wrap64 (by omega) (by omega)];omega
    have M0:(k:Int) < 4:=by omega
    have q1:=zoE k;have q2:=zoN k;have u1:IntKind.i64.wrap ((k / 2:Nat):Int)=(k / 2:Nat):=wrap64 (by omega) (by omega);obtain ⟨ax,Cj⟩:∃ ax:Nat,ax=k / 2:=⟨_,rfl⟩
    obtain ⟨uR,KH⟩:∃ m:Nat,m=k % 2:=⟨_,rfl⟩
    rw [<- Cj] at q1 u1;rw [<- KH] at q2;have Aj:Hide ((Eu i k).cells=[.int .i64 i,.int .i64 ax,.bool (decide (uR=1))]):=⟨by simp [Eu,Side.cells,Cj,KH]⟩
    have KI:=Hide.mk Cj;have KJ:=Hide.mk KH;clear Cj KH;have hWJ:=Hide.mk hP.h.while;clear hP;(repeat' first|simp [*,zb]|(apply za<;>intro _ h<;>try simp [-Nat.le_zero_eq] at h));generalize Uf:decide ((uR:Int)=1)=hb at *;have KL:=Hide.mk Uf;have Aj:Hide ((Eu i k).cells=[.int .i64 i,.int .i64 ax,.bool hb]):=⟨by
     rw [Aj.h,<- Uf];simp;omega⟩
    clear Uf;have bJ:id≠H.nx:=by omega
    refine zL [(2,3),(6,6),(11,11),(45,83)] (fun (s:List Box) env H2=>∃ c:Bool,env 6=.pure (.bool c)/\H.nx < H2.nx/\H2.get id=.cells true (zq Box.cells s)/\H2.get H.nx=.cells true [.pure (.int .i64 i),.pure (.int .i64 ax),.pure (.bool hb)]/\Hide (WJ ⟨bs,fs⟩ L0 s c i k)) uS L ?_ ?_ ?_ ?_
    .decide
    .exact ⟨c,by simp [g6],by simp,by rw [zf bJ,zg au];exact hg,by simp,hWJ⟩
    .have:=ziq Am.h (L:=L) hWJ.h.wj.hold.sub;simp only [zF];omega
    have g35':=g35;clear g35 g6 hg Xf hWJ q1 q2 u1;rintro s env H2 ⟨c,g6,aY,hg,vJ,hJ⟩;have Bv:s.length=bs.xs.length:=hJ.h.wj.hold.sub.1;have qy:i < s.length:=by omega
    have lW:id < H2.nx:=zx hg;obtain ⟨s1,KM,OT⟩:=Jm (n:=10) (f:=Box.cells) (sz:=4) (fun _=>rfl) hg Bv;have c1:=e107 (n+4) s1 i k (by rw [KM];exact qy) nW (by rw [KM];omega);rw [KM,Aj.h] at c1;have Xg:=hJ.h.wj.hold.wf;have si:=hJ.h.wj.hold.sub;have c2:=OQ.h (Sl.of (rT fs.xs (jS fs.xs.length) i)) (Sl.mk false (jW s i k)) (by rw [Sl.iV];exact zh2 _ _) (by rw [Sl.iV];have:=zjH fs.xs i;omega) (by rw [Sl.iW];exact (zfX Xg qy k).trans si) (by rw [Sl.iW];exact zgV Xg qy k);rw [Sl.iV,Sl.iW] at c2;have c3:=fun H=>ze (G:=G) (n:=n+6) (H:=H) (caps:=[]) (ps:=[fs.pv Fact.cells 9,(Sl.of (rT fs.xs (jS fs.xs.length) i)).pv aI 1,(Sl.mk false (jW s i k)).pv Box.cells 4]) sh74 c2;simp only [List.map] at c3;have F8:=aF.1 (KF Am.h si Xg _ (List.getElem_mem qy));have hlsH:=Hide.mk Bv;have p1:=TS qy;have p2:=TT qy;have p3:=TU qy;have p4:=TV qy;have r3:=zC (own:=true) (f:=Box.cells) (sz:=4) (l:=s) (i:=i) (size:=1) (off:=3) (fun _=>rfl) qy (by decide);have e3:i*4+2+1=i*4+3:=rfl;have v1:IntKind.i64.wrap (s[i].x.lo+1)=s[i].x.lo+1:=wrap64 (by omega) (by omega);have v2:IntKind.i64.wrap (s[i].x.hi - 1)=s[i].x.hi - 1:=wrap64 (by omega) (by omega);have v3:IntKind.i64.wrap (s[i].y.lo+1)=s[i].y.lo+1:=wrap64 (by omega) (by omega);have v4:IntKind.i64.wrap (s[i].y.hi - 1)=s[i].y.hi - 1:=wrap64 (by omega) (by omega);clear c2 Xg si F8 Bv KM;have KG:=Hide.mk (rU (fs:=fs.xs) (l:=jW s i k) (i:=i));generalize hBv:fP fs.xs (jW s i k) (rT fs.xs (jS fs.xs.length) i)=B2 at *;clear hBv;(repeat' first|simp [*,zb]|(apply za<;>intro _ h<;>try simp [-Nat.le_zero_eq] at h))
    refine OA (caps:=[]) (ps:=[_,_]) (by decide) (.cons OT (.cons (.pure _) .nil)) c1 (Xe _) ?_
    clear c1 OT
    by_cases M5:0<=B2
    case neg =>
     have hPx:=Hide.mk (hJ.h.exit Am.h qy nW (fun h=>M5 (KG.h.2 h)));clear KG hJ p1 p2 p3 p4 r3;(repeat' first|simp [*,zb]|(apply za<;>intro _ h<;>try simp [-Nat.le_zero_eq] at h))
     refine ⟨k+1,by omega,by omega,by omega,?_⟩
     cases c with
     | false=>exact .inl ⟨rfl,s,rfl,hPx⟩
     | true=>exact .inr ⟨rfl,s,rfl,hPx⟩
    case pos =>
     have pR:=KG.h.1 M5;clear KG;have OU:k=0\/k=1\/k=2\/k=3:=by omega
     rcases OU with rfl|rfl|rfl|rfl
     .have OV:ax=0:=KI.h;have uG:hb=false:=by rw [<- KL.h,KJ.h];rfl
      subst OV;subst uG;have hW:=fun ht:¬ s[i].x.lo=s[i].x.hi=>hJ.h.step Am.h qy (show 0 < 4 by omega) pR (fun e=>ht (by simpa [nS] using e));have hE:=fun ht:s[i].x.lo=s[i].x.hi=>hJ.h.wj.empty Am.h qy (show 0 < 4 by omega) pR (by simpa [nS] using ht);rw [Jn qy] at hW;have hW:=Hide.mk hW;have hE:=Hide.mk hE;have Iw:=Hide.mk hJ.h.wj.hold.sub.1;clear hJ pR
      by_cases Iy:s[i].x.lo=s[i].x.hi
      .have wD:r=none:=Fv.h.unique (hE.h Iy);subst wD;clear hW hE Fv;simp [*,zb]
      .obtain ⟨Dc,Df⟩:=hW.h Iy;have Dc:=Hide.mk Dc;have Df:=Hide.mk Df;clear hW hE;(repeat' first|simp [*,zb]|(apply za<;>intro _ h<;>try simp [-Nat.le_zero_eq] at h))
       refine ⟨_,Df.h,rfl,?_,Dc⟩
       rw [zf (Ne.symm bJ)]
       simpa using vJ
     .have OV:ax=0:=KI.h;have uG:hb=true:=by rw [<- KL.h,KJ.h];rfl
      subst OV;subst uG;have hW:=fun ht:¬ s[i].x.lo=s[i].x.hi=>hJ.h.step Am.h qy (show 1 < 4 by omega) pR (fun e=>ht (by simpa [nS] using e));have hE:=fun ht:s[i].x.lo=s[i].x.hi=>hJ.h.wj.empty Am.h qy (show 1 < 4 by omega) pR (by simpa [nS] using ht);rw [Jn qy] at hW;have hW:=Hide.mk hW;have hE:=Hide.mk hE;have Iw:=Hide.mk hJ.h.wj.hold.sub.1;clear hJ pR
      by_cases Iy:s[i].x.lo=s[i].x.hi
      .have wD:r=none:=Fv.h.unique (hE.h Iy);subst wD;clear hW hE Fv;simp [*,zb]
      .obtain ⟨Dc,Df⟩:=hW.h Iy;have Dc:=Hide.mk Dc;have Df:=Hide.mk Df;clear hW hE;(repeat' first|simp [*,zb]|(apply za<;>intro _ h<;>try simp [-Nat.le_zero_eq] at h))
       refine ⟨_,Df.h,rfl,?_,Dc⟩
       rw [zf (Ne.symm bJ)]
       simpa using vJ
     .have OV:ax=1:=KI.h;have uG:hb=false:=by rw [<- KL.h,KJ.h];rfl
      subst OV;subst uG;have hW:=fun ht:¬ s[i].y.lo=s[i].y.hi=>hJ.h.step Am.h qy (show 2 < 4 by omega) pR (fun e=>ht (by simpa [nS] using e));have hE:=fun ht:s[i].y.lo=s[i].y.hi=>hJ.h.wj.empty Am.h qy (show 2 < 4 by omega) pR (by simpa [nS] using ht);rw [Jn qy] at hW;have hW:=Hide.mk hW;have hE:=Hide.mk hE;have Iw:=Hide.mk hJ.h.wj.hold.sub.1;clear hJ pR
      by_cases Iy:s[i].y.lo=s[i].y.hi
      .have wD:r=none:=Fv.h.unique (hE.h Iy);subst wD;clear hW hE Fv;simp [*,zb]
      .obtain ⟨Dc,Df⟩:=hW.h Iy;have Dc:=Hide.mk Dc;have Df:=Hide.mk Df;clear hW hE;(repeat' first|simp [*,zb]|(apply za<;>intro _ h<;>try simp [-Nat.le_zero_eq] at h))
       refine ⟨_,Df.h,rfl,?_,Dc⟩
       rw [zf (Ne.symm bJ)]
       simpa using vJ
     .have OV:ax=1:=KI.h;have uG:hb=true:=by rw [<- KL.h,KJ.h];rfl
      subst OV;subst uG;have hW:=fun ht:¬ s[i].y.lo=s[i].y.hi=>hJ.h.step Am.h qy (show 3 < 4 by omega) pR (fun e=>ht (by simpa [nS] using e));have hE:=fun ht:s[i].y.lo=s[i].y.hi=>hJ.h.wj.empty Am.h qy (show 3 < 4 by omega) pR (by simpa [nS] using ht);rw [Jn qy] at hW;have hW:=Hide.mk hW;have hE:=Hide.mk hE;have Iw:=Hide.mk hJ.h.wj.hold.sub.1;clear hJ pR
      by_cases Iy:s[i].y.lo=s[i].y.hi
      .have wD:r=none:=Fv.h.unique (hE.h Iy);subst wD;clear hW hE Fv;simp [*,zb]
      .obtain ⟨Dc,Df⟩:=hW.h Iy;have Dc:=Hide.mk Dc;have Df:=Hide.mk Df;clear hW hE;(repeat' first|simp [*,zb]|(apply za<;>intro _ h<;>try simp [-Nat.le_zero_eq] at h))
       refine ⟨_,Df.h,rfl,?_,Dc⟩
       rw [zf (Ne.symm bJ)]
       simpa using vJ
   .have D7:k=4:=by omega
    subst D7;have Ip:=Hide.mk hP.h.M4;clear hP;(repeat' first|simp [*,zb]|(apply za<;>intro _ h<;>try simp [-Nat.le_zero_eq] at h))
    refine ⟨i+1,by omega,rfl,by omega,?_⟩
    cases c with
    | false=>exact .inl ⟨rfl,L,rfl,Ip⟩
    | true=>exact .inr ⟨rfl,L,rfl,Ip⟩
  .have xO:i=bs.xs.length:=by omega
   subst xO;have Ip:=hP.h;rw [<- Xf.h] at Ip;have fA:=Hide.mk Ip.done;have LP:=Hide.mk Ip.Fq;have hle:=Hide.mk Ip.less;have ED:=Hide.mk Ip.same;clear hP Ip;(repeat' first|simp [*,zb]|(apply za<;>intro _ h<;>try simp [-Nat.le_zero_eq] at h))
   refine ⟨L,?_⟩
   cases c with
   | false=>exact .inl ⟨by rw [(ED.h rfl).1];omega,rfl,rfl,⟨LP.h,fA.h rfl⟩⟩
   | true=>exact .inr ⟨hle.h rfl,rfl,rfl,⟨LP.h⟩⟩
def iN:Option (List Pt)->PV
 | none=>.nils
 | some c=>(Sl.mk false c).pv Pt.cells 2
def mV (o:Option (List Pt)):List PV:=[iN o]
@[simp] theorem zvZ (o:Option (List Pt)):AV.one (.pure (iN o))=true:=by cases o<;>rfl
theorem zsY (o:Option (List Pt)):PV.one (iN o)=true:=by cases o<;>rfl
theorem zl2 (o:Option (List Pt)):(mV o).length=1:=rfl
theorem zru (o:Option (List Pt)):(mV o).all PV.one=true:=by simp [mV,zsY]
theorem zpr {l:List (Option (List Pt))} {i:Nat} {a:Option (List Pt)} (h:i < l.length):uQ (.cells true (zq mV l)) 1 i [.pure (iN a)]=some (.cells true (zq mV (l.set i a))):=by
 have:=H7 (f:=mV) (sz:=1) (a:=a) zl2 zru (by decide) h;rwa [Nat.mul_one] at this
theorem zox {own:Bool} {l:List (Option (List Pt))} {i:Nat} (h:i < l.length):Gh (.cells own (zq mV l)) 1 i=some [.pure (iN l[i])]:=QE zl2 h
def zM (sz len:Nat) (v i:AV):Option Eff:=match i with
 | .pure (.int _ n)=>if 0<=n then (if n < len then match v with
    | .pure (.ptr k cs o)=>some (.val (.pure (.ptr k cs (o+n.toNat*sz))))
    | .box id o=>some (.val (.box id (o+n.toNat*sz)))
    | _=>none else none)
   else none
 | _=>none
theorem zl {cl:Callee} {env:Env} {H:Heap} (sz len:Nat) (x i:aa):step cl env H (.indexAddr sz (some len) x i)=zM sz len (x.eval env) (i.eval env):=by
 simp only [step,zM];rfl
theorem zpg {k:IntKind} {sz len n id o:Nat} (h:n < len):zM sz len (.box id o) (.pure (.int k n))=some (.val (.box id (o+n*sz))):=by
 simp only [zM];rw [if_pos (by omega),if_pos (by omega)];simp
theorem zit (c:List Pt):((Sl.mk false c).pv Pt.cells 2).cold=true:=by
 simp [Sl.pv,PV.cold,PV.iT,Pt.cells]
theorem ziP {H:Heap} {pid m:Nat} {c:List Pt} (hp:H.get pid=.cells true (zq Pt.cells c)) (hc:c.length=m):FrzL H true qw ([.row pid 2 0 m]++([]:List PV).map .pure) [(Sl.mk true c).pv Pt.cells 2]:=by
 subst hc;have pU:∀ l:List Pt,chunks 2 l.length ((l.map Pt.cells).flatten)=l.map Pt.cells:=by
  intro l
  induction l with
  | nil=>rfl
  | cons a l ih=>simp only [List.length_cons,chunks,List.map_cons,List.flatten_cons];rw [List.take_left' (by rfl),List.drop_left' (by rfl),ih]
 refine .cons ?_ .nil
 obtain ⟨s,hs,hf⟩:=Jm (n:=10) (f:=Pt.cells) (sz:=2) (fun _=>rfl) hp rfl;obtain ⟨ids,jk⟩:=hf
 refine ⟨ids,jk.trans ?_⟩
 cases s with
 | nil =>
  exfalso;have h0:c=[]:=hs.symm;subst h0;unfold freeze at jk;simp [hp,QG,zS,Sl.pv] at jk
 | mk h xs =>
  have hx:xs=c:=hs;subst hx
  cases h with
  | true=>rfl
  | false =>
   exfalso;unfold freeze at jk;simp only [hp] at jk
   split at jk
   .split at jk
    .simp [Sl.pv] at jk
    .simp at jk
   .simp at jk
def Iz (part:List Nat) (jX:Nat) (A:Acc):List AV:=[.pure (lK part),.pure (.int .i64 A.n),.row jX 4 0 part.length,.pure (iN A.first)]
def Ug (m:Nat) (c:List Pt):Prop:=c.length=m/\∀ x∈c,vH x
def okB (m:Nat) (B:List (Option (List Pt))):Prop:=B.length=4*m/\∀ o∈B,∀ d,o=some d->Ug m d
theorem zuB {m:Nat} {B:List (Option (List Pt))} {c:List Pt} (h:okB m B) (hc:Ug m c) (t:Nat):okB m (qi B c t):=by
 refine ⟨by rw [OO];exact h.1,fun o ho d hd=>?_⟩
 obtain ⟨j,hj,e⟩:=List.mem_iff_getElem.1 ho;have oZ:j < B.length:=by rw [OO] at hj;exact hj
 simp only [qi,List.getElem_mapIdx] at e;subst hd
 split at e
 .unfold Fb at e
  split at e
  .rename_i h0;simp only [Option.some.injEq] at e;subst e;exact hc
  .rename_i d' h0
   split at e
   .simp only [Option.some.injEq] at e;subst e;exact hc
   .exact h.2 _ (List.getElem_mem oZ) d (h0.trans e)
 .exact h.2 _ (List.getElem_mem oZ) d e
theorem zlu {n:Nat} {H:Heap} {jX nZ sb pid pb:Nat} {c1 c2 c3 c4 c5:AV} {part:List Nat} {A:Acc} {c:List Pt} {k:AV->Heap->Prop}
  (o:jX < nZ/\nZ < sb/\sb < pid/\pid < pb) (Br:0 < part.length) (hm:part.length<=12) (hc:Ug part.length c) (hA:okB part.length A.best) (hn:A.n < 4000000000000000000)
  (QV:H.get sb=.cells true [.box nZ 0]) (TD:H.get pb=.cells true [.row pid 2 0 part.length])
  (hs:H.get nZ=.cells true (Iz part jX A)) (he:H.get jX=.cells true (zq mV A.best)) (hp:H.get pid=.cells true (zq Pt.cells c))
  (hk:∀ H',H.nx<=H'.nx->(∀ j,j < H.nx->j≠nZ->j≠jX->H'.get j=H.get j)->H'.get nZ=.cells true (Iz part jX (BK A c))->H'.get jX=.cells true (zq mV (BK A c).best)->k (.aQ []) H') :
  ∃ v H',Vm.call G (n+2) (.fn 114) ([.pure (.int .i64 part.length),.pure (.ptr false [lK part] 0),.box sb 0,.box pb 0,c1,c2,c3,c4,c5]) H=some (v,H')/\k v H':=by
 refine Jl rfl g114 rfl ?_
 obtain ⟨m,Uh⟩:∃ m,m=part.length:=⟨_,rfl⟩
 have fJ:c.length=m:=by rw [Uh];exact hc.1
 have hkH:=Hide.mk hk;have OW:=Hide.mk hc;have hAH:=Hide.mk hA;clear hk hc hA;have jB:Hide (c≠[]):=⟨by intro h;rw [h] at fJ;simp at fJ;omega⟩
 have cl:=fun (H:Heap)=>(e115 n true c jB.h (by omega))
 have hmH:=Hide.mk Uh;have hAn:=Hide.mk hn;have d1:sb≠nZ:=by omega
 have d2:pb≠nZ:=by omega
 have d3:pid≠nZ:=by omega
 have d4:jX≠nZ:=by omega
 have e1:sb≠jX:=by omega
 have e2:pb≠jX:=by omega
 have e3:pid≠jX:=by omega
 have e4:nZ≠jX:=by omega
 have lt1:=zx hs;have lt2:=zx he;have lt3:=zx QV;have lt4:=zx TD;have lt5:=zx hp;have sH:((part.map fun (k:Nat)=>[PV.int .i64 (k:Int)]).length)=part.length:=by simp
 obtain ⟨S,hS⟩:∃ S,S=aU.cells true (Iz part jX (BK A c)):=⟨_,rfl⟩
 have hS2:Gh S 1 2=some [.row jX 4 0 part.length]:=by rw [hS];rfl
 have hSn:BK A c=⟨A.n+1,if A.n=0 then some c else A.first,A.best.mapIdx fun j o=>Fb (lL j) o c⟩:=rfl;have hSH:=Hide.mk hS;have Ui:=Hide.mk hSn;unfold Iz at hs;obtain ⟨pp,yj⟩:∃ pp,pp=lK part:=⟨_,rfl⟩
 have hpe:Hide (pp=lK part):=⟨yj⟩
 have hlp:Jj (.pure pp)=some (.val (.pure (.int .i64 part.length))):=by rw [yj];simp [lK]
 have aj:AV.cells (.pure pp)=[.pure pp]:=by rw [yj];rfl
 have Gf:AV.one (.pure pp)=true:=by rw [yj];rfl
 have hbT:=Hide.mk (fun i j (hi:i < part.length) (hj:j < 4)=>((by rw [hAH.h.1];omega:i*4+j < A.best.length)));rw [<- yj] at hs ⊢;clear yj Uh hS hSn;have bzH:=Hide.mk (zmC A.best c)
 by_cases h1:A.n=0
 case' neg =>
  obtain ⟨N1,hN1⟩:∃ N1:Int,N1=(A.n:Int)+1:=⟨_,rfl⟩
  have hI:¬ N1=1:=by omega
  have w1:IntKind.i64.wrap ((A.n:Int)+1)=N1:=by rw [wrap64 (by omega) (by omega)];omega
  have Xh:Hide (aU.cells true [.pure pp,.pure (.int .i64 N1),.row jX 4 0 part.length,.pure (iN A.first)]=S):=⟨by
   rw [hSH.h,Ui.h,hpe.h,hN1];simp [Iz,h1]⟩
  clear hN1 hn h1;generalize (A.n:Int)=N at *;(repeat' first|simp [*,zb,c114,zk]|(apply za<;>intro _ h<;>try simp [-Nat.le_zero_eq] at h))
  refine zL [(10,13),(38,80)] (fun (i:Nat) env H2=>env 38=.pure (.int .i64 i)/\i<=part.length/\H.nx<=H2.nx/\Hide (∀ j,j < H.nx->j≠nZ->j≠jX->H2.get j=H.get j)/\H2.get nZ=S/\H2.get jX=.cells true (zq mV (qi A.best c (i*4)))) (fun i=>part.length - i) 0 ?_ ?_ ?_ ?_
  .decide
  .refine ⟨by simp,by omega,by simp,⟨fun j h1 h2 h3=>by simp [*]⟩,?_,?_⟩
   .rw [zn (by simp [*]),Xh.h]
   .rw [Nat.zero_mul,bzH.h];simp [*]
  .simp only [zF];omega
 case' pos =>
  have w1:IntKind.i64.wrap ((A.n:Int)+1)=1:=by rw [h1];rfl
  have Xh:Hide (aU.cells true [.pure pp,.pure (.int .i64 1),.row jX 4 0 part.length,.pure ((Sl.mk false c).pv Pt.cells 2)]=S):=⟨by
   rw [hSH.h,Ui.h,hpe.h];simp [Iz,h1,iN]⟩
  have JA:∀ H2:Heap,H2.get pid=H.get pid->FrzL H2 true qw ([.row pid 2 0 part.length]++([]:List PV).map .pure) [(Sl.mk true c).pv Pt.cells 2]:=fun H2 h=>ziP (h.trans hp) OW.h.1;have hpcH:=Hide.mk JA;clear hn h1 JA;generalize (A.n:Int)=N at *;(repeat' first|simp [*,zb,c114,zk]|(apply za<;>intro _ h<;>try simp [-Nat.le_zero_eq] at h))
  refine OA (caps:=[]) zrC (hpcH.h _ ?_) (cl H) (zit c) ?_
  .simp [*]
  (repeat' first|simp [*,zb,zk]|(apply za<;>intro _ h<;>try simp [-Nat.le_zero_eq] at h))
  refine zL [(10,13),(38,80)] (fun (i:Nat) env H2=>env 38=.pure (.int .i64 i)/\i<=part.length/\H.nx<=H2.nx/\Hide (∀ j,j < H.nx->j≠nZ->j≠jX->H2.get j=H.get j)/\H2.get nZ=S/\H2.get jX=.cells true (zq mV (qi A.best c (i*4)))) (fun i=>part.length - i) 0 ?_ ?_ ?_ ?_
  .decide
  .refine ⟨by simp,by omega,by simp,⟨fun j h1 h2 h3=>by simp [*]⟩,?_,?_⟩
   .rw [zn (by simp [*]),Xh.h]
   .rw [Nat.zero_mul,bzH.h];simp [*]
  .simp only [zF];omega
 all_goals
  clear Xh hs he sH hlp aj Gf;rintro i env H2 ⟨g38,hi,bX,ah,Ag,rz⟩;have hsb2:H2.get sb=.cells true [.box nZ 0]:=by rw [ah.h sb (by omega) (by omega) (by omega)];exact QV
  have hpb2:H2.get pb=.cells true [.row pid 2 0 part.length]:=by rw [ah.h pb (by omega) (by omega) (by omega)];exact TD
  have hp2:H2.get pid=.cells true (zq Pt.cells c):=by rw [ah.h pid (by omega) (by omega) (by omega)];exact hp
  by_cases aO:i < part.length
  .have w2:IntKind.i64.wrap ((i:Int)+1)=(i+1:Nat):=by rw [wrap64 (by omega) (by omega)];omega
   have qh:(i:Int) < part.length:=by omega
   have M6:i < c.length:=by have:=hmH.h;omega
   have RS:=Hide.mk (OW.h.2 c[i] (List.getElem_mem M6));obtain ⟨x,y,NZ⟩:∃ x y,c[i]=⟨x,y⟩:=⟨c[i].x,c[i].y,rfl⟩
   have rp:=znA (own:=true) (f:=Pt.cells) (sz:=2) (l:=c) (i:=i) (size:=2) (fun _=>rfl) M6 (Nat.le_refl _);rw [NZ] at rp;simp only [Pt.cells,List.take,List.map] at rp;have Uj:=Hide.mk NZ;clear NZ;have lt6:=zx rz;have hbnd:=hbT.h i;(repeat' first|simp [*,zb]|(apply za<;>intro _ h<;>try simp [-Nat.le_zero_eq] at h))
   refine zL [(12,13),(43,79)] (fun (t:Nat) env H3=>env 43=.pure (.int .i64 t)/\t<=4/\H2.nx < H3.nx/\Hide (∀ j,j < H.nx->j≠nZ->j≠jX->H3.get j=H.get j)/\H3.get nZ=S/\H3.get jX=.cells true (zq mV (qi A.best c (i*4+t)))/\H3.get H2.nx=.cells true [.pure (.int .i64 x),.pure (.int .i64 y)]) (fun t=>4 - t) 0 ?_ ?_ ?_ ?_
   .decide
   .refine ⟨by simp,by omega,by simp,⟨fun j h1 h2 h3=>?_⟩,?_,?_,?_⟩
    .rw [zf (by omega),zg (by omega)];exact ah.h j h1 h2 h3
    .rw [zf (by omega),zg (by omega)];exact Ag
    .rw [zf (by omega),zg (by omega)];exact rz
    .rw [zn (by simp)]
   .simp only [zF];omega
   have g38':=g38;clear g38 ah Ag rz hsb2 hpb2 hp2;rintro t env H3 ⟨g43,ht,Fh,ah,hs3,he3,hb3⟩;have hsb3:H3.get sb=.cells true [.box nZ 0]:=by rw [ah.h sb (by omega) (by omega) (by omega)];exact QV
   have hpb3:H3.get pb=.cells true [.row pid 2 0 part.length]:=by rw [ah.h pb (by omega) (by omega) (by omega)];exact TD
   have hp3:H3.get pid=.cells true (zq Pt.cells c):=by rw [ah.h pid (by omega) (by omega) (by omega)];exact hp
   by_cases h4:t < 4
   .have w3:IntKind.i64.wrap ((t:Int)+1)=(t+1:Nat):=by rw [wrap64 (by omega) (by omega)];omega
    have h4I:(t:Int) < 4:=by omega
    have Uk:=hbT.h i t aO h4;have Xi:i*4+t < (qi A.best c (i*4+t)).length:=by rw [OO];exact Uk
    have ra:=zox (own:=true) Xi;rw [znd] at ra;have lV:=zpr (a:=some c) Xi;have Dh:=zpg (k:=.i64) (sz:=1) (len:=4) (n:=t) (id:=jX) (o:=i*4) h4;rw [Nat.mul_one] at Dh;have BH:lL (i*4+t) c=lY ⟨x,y⟩ t:=by
     unfold lL;rw [show (i*4+t) / 4=i by omega,show (i*4+t) % 4=t by omega,getElem!_pos c i M6,Uj.h]
    have fA:=Hide.mk (znn A.best c (i*4+t) Uk);have Aj:=Hide.mk (zl5 A.best c (i*4+t) Uk);have OX:=Hide.mk (hAH.h.2 _ (List.getElem_mem Uk));have OY:=Hide.mk BH;have Jf:i*4+(t+1)=i*4+t+1:=rfl;have d5:jX≠H2.nx:=by omega
    have d6:H2.nx≠jX:=by omega
    have hnxe:jX < H3.nx:=by omega
    generalize hO:A.best[i*4+t]'Uk=O at *
    cases O with
    | none =>
     have sM:Hide ((qi A.best c (i*4+t)).set (i*4+t) (some c)=qi A.best c (i*4+(t+1))):=⟨by rw [Jf];exact fA.h (by rfl)⟩
     have hb:iM .eql .slice (.pure (iN none)) (.pure .nils)=some (.pure (.bool true)):=rfl;clear fA Aj OX BH OY hO Xi Jf;(repeat' first|simp [*,zb,zk,zl]|(apply za<;>intro _ h<;>try simp [-Nat.le_zero_eq] at h))
     refine OA (caps:=[]) zrC (ziP hp3 OW.h.1) (cl H3) (zit c) ?_
     have tV:AV.cells (.pure ((Sl.mk false c).pv Pt.cells 2))=[.pure (iN (some c))]:=rfl;have xe:=lV;rw [sM.h] at xe;clear lV;(repeat' first|simp [*,zb,zk,zl]|(apply za<;>intro _ h<;>try simp [-Nat.le_zero_eq] at h))
     refine ⟨t+1,by omega,by omega,by omega,⟨fun j h1 h2 h3=>?_⟩,rfl⟩
     rw [zf h3];exact ah.h j h1 h2 h3
    | some d =>
     obtain ⟨hdl,hdx⟩:=OX.h d rfl;have au:i < d.length:=by omega
     have Qu:=hdx d[i] (List.getElem_mem au);obtain ⟨u,v,Xj⟩:∃ u v,d[i]=⟨u,v⟩:=⟨d[i].x,d[i].y,rfl⟩
     have hkd:lL (i*4+t) d=lY ⟨u,v⟩ t:=by
      unfold lL;rw [show (i*4+t) / 4=i by omega,show (i*4+t) % 4=t by omega,getElem!_pos d i au,Xj]
     have KN:=RS.h;rw [Uj.h] at KN;rw [Xj] at Qu;have k1:=fun H=>ze (G:=G) (n:=n+1) (H:=H) (caps:=[]) (ps:=[.agg (Pt.mk x y).cells,.int .i64 t]) zto (e116 n ⟨x,y⟩ t h4 KN.1 KN.2);have k2:=fun H=>ze (G:=G) (n:=n+1) (H:=H) (caps:=[]) (ps:=[.agg (Pt.mk u v).cells,.int .i64 t]) zto (e116 n ⟨u,v⟩ t h4 Qu.1 Qu.2);have M7:BA 2 (.pure (iN (some d))) (.pure (.int .i64 i))=some (.val (.pure (.ptr false [.int .i64 u,.int .i64 v] 0))):=by
      have:=rQ (k:=.i64) (f:=Pt.cells) (sz:=2) (s:=Sl.mk false d) (n:=i) (by simpa using au)
      simpa [Xj,iN,Sl.uq] using this
     have hb:iM .eql .slice (.pure (iN (some d))) (.pure .nils)=some (.pure (.bool false)):=ZZ rfl;simp only [Pt.cells,List.map] at k1 k2;have KO:Hide (Fb (lL (i*4+t)) (some d) c=if lY ⟨x,y⟩ t < lY ⟨u,v⟩ t then some c else some d):=⟨by unfold Fb;simp only [hkd,OY.h]⟩
     generalize lY ⟨x,y⟩ t=K1 at *;generalize lY ⟨u,v⟩ t=K2 at *;clear BH OY hO Xi Jf OX hdx hdl Qu KN hkd Xj
     by_cases hK:K1 < K2
     .have sM:Hide ((qi A.best c (i*4+t)).set (i*4+t) (some c)=qi A.best c (i*4+(t+1))):=⟨fA.h (by rw [KO.h,if_pos hK])⟩
      clear fA Aj KO;(repeat' first|simp [*,zb,zk,zl]|(apply za<;>intro _ h<;>try simp [-Nat.le_zero_eq] at h))
      refine OA (caps:=[]) zrC (ziP hp3 OW.h.1) (cl H3) (zit c) ?_
      have tV:AV.cells (.pure ((Sl.mk false c).pv Pt.cells 2))=[.pure (iN (some c))]:=rfl;have xe:=lV;rw [sM.h] at xe;clear lV;(repeat' first|simp [*,zb,zk,zl]|(apply za<;>intro _ h<;>try simp [-Nat.le_zero_eq] at h))
      refine ⟨t+1,by omega,by omega,by omega,⟨fun j h1 h2 h3=>?_⟩,rfl⟩
      rw [zf h3];exact ah.h j h1 h2 h3
     .have hsk2:Hide (qi A.best c (i*4+(t+1))=qi A.best c (i*4+t)):=⟨Aj.h (by rw [KO.h,if_neg hK])⟩
      clear fA Aj KO lV;(repeat' first|simp [*,zb,zk,zl]|(apply za<;>intro _ h<;>try simp [-Nat.le_zero_eq] at h));exact ⟨t+1,by omega,by omega,by omega,by rw [hsk2.h]⟩
   .have sS:t=4:=by omega
    subst sS;rw [show i*4+4=(i+1)*4 by omega] at he3;(repeat' first|simp [*,zb]|(apply za<;>intro _ h<;>try simp [-Nat.le_zero_eq] at h));exact ⟨i+1,by omega,by omega,by omega,by omega,rfl⟩
  .have aX:i=part.length:=by omega
   subst aX;have sj:=hkH.h H2 bX ah.h (by rw [Ag,hSH.h]) (by rw [rz,ziI _ _ _ (by have:=hAH.h.1;omega)];rfl);clear hkH ah;(repeat' simp [*,zb])
theorem ztm:G.shared 117=false:=by decide
theorem e117 (n:Nat) (b:Box):zK G (n+1) 117 [.agg b.cells]=some (.func 138 [.ptr false b.cells 0]):=by
 refine zz (zy _) rfl g117 rfl ?_
 simp [*,zb,c117,Box.cells,Span.cells]
theorem zjF:G.shared 114=true:=by decide
structure KP where
 nZ:Nat
 jX:Nat
 sb:Nat
 pid:Nat
 pb:Nat
 au:Nat
 hb:Nat
 mid:Nat
 mb:Nat
 cb:Nat
def KQ (I:KP) (p:Problem) (l:Sl Box) (part:List Nat):List AV:=[.pure (.ptr false [lK part] 0),.box I.sb 0,.box I.pb 0,.pure (.ptr false [l.pv Box.cells 4] 0),.box I.hb 0,.pure (.ptr false p.cells 0),.box I.mb 0,.box I.cb 0]
structure xg (I:KP) (p:Problem) (l:Sl Box) (part:List Nat) (ml:List (List Int)) (H:Heap):Prop where
 ord:I.jX < I.nZ/\I.nZ < I.sb/\I.sb < I.au/\I.au < I.hb/\I.hb < I.mb/\I.mb < I.mid/\I.mid < I.pid/\I.pid < I.pb/\I.pb < I.cb
 sb:H.get I.sb=.cells true [.box I.nZ 0]
 pb:H.get I.pb=.cells true [.row I.pid 2 0 part.length]
 hb:H.get I.hb=.cells true [.row I.au 4 0 l.xs.length]
 mb:H.get I.mb=.cells true [.row I.mid 1 0 part.length]
 mid:∃ xs:List AV,H.get I.mid=.cells true xs/\xs.length=part.length/\∀ k (h:k < xs.length),bL aI 1 H xs[k] ml[k]! /\ ∀ id,Names xs[k] id->I.mb < id/\id < I.pid
 cb:H.get I.cb=.cells true [.func 114 (KQ I p l part)]
structure oL (I:KP) (H H':Heap):Prop where
 nx:H.nx<=H'.nx
 get:∀ j,j < H.nx->j≠I.nZ->j≠I.jX->j≠I.pid->j≠I.au->H'.get j=H.get j
theorem oL.refl (I:KP) (H:Heap):oL I H H:=⟨Nat.le_refl _,fun _ _ _ _ _ _=>rfl⟩
theorem oL.trans {I:KP} {H H1 H2:Heap} (h:oL I H H1) (h':oL I H1 H2):oL I H H2 :=
 ⟨Nat.le_trans h.nx h'.nx,fun j a b c d e=>(h'.get j (by have:=h.nx;omega) b c d e).trans (h.get j a b c d e)⟩
section
variable {I:KP} {p:Problem} {l:Sl Box} {part:List Nat} {ml:List (List Int)} {H H':Heap}
theorem xg.lt (h:xg I p l part ml H):I.cb < H.nx:=zx h.cb
theorem xg.keep (h:xg I p l part ml H) (k:oL I H H'):xg I p l part ml H':=by
 have aO:=h.lt;have o:=h.ord;have g:∀ j,j < H.nx->j≠I.nZ->j≠I.jX->j≠I.pid->j≠I.au->H'.get j=H.get j:=k.get
 refine ⟨o,?_,?_,?_,?_,?_,?_⟩
 .rw [g _ (by omega) (by omega) (by omega) (by omega) (by omega)];exact h.sb
 .rw [g _ (by omega) (by omega) (by omega) (by omega) (by omega)];exact h.pb
 .rw [g _ (by omega) (by omega) (by omega) (by omega) (by omega)];exact h.hb
 .rw [g _ (by omega) (by omega) (by omega) (by omega) (by omega)];exact h.mb
 .obtain ⟨xs,h1,h2,h3⟩:=h.mid
  refine ⟨xs,?_,h2,fun k hk=>?_⟩
  .rw [g _ (by omega) (by omega) (by omega) (by omega) (by omega)];exact h1
  .obtain ⟨a,b⟩:=h3 k hk
   refine ⟨a.keep fun id ⟨m,hm⟩=>?_,b⟩
   have:=b id ⟨_,_,_,hm⟩;exact g _ (by omega) (by omega) (by omega) (by omega) (by omega)
 .rw [g _ (by omega) (by omega) (by omega) (by omega) (by omega)];exact h.cb
end
structure IA (I:KP) (part:List Nat) (A:Acc) (pts:List Pt) (here:List Box) (H:Heap):Prop where
 s:H.get I.nZ=.cells true (Iz part I.jX A)
 e:H.get I.jX=.cells true (zq mV A.best)
 p:H.get I.pid=.cells true (zq Pt.cells pts)
 h:H.get I.au=.cells true (zq Box.cells here)
 best:okB part.length A.best
 pts:Ug part.length pts
structure ChP (p:Problem) (l:Sl Box) (part:List Nat) (ml:List (List Int)):Prop where
 ok:ae p
 sub:aP l.xs p.boxes.xs
 wf:Wf l.xs
 nodup:part.Nodup
 lt:∀ i∈part,i < l.xs.length
 pos:0 < part.length
 few:part.length<=12
 ml:∀ k,k < part.length->uX p.facts.xs ml[k]! /\ (ml[k]!).length<=60/\∀ here,(fP p.facts.xs here ml[k]! < 0↔sQ p.facts.xs part k here=true)
theorem ztT {p:Problem} {l:Sl Box} {part:List Nat} {ml:List (List Int)} (h:ChP p l part ml) {i:Nat} (hi:i < l.xs.length) {x:Pt} (hx:x∈uh l.xs[i]):vH x:=by
 have hv:=aF.1 (KF h.ok h.sub h.wf _ (List.getElem_mem hi));have:=mem_places.1 hx;unfold bO at this;unfold vH;omega
theorem zp0 {n:Nat} {b:Box} (hb:o7 b=true) {env:Env} {H:Heap} {f:aa} {params:List Nat} {assign body:aV} {Q:fZ->Env->Heap->Prop} {u} (hf:f.eval env=.pure (.func 138 [.ptr false b.cells 0])) (hp:params.length=1)
  (J:Nat->Nat->Heap->Prop)
  (M8:∀ i k H1 H2,J i k H1->H.nx < H1.nx->H2.nx=H1.nx->(∀ j,j≠H.nx->H2.get j=H1.get j)->J i k H2)
  (h0:∀ H1,H1.nx=H.nx+1->(∀ j,j < H.nx->H1.get j=H.get j)->J 0 0 H1)
  (sI:∀ i H1,J i (b.y.hi - b.y.lo+1).toNat H1->J (i+1) 0 H1)
  (Ak:∀ i k H1,i < (b.x.hi - b.x.lo+1).toNat->k < (b.y.hi - b.y.lo+1).toNat->J i k H1->H.nx < H1.nx ->
   wp (zu G n) assign ((params.zip [.pure (.agg [.int .i64 (b.x.lo+i),.int .i64 (b.y.lo+k)])]).foldl (fun e x=>upd e x.1 x.2) env) H1 (fun x ji H2=>x=.normal/\H1.nx<=H2.nx/\(∀ j,j < H1.nx->H2.get j=H1.get j) /\
    ∀ Hb,Hb.nx=H2.nx->(∀ j,j≠H.nx->Hb.get j=H2.get j) ->
     wp (zu G n) body ji Hb (fun x _ H3=>x=.normal/\H3.get H.nx=Hb.get H.nx/\Hb.nx<=H3.nx/\J i (k+1) H3) .mk) .mk)
  (CP:∀ H',J (b.x.hi - b.x.lo+1).toNat 0 H'->Q .normal env H') :
  wp (zu G (n+2)) (.rangeFunc f params assign body) env H Q u:=by
 refine zkI hf ?_
 obtain ⟨v,H2,h1,h2,h3⟩:=zmz n b hb (H.alloc (.loop { env,params,assign,body,state:=.ready,pending:=.normal })) H.nx { env,params,assign,body,state:=.ready,pending:=.normal } rfl rfl hp (CQ _) (fun i k H1=>H.nx < H1.nx/\J i k H1)
  ⟨by simp,h0 _ (by simp) fun j hj=>zg hj⟩ (fun i H1 h=>⟨h.1,sI i H1 h.2⟩)
  (fun i k H1 hi hk hJ nY=>by
   refine (Ak i k H1 hi hk hJ.2 hJ.1).mono ?_
   rintro x ji H2 ⟨rfl,vF,Ag,hw⟩;have Ul:H2.get H.nx=_:=(Ag _ hJ.1).trans nY
   refine ⟨rfl,Ul,?_⟩
   have au:=Rx (H:=H2) (i:=H.nx) (by rw [Ul];simp)
   refine (hw (H2.set H.nx (.loop { env,params,assign,body,state:=.busy,pending:=.normal })) rfl (fun j hj=>zf hj)).mono ?_
   rintro x SY H3 ⟨rfl,g1,g3,g4⟩;have aO:H.nx < H3.nx:=by simp at g3;omega
   exact ⟨rfl,by rw [g1,zn au],by simpa using aO,M8 _ _ _ _ g4 aO (by simp) fun j hj=>zf hj⟩)
 exact ⟨v,H2,h1,h2,CP _ (M8 _ _ _ _ h3.2 h3.1 (by simp) fun j hj=>zf hj)⟩
def zrj (I:KP) (p:Problem) (l:Sl Box) (part:List Nat) (kk:Nat) (A:Acc) (pts:List Pt) (here:List Box) (H H':Heap):Prop :=
 oL I H H'/\∃ mW,IA I part (((wh (sQ p.facts.xs part) l.xs (part.drop kk) kk here).map (pts.take kk ++ ·)).foldl BK A) mW here H'/\mW.take kk=pts.take kk
theorem zmn {I:KP} {p:Problem} {l:Sl Box} {part:List Nat} {ml:List (List Int)} (hp:ChP p l part ml) :
  ∀ (d n kk:Nat) (H:Heap) (A:Acc) (pts:List Pt) (here:List Box),kk+d=part.length->xg I p l part ml H->IA I part A pts here H->aP here l.xs->Wf here ->
   (∀ j (h:j < part.length),kk<=j->here[part[j]]! = l.xs[part[j]]!)->A.n+(wh (sQ p.facts.xs part) l.xs (part.drop kk) kk here).length<=4000000000000000000 ->
   ∃ H',Vm.call G (n+8+3*d) (.fn 114) ([.pure (.int .i64 kk)]++KQ I p l part) H=some (.aQ [],H')/\zrj I p l part kk A pts here H H':=by
 intro d
 induction d with
 | zero =>
  intro n kk H A pts here D7 fx st hs hw hl hn;have ek:kk=part.length:=by omega
  subst ek;rw [List.drop_length] at hn;simp only [wh,List.length_cons,List.length_nil] at hn;have o:=fx.ord;have key:=zlu (n:=n+6) (H:=H) (jX:=I.jX) (nZ:=I.nZ) (sb:=I.sb) (pid:=I.pid) (pb:=I.pb) (c1:=.pure (.ptr false [l.pv Box.cells 4] 0)) (c2:=.box I.hb 0) (c3:=.pure (.ptr false p.cells 0)) (c4:=.box I.mb 0) (c5:=.box I.cb 0) (part:=part) (A:=A) (c:=pts)
   (k:=fun v H'=>v=.aQ []/\zrj I p l part part.length A pts here H H') ⟨by omega,by omega,by omega,by omega⟩ hp.pos hp.few st.pts st.best (by omega) fx.sb fx.pb st.s st.e st.p ?_
  .obtain ⟨v,H',h1,rfl,h2⟩:=key;exact ⟨H',h1,h2⟩
  .intro H' h1 h2 h3 h4;have aO:=fx.lt
   refine ⟨rfl,⟨h1,fun j a b c _ _=>h2 j a b c⟩,pts,?_,rfl⟩
   have e1:pts.take part.length=pts:=List.take_of_length_le (by rw [st.pts.1];exact Nat.le_refl _);rw [List.drop_length];simp only [wh,List.map_cons,List.map_nil,List.append_nil,e1,List.foldl_cons,List.foldl_nil];have hpx:I.pid < H.nx:=by omega
   have hhx:I.au < H.nx:=by omega
   refine ⟨h3,h4,?_,?_,?_,st.pts⟩
   .rw [h2 _ hpx (by omega) (by omega)];exact st.p
   .rw [h2 _ hhx (by omega) (by omega)];exact st.h
   .have:=zuB st.best st.pts (A.best.length);rwa [ziI _ _ _ (Nat.le_refl _)] at this
 | succ d ih =>
  intro n kk H A pts here D7 fx st hs hw hl hn;have hk:kk < part.length:=by omega
  have fu:n+8+3*(d+1)=n+8+3*d+2+1:=by omega
  rw [fu];obtain ⟨F,hF⟩:∃ F,F=n+8+3*d:=⟨_,rfl⟩
  have hF6:∃ F6,F=F6+6:=⟨n+2+3*d,by omega⟩
  have main:∃ v H',Vm.call G (F+2+1) (.fn 114) ([.pure (.int .i64 kk)]++KQ I p l part) H=some (v,H')/\(v=.aQ []/\zrj I p l part kk A pts here H H'):=by
   refine Jl rfl g114 rfl ?_
   have JY:BA 1 (.pure (lK part)) (.pure (.int .i64 kk))=some (.val (.pure (.ptr false [.int .i64 (part[kk]:Nat)] 0))):=Wy (by simp [hk]);have hlp:Jj (.pure (lK part))=some (.val (.pure (.int .i64 part.length))):=by simp [lK]
   have bJ:¬ (kk:Int)=part.length:=by omega
   obtain ⟨q,hq⟩:∃ q,q=part[kk]:=⟨_,rfl⟩
   have Um:q < l.xs.length:=by rw [hq];exact hp.lt _ (List.getElem_mem hk)
   rw [<- hq] at JY;have Un:(q:Int) < l.xs.length:=by omega
   have hpv:=ztm;have hB:=fun H=>ze (G:=G) (n:=F+2) (H:=H) (caps:=[]) (ps:=[.agg l.xs[q].cells]) ztm (e117 (F+1) l.xs[q]);simp only [Box.cells,Span.cells,List.map] at hB;have EE:part.drop kk=q::part.drop (kk+1):=by rw [List.drop_eq_getElem_cons hk,hq]
   rw [EE] at hn;have hhq:here[q]! = l.xs[q]:=by
    have:=hl kk hk (Nat.le_refl _);rw [<- hq] at this;rw [this,getElem!_pos l.xs q Um]
   have hlen:here.length=l.xs.length:=hs.1;have hqh:q < here.length:=by omega
   have vO:here.set q l.xs[q]=here:=by
    rw [<- hhq,getElem!_pos here q hqh];exact List.set_getElem_self ..
   have aO:=fx.lt;have o:=fx.ord;obtain ⟨hN,QW⟩:∃ hN,hN=(l.xs[q].y.hi - l.xs[q].y.lo+1).toNat:=⟨_,rfl⟩
   obtain ⟨wN,Uo⟩:∃ wN,wN=(l.xs[q].x.hi - l.xs[q].x.lo+1).toNat:=⟨_,rfl⟩
   have sH:(uh l.xs[q]!).length=wN*hN:=by rw [getElem!_pos l.xs q Um,zfT,<- QW,<- Uo]
   obtain ⟨E,hE⟩:∃ E:Nat->Acc,E=fun t=>((Jw (sQ p.facts.xs part) l.xs q (part.drop (kk+1)) kk here t).map (pts.take kk ++ ·)).foldl BK A:=⟨_,rfl⟩
   have hE0:E 0=A:=by rw [hE];simp [zmN]
   have hEw:Hide (E (wN*hN)=((wh (sQ p.facts.xs part) l.xs (part.drop kk) kk here).map (pts.take kk ++ ·)).foldl BK A):=⟨by
    rw [hE,EE];simp only;rw [zm9 _ _ _ _ _ _ (by rw [sH];exact Nat.le_refl _)]⟩
   have hEn:Hide (∀ t X,(uh l.xs[q]!)[t]?=some X->E (t+1)=if sQ p.facts.xs part kk (here.set q (bT X))=true then ((wh (sQ p.facts.xs part) l.xs (part.drop (kk+1)) (kk+1) (here.set q (bT X))).map ((pts.take kk++[X]) ++ ·)).foldl BK (E t) else E t):=⟨fun t X hX=>by
    rw [hE];simp only;rw [zhC _ _ _ _ _ _ hX]
    by_cases hc:sQ p.facts.xs part kk (here.set q (bT X))=true
    .rw [if_pos hc,if_pos hc,List.map_append,List.foldl_append,List.map_map]
     congr 2
     funext c
     simp
    .rw [if_neg hc,if_neg hc];simp⟩
   have Xk:Hide (∀ t X,(uh l.xs[q]!)[t]?=some X->sQ p.facts.xs part kk (here.set q (bT X))=true->(E t).n+(wh (sQ p.facts.xs part) l.xs (part.drop (kk+1)) (kk+1) (here.set q (bT X))).length<=4000000000000000000):=⟨fun t X hX hc=>by
    have h1:=zhC (sQ p.facts.xs part) l.xs q (part.drop (kk+1)) kk here hX;have h2:=zqt (sQ p.facts.xs part) l.xs q (part.drop (kk+1)) kk here (t+1);rw [h1,if_pos hc,List.length_append,List.length_map] at h2;rw [hE];simp only;rw [zup,List.length_map];omega⟩
   have hEH:=Hide.mk hE;have hnH:=Hide.mk hn;have hlH:=Hide.mk hl;have hhNH:=Hide.mk QW;have hwNH:=Hide.mk Uo;have QR:=Hide.mk hq;have hrestH:=Hide.mk EE;have ihH:=Hide.mk ih;have hFH:=Hide.mk hF;clear hE hn hl hq EE ih hF;(repeat' first|simp [*,zb,c114,KQ]|(apply za<;>intro _ h<;>try simp [-Nat.le_zero_eq] at h))
   refine zp0 (n:=F) (b:=l.xs[q]) (KF hp.ok hp.sub hp.wf _ (List.getElem_mem Um)) ?_ rfl
    (fun i k H1=>oL I H H1/\∃ y mW,IA I part (E (i*hN+k)) mW (here.set q y) H1/\mW.take kk=pts.take kk) ?_ ?_ ?_ ?_ ?_
   .simp
   .rintro i k H1 H2 ⟨a1,y,mW,a2,a3⟩ hx bX hg
    refine ⟨⟨by rw [bX];exact a1.nx,fun j h1 h2 h3 h4 h5=>by rw [hg j (by omega)];exact a1.get j h1 h2 h3 h4 h5⟩,y,mW,⟨?_,?_,?_,?_,a2.best,a2.pts⟩,a3⟩
    .rw [hg _ (by omega)];exact a2.s
    .rw [hg _ (by omega)];exact a2.e
    .rw [hg _ (by omega)];exact a2.p
    .rw [hg _ (by omega)];exact a2.h
   .intro H1 bX hg
    refine ⟨⟨by omega,fun j h1 _ _ _ _=>hg j h1⟩,l.xs[q],pts,?_,rfl⟩
    rw [vO,Nat.zero_mul,Nat.zero_add,hE0]
    refine ⟨?_,?_,?_,?_,st.best,st.pts⟩
    .rw [hg _ (by omega)];exact st.s
    .rw [hg _ (by omega)];exact st.e
    .rw [hg _ (by omega)];exact st.p
    .rw [hg _ (by omega)];exact st.h
   .intro i H1 h;rw [<- QW] at h;rwa [show (i+1)*hN+0=i*hN+hN by rw [Nat.add_mul];omega]
   .rw [<- QW,<- Uo];rintro i k H1 hi hkk' ⟨kp,y,mW,st1,Di⟩ hx;obtain ⟨hT,hXe⟩:=zm1 (b:=l.xs[q]) (i:=i) (k:=k) (by rw [<- Uo];exact hi) (by rw [<- QW];exact hkk');have Kw:(uh l.xs[q]!)[i*hN+k]?=some ⟨l.xs[q].x.lo+i,l.xs[q].y.lo+k⟩:=by
     rw [getElem!_pos l.xs q Um,QW,List.getElem?_eq_getElem hT,hXe]
    have M9:bO ⟨l.xs[q].x.lo+i,l.xs[q].y.lo+k⟩ l.xs[q]:=mem_places.1 (by rw [<- hXe];exact List.getElem_mem _);have hXo:vH ⟨l.xs[q].x.lo+i,l.xs[q].y.lo+k⟩:=ztT hp Um (mem_places.2 M9);obtain ⟨u,hu⟩:∃ u,u=l.xs[q].x.lo+(i:Int):=⟨_,rfl⟩
    obtain ⟨v,hv⟩:∃ v,v=l.xs[q].y.lo+(k:Int):=⟨_,rfl⟩
    rw [<- hu,<- hv] at Kw M9 hXo ⊢;obtain ⟨t,ht⟩:∃ t,t=i*hN+k:=⟨_,rfl⟩
    have ht1:i*hN+(k+1)=t+1:=by omega
    rw [ht1];rw [<- ht] at st1 Kw;have hEt:=Hide.mk (hEn.h t _ Kw);have Xk:=Hide.mk (Xk.h t _ Kw);clear hT hXe Kw hu hv ht ht1 hEn;have hpl1:=st1.p;have hlh1:=st1.h;have Fz:=Hide.mk st1;have MQ:=Hide.mk kp;have KR:=Hide.mk Di;clear st1 Di sH hE0;(repeat' first|simp [*,zb]|(apply za<;>intro _ h<;>try simp [-Nat.le_zero_eq] at h))
    refine ⟨fun j hj=>(zf (show j≠H1.nx by omega)).trans (zg hj),?_⟩
    intro Hb hbn Xl;have tY:∀ j,j < H.nx->Hb.get j=H1.get j:=fun j hj=>by rw [Xl j (by omega),zf (by omega),zg (by omega)]
    have aR:Hb.get H1.nx=.cells true [.pure (.int .i64 u),.pure (.int .i64 v)]:=by rw [Xl _ (by omega),zn (by simp)]
    have hbn':Hb.nx=H1.nx+1:=by simpa using hbn
    have hkx:H.nx<=H1.nx:=MQ.h.nx;have kpb:oL I H Hb:=⟨by omega,fun j a b c e f=>by rw [tY j a];exact MQ.h.get j a b c e f⟩
    have QX:=fx.keep kpb;have y8:=QX.hb;have pb1:=QX.pb;have mb1:=QX.mb;have cb1:=QX.cb;obtain ⟨xs,EW,Ur,Xm⟩:=QX.mid;have OZ:kk < xs.length:=by omega
    have Us:=Xm kk OZ;have hh1:Hb.get I.au=.cells true (zq Box.cells (here.set q y)):=by rw [tY _ (by omega)];exact hlh1
    have hp1:Hb.get I.pid=.cells true (zq Pt.cells mW):=by rw [tY _ (by omega)];exact hpl1
    have pV:q < (here.set q y).length:=by simpa using hqh
    have si:(here.set q y).set q (bT ⟨u,v⟩)=here.set q (bT ⟨u,v⟩):=by rw [List.set_set]
    have lV:=H7 (f:=Box.cells) (sz:=4) (a:=bT ⟨u,v⟩) (fun _=>rfl) (fun _=>rfl) (by decide) pV;rw [si] at lV;have Ut:kk < mW.length:=by rw [Fz.h.pts.1];exact hk
    have xe:=H7 (f:=Pt.cells) (sz:=2) (a:=(⟨u,v⟩:Pt)) (fun _=>rfl) (fun _=>rfl) (by decide) Ut;simp only [Box.cells,Span.cells,Pt.cells,bT,List.map] at lV xe;have sJ:=fun H=>ze (G:=G) (n:=F) (H:=H) (caps:=[]) (ps:=[.agg (Pt.mk u v).cells]) ztK (by
     obtain ⟨F6,rfl⟩:=hF6;exact e103 (F6+5) ⟨u,v⟩)
    simp only [Box.cells,Span.cells,Pt.cells,bT,List.map] at sJ;have Bw:Gh (.cells true xs) 1 kk=some [xs[kk]]:=by
     simp only [Gh];rw [if_pos (by omega),List.drop_eq_getElem_cons OZ];rfl
    have q1:I.pb≠I.au:=by omega
    have q2:H1.nx≠I.au:=by omega
    have q3:I.hb≠I.au:=by omega
    have q4:I.hb≠I.pid:=by omega
    have q5:I.mb≠I.au:=by omega
    have q6:I.mb≠I.pid:=by omega
    have q7:I.mid≠I.au:=by omega
    have q8:I.mid≠I.pid:=by omega
    have q9:I.pid≠I.au:=by omega
    have q10:I.cb≠I.au:=by omega
    have q11:I.cb≠I.pid:=by omega
    have q12:I.au≠I.pid:=by omega
    have r1:I.au < Hb.nx:=by omega
    have r2:I.pid < Hb.nx:=by omega
    have M0:(kk:Int) < part.length:=by omega
    have hxoH:=Hide.mk Us;have hbgH:=Hide.mk Xl;have FB:=Hide.mk tY;clear Xm Us Xl tY pV si;(repeat' first|simp [*,zb,beside]|(apply za<;>intro _ h<;>try simp [-Nat.le_zero_eq] at h));obtain ⟨jQ,FC⟩:∃ h1,h1=here.set q (bT ⟨u,v⟩):=⟨_,rfl⟩
    obtain ⟨Aq,IB⟩:∃ p1,p1=mW.set kk ⟨u,v⟩:=⟨_,rfl⟩
    have Uu:here.set q ⟨⟨u,u⟩,⟨v,v⟩⟩=jQ:=FC.symm;rw [Uu,<- IB];obtain ⟨Hc,QY⟩:∃ Hc,Hc=(Hb.set I.au (.cells true (zq Box.cells jQ))).set I.pid (.cells true (zq Pt.cells Aq)):=⟨_,rfl⟩
    rw [<- QY];have YE:Hc.nx=Hb.nx:=by rw [QY];simp
    have QZ:∀ j,j≠I.au->j≠I.pid->Hc.get j=Hb.get j:=fun j h1 h2=>by rw [QY,zf h2,zf h1]
    have pU:Hc.get I.au=.cells true (zq Box.cells jQ):=by rw [QY,zf (by omega),zn (by omega)]
    have LU:Hc.get I.pid=.cells true (zq Pt.cells Aq):=by rw [QY,zn (by simpa using r2)]
    have kpc:oL I H Hc:=⟨by omega,fun j a b c e f=>by rw [QZ j f e];exact kpb.get j a b c e f⟩
    have Xn:=fx.keep kpc;obtain ⟨xs',O0,O1,Uw⟩:=Xn.mid;have exs:xs'=xs:=by
     rw [QZ _ (by omega) (by omega),EW] at O0
     simpa using O0.symm
    subst exs;have hox:=(Uw kk OZ).1;have KM:aP jQ l.xs:=by
     have:=hs.set (i:=q) (a:=bT ⟨u,v⟩) (b:=l.xs[q]) (by
      unfold bO at M9;simp only at M9;exact ⟨⟨M9.1,M9.2.1⟩,⟨M9.2.2.1,M9.2.2.2⟩⟩)
     rw [List.set_getElem_self] at this;rw [FC];exact this
    have Xd:Wf jQ:=by
     rw [FC];exact hw.set ⟨Int.le_refl _,Int.le_refl _⟩
    have Ux:aP jQ p.boxes.xs:=KM.trans hp.sub;obtain ⟨is,qy,fF⟩:=Ud (n:=10) (f:=aI) (sz:=1) (fun _=>rfl) hox;have Zz:jQ.length=l.xs.length:=KM.1;obtain ⟨s1,Uy,OT⟩:=Jm (n:=10) (f:=Box.cells) (sz:=4) (fun _=>rfl) pU Zz;obtain ⟨m1,m2,m3⟩:=hp.ml kk hk;have xJ:zK G F 74 [p.facts.pv Fact.cells 9,is.pv aI 1,s1.pv Box.cells 4]=some (.int .i64 (fP p.facts.xs jQ ml[kk]!)):=by
     obtain ⟨F6,rfl⟩:=hF6;have:=e74 F6 p.facts is s1 (by rw [qy];exact m1) (by rw [qy];omega) (fun f hf=>by rw [Uy];exact QU hp.ok Ux Xd hf);rw [qy,Uy] at this;exact this
    refine OA (caps:=[]) (ps:=[_,_,_]) sh74 (.cons (.pure _) (.cons fF (.cons OT .nil))) xJ rfl ?_
    have uk:=m3 jQ;have Na:Ug part.length Aq:=by
     rw [IB]
     refine ⟨by rw [List.length_set];exact Fz.h.pts.1,fun x hx=>?_⟩
     rcases List.mem_or_eq_of_mem_set hx with h|rfl
     .exact Fz.h.pts.2 x h
     .exact hXo
    have htk:Aq.take kk=pts.take kk:=by
     rw [IB,List.take_set_of_le (Nat.le_refl _)];exact KR.h
    have Uz:Aq.take (kk+1)=pts.take kk++[⟨u,v⟩]:=by
     rw [<- htk,List.take_add_one,IB];simp [Ut]
    have stc:IA I part (E t) Aq jQ Hc:=⟨by
      rw [QZ _ (by omega) (by omega),FB.h _ (by omega)];exact Fz.h.s,by
      rw [QZ _ (by omega) (by omega),FB.h _ (by omega)];exact Fz.h.e,LU,pU,Fz.h.best,Na⟩
    have O3:=hEt.h;have O4:=Xk.h;rw [<- FC] at O3 O4;have hcbc:=Xn.cb;have Nb:=Hide.mk stc;have hfxc:=Hide.mk Xn;have UA:=Hide.mk kpc;have UB:=Hide.mk O3;have hEcH:=Hide.mk O4;have UC:Hc.get H.nx=Hb.get H.nx:=QZ _ (by omega) (by omega);have OM:=Hide.mk UC;have O5:=Hide.mk YE;have IC:=Hide.mk FC;have htkH:=Hide.mk htk;have Nc:=Hide.mk Uz;have hqH2:=Hide.mk KM;have hwH2:=Hide.mk Xd;clear stc Xn kpc O3 O4 hEt Xk UC YE QZ pU LU O0 Uw hox Ux KM Xd fF OT xJ m1 m2 m3 QY hh1 hp1 lV xe Bw EW htk Uz Na FC IB sJ aR y8 pb1 mb1 cb1 QX kpb
    by_cases bH:sQ p.facts.xs part kk jQ=true
    ·have JS:=uk.2 bH;have hEc3:=Hide.mk (hEcH.h bH);have O6:Hide (E (t+1)=((wh (sQ p.facts.xs part) l.xs (part.drop (kk+1)) (kk+1) jQ).map ((pts.take kk++[⟨u,v⟩]) ++ ·)).foldl BK (E t)):=⟨by rw [UB.h,if_pos bH]⟩
     clear uk;generalize fP p.facts.xs jQ ml[kk]! = B at *;have w1:IntKind.i64.wrap ((kk:Int)+1)=(kk+1:Nat):=by rw [wrap64 (by have:=hp.few;omega) (by have:=hp.few;omega)];omega
     have hFx:=hFH.h;have vT:∀ j (h:j < part.length),kk+1<=j->jQ[part[j]]! = l.xs[part[j]]! := fun j h hj=>by
      have h1:=hlH.h j h (by omega);have Q0:=QR.h;have hnq:q≠part[j]:=by
       rw [Q0];intro e;have:=(List.getElem_inj hp.nodup).1 e;omega
      rw [<- h1,IC.h];simp [List.getElem?_set,hnq]
     obtain ⟨H',r1,r2,O7,r3,r4⟩:=ihH.h n (kk+1) Hc (E t) Aq jQ (by omega) hfxc.h Nb.h hqH2.h hwH2.h vT hEc3.h;rw [<- hFx] at r1;have hl2H:=Hide.mk vT;have hFxH:=Hide.mk hFx;clear vT hFx;(repeat' first|simp [*,zb,KQ]|(apply za<;>intro _ h<;>try simp [-Nat.le_zero_eq] at h));obtain ⟨F1,rfl⟩:∃ F1,F=F1+1:=⟨n+7+3*d,by have:=hFxH.h;omega⟩
     refine BI (n:=F1) zjF ⟨.aQ [],H',by simpa [KQ] using r1,?_⟩
     have aY:=r2.nx;have lW:H'.get H.nx=Hb.get H.nx:=(r2.get _ (by have:=O5.h;omega) (by omega) (by omega) (by omega) (by omega)).trans OM.h;have kpf:=Hide.mk (UA.h.trans r2);rw [Nc.h] at r4;have htf:O7.take kk=pts.take kk:=by
      have h2:=congrArg (List.take kk) r4;rw [List.take_take,Nat.min_eq_left (by omega)] at h2;rw [h2,List.take_append_of_le_length (by rw [List.length_take];have:=st.pts.1;omega),List.take_take,Nat.min_self]
     have UD:IA I part (E (t+1)) O7 (here.set q (bT ⟨u,v⟩)) H':=by
      rw [O6.h,<- IC.h];rw [Nc.h] at r3;exact r3
     have UE:=Hide.mk UD;have htfH:=Hide.mk htf;have RS:=O5.h;clear r1 r2 r3 r4 UD htf;(repeat' first|simp [*,zb]|(apply za<;>intro _ h<;>try simp [-Nat.le_zero_eq] at h));exact ⟨by omega,kpf.h,_,O7,UE.h,htfH.h⟩
    .have JS:¬ fP p.facts.xs jQ ml[kk]! < 0:=fun h=>bH (uk.1 h);have O6:Hide (E (t+1)=E t):=⟨by rw [UB.h,if_neg bH]⟩
     clear uk;generalize fP p.facts.xs jQ ml[kk]! = B at *;(repeat' first|simp [*,zb]|(apply za<;>intro _ h<;>try simp [-Nat.le_zero_eq] at h))
     refine ⟨OM.h,by have:=O5.h;omega,UA.h,bT ⟨u,v⟩,Aq,?_,htkH.h⟩
     rw [O6.h,<- IC.h];exact Nb.h
   .rw [<- Uo];rintro H1 ⟨kp,y,mW,st1,Di⟩;rw [Nat.add_zero,hEw.h] at st1;have fx1:=fx.keep kp;have y8:=fx1.hb;have h1h:=st1.h;have pV:q < (here.set q y).length:=by simpa using hqh
    have si:(here.set q y).set q l.xs[q]=here:=by rw [List.set_set,vO]
    have lV:=H7 (f:=Box.cells) (sz:=4) (a:=l.xs[q]) (fun _=>rfl) (fun _=>rfl) (by decide) pV;rw [si] at lV;simp only [Box.cells,Span.cells,List.map] at lV;have Ar:=Hide.mk st1;have Om:=zx h1h;clear fx1;(repeat' first|simp [*,zb]|(apply za<;>intro _ h<;>try simp [-Nat.le_zero_eq] at h))
    refine ⟨⟨by simpa using kp.nx,fun j a b c e f=>by rw [zf f];exact kp.get j a b c e f⟩,mW,⟨?_,?_,?_,?_,Ar.h.best,Ar.h.pts⟩,Di⟩
    .rw [zf (by omega)];exact Ar.h.s
    .rw [zf (by omega)];exact Ar.h.e
    .rw [zf (by omega)];exact Ar.h.p
    .rw [zn Om]
  obtain ⟨v,H',h1,rfl,h2⟩:=main;rw [<- hF];exact ⟨H',h1,h2⟩
theorem zge {α:Type} [BEq α] [LawfulBEq α] {x:α}:∀ {l:List α} {j:Nat} (h:j < l.length),j < l.idxOf x->l[j]≠x
 | a::l,j,h,hj=>by
  rw [List.idxOf_cons] at hj
  by_cases e:a=x
  .subst e;simp at hj
  .have e':(a == x)=false:=by simpa using e
   rw [e'] at hj;simp only [cond_false] at hj
   cases j with
   | zero=>simpa using e
   | succ j=>simpa using zge (l:=l) (by simpa using h) (by omega)
open Classical in
noncomputable def nE (part:List Nat) (x:Int):Int:=if x∈zZ part then ((zZ part).idxOf x:Nat) else -1
theorem Xo (part:List Nat) (x:Int):sD (zZ part) x (nE part x):=by
 unfold nE
 split
 .rename_i h;have hl:=List.idxOf_lt_length_of_mem h
  refine .inl ⟨(zZ part).idxOf x,hl,rfl,List.getElem_idxOf hl,fun j hj aO e=>?_⟩
  exact zge hj aO e
 .rename_i h;exact .inr ⟨rfl,h⟩
theorem zmt {part:List Nat} {x:Int} (h0:0<=x):x∈zZ part↔x.toNat∈part:=by
 unfold zZ;rw [List.mem_map]
 constructor
 .rintro ⟨k,hk,rfl⟩;simpa using hk
 .intro h;exact ⟨x.toNat,h,by omega⟩
theorem Xp {part:List Nat} {x:Int} (h0:0<=x) (h:x.toNat∈part):nE part x=(part.idxOf x.toNat:Nat):=by
 have hl:=List.idxOf_lt_length_of_mem h
 refine (Xo part x).unique (.inl ⟨part.idxOf x.toNat,by rw [Ez];exact hl,rfl,?_,fun j hj aO e=>?_⟩)
 .simp only [zZ,List.getElem_map];rw [List.getElem_idxOf hl];omega
 .simp only [zZ,List.getElem_map] at e;have oZ:j < part.length:=by rw [Ez] at hj;exact hj
  exact zge oZ aO (by omega)
noncomputable def sF (part:List Nat) (f:Fact):Int:=if f.kind=2 then max (max (nE part f.a) (nE part f.b)) (nE part f.c) else max (nE part f.a) (nE part f.b)
theorem zme {part:List Nat} {f:Fact} (ha:0<=f.a) (hb:0<=f.b) (hc:f.kind=2->0<=f.c) (hw:Within part f):sF part f=(Gl part f:Nat):=by
 unfold sF Gl;rw [Xp ha hw.a,Xp hb hw.b]
 split
 .rename_i h;rw [Xp (hc h) (hw.c h)];omega
 .omega
open Classical in
noncomputable def nL (part:List Nat) (k:Nat) (f:Fact):Bool:=decide (sF part f=k)&&decide (f.a∈zZ part)
noncomputable def mX (fs:List Fact) (part:List Nat) (k:Nat):List Int:=(jS fs.length).filter fun i=>nL part k fs[i.toNat]!
theorem zo8 (fs:List Fact) (part:List Nat) (k:Nat):uX fs (mX fs part k):=fun i hi=>M3 fs i (List.mem_filter.1 hi).1
theorem zrG (fs:List Fact) (part:List Nat) (k:Nat):(mX fs part k).length<=fs.length:=by
 have:=List.length_filter_le (fun i:Int=>nL part k fs[i.toNat]!) (jS fs.length);rwa [Js] at this
theorem zr6 {fs:List Fact} {part:List Nat} {k:Nat} (hn:∀ f∈fs,0<=f.a/\0<=f.b/\(f.kind=2->0<=f.c)) (hw:∀ f∈fs,f.a.toNat∈part->Within part f) (here:List Box):fP fs here (mX fs part k) < 0↔sQ fs part k here=true:=by
 have h1:=TR (fs:=fs) (l:=here) (is:=mX fs part k) fun i hi=>(zo8 fs part k i hi).1;have h2:(fP fs here (mX fs part k) < 0)↔¬ ∃ i∈mX fs part k,zJ fs[i.toNat]! here=true:=by rw [<- h1];omega
 rw [h2];have aH:∀ f∈fs,(nL part k f=true↔(part.contains f.a.toNat&&decide (Gl part f=k))=true):=fun f hf=>by
  obtain ⟨a1,a2,a3⟩:=hn f hf;unfold nL;simp only [Bool.and_eq_true,decide_eq_true_eq,List.contains_iff_mem,List.elem_eq_mem,zmt a1]
  constructor
  .rintro ⟨b1,b2⟩;rw [zme a1 a2 a3 (hw f hf b2)] at b1;exact ⟨b2,by omega⟩
  .rintro ⟨b1,b2⟩;rw [zme a1 a2 a3 (hw f hf b1)];exact ⟨by omega,b1⟩
 unfold sQ;rw [List.all_eq_true]
 constructor
 .intro h f hf
  by_cases hc:(part.contains f.a.toNat&&decide (Gl part f=k))=true
  .rw [hc];simp only [Bool.not_true,Bool.false_or]
   cases hs:zJ f here with
   | false=>rfl
   | true =>
    exfalso;obtain ⟨j,hj,rfl⟩:=List.mem_iff_getElem.1 hf
    refine h ⟨(j:Nat),List.mem_filter.2 ⟨jy.2 ⟨j,hj,rfl⟩,?_⟩,?_⟩
    .rw [show ((j:Int)).toNat=j by simp,getElem!_pos fs j hj];exact (aH _ hf).2 hc
    .rw [show ((j:Int)).toNat=j by simp,getElem!_pos fs j hj];exact hs
  .simp only [Bool.not_eq_true] at hc;rw [hc];rfl
 .rintro h ⟨i,hi,hs⟩;obtain ⟨vK,F5⟩:=List.mem_filter.1 hi;obtain ⟨j,hj,rfl⟩:=jy.1 vK;rw [show ((j:Int)).toNat=j by simp,getElem!_pos fs j hj] at F5 hs;have:=h _ (List.getElem_mem hj);rw [(aH _ (List.getElem_mem hj)).1 F5,hs] at this;simp at this
structure fE where
 part:List Nat
 n:Nat
 ends:List (Option (List Pt))
 first:Option (List Pt)
def fE.cells (s:fE):List PV:=[lK s.part,.int .i64 s.n,.slice false 4 (chunks 4 s.part.length (s.ends.map iN)),iN s.first]
def fE.pv (s:fE):PV:=.ptr false s.cells 0
def IE (b:Box) (part:List Nat):fE:=⟨part,(rF b).toNat,[some [⟨b.x.lo,b.y.lo⟩],some [⟨b.x.hi,b.y.lo⟩],some [⟨b.x.lo,b.y.lo⟩],some [⟨b.x.lo,b.y.hi⟩]],some [⟨b.x.lo,b.y.lo⟩]⟩
def KS (facts:List Fact) (l:List Box) (part:List Nat):fE:=⟨part,(jJ facts l part).length,(List.range (4*part.length)).map fun j=>TL (lL j) (jJ facts l part),(jJ facts l part).head?⟩
def jE (facts:List Fact) (l:List Box) (part:List Nat):fE:=if part.length=1 then IE l[part[0]!]! part else KS facts l part
structure uY (facts:List Fact) (l:List Box) (part:List Nat) (s:fE):Prop where
 same:s.part=part
 n:s.n=(jJ facts l part).length
 len:s.ends.length=4*part.length
 none:s.n=0->s.first=Option.none
 first:s.n≠0->∃ c∈jJ facts l part,s.first=some c
 ends:s.n≠0->∀ j (h:j < s.ends.length),∃ c∈jJ facts l part,s.ends[j]=some c/\∀ c'∈jJ facts l part,lL j c<=lL j c'
theorem zst (facts:List Fact) (l:List Box) (part:List Nat):uY facts l part (KS facts l part):=by
 refine ⟨rfl,rfl,by simp [KS],fun h=>?_,fun h=>?_,fun h j hj=>?_⟩
 .have:jJ facts l part=[]:=List.eq_nil_of_length_eq_zero h;simp [KS,this]
 .show ∃ c∈jJ facts l part,(jJ facts l part).head?=some c;have h':(jJ facts l part).length≠0:=h
  cases hs:jJ facts l part with
  | nil=>rw [hs] at h';simp at h'
  | cons c cs=>exact ⟨c,by simp,rfl⟩
 .have h':jJ facts l part≠[]:=fun e=>h (by simp [KS,e]);obtain ⟨e,h1,h2,h3⟩:=zsG (lL j) h';exact ⟨e,h2,by simp [KS,h1],h3⟩
theorem O8 {facts:List Fact} {l:List Box} {i:Nat} (hn:∀ f∈facts,f.a.toNat≠i):∀ c,c∈jJ facts l [i]↔∃ x,c=[x]/\bO x l[i]! := by
 intro c;rw [QM (by simp) (fun f hf h=>absurd (by simpa using h) (hn f hf))]
 constructor
 .rintro ⟨⟨h1,h2⟩,_⟩
  match c,h1 with
  | [x],_=>exact ⟨x,rfl,by simpa using h2 0 (by simp) (by simp)⟩
 .rintro ⟨x,rfl,h⟩
  refine ⟨⟨rfl,fun k h1 h2=>?_⟩,fun f hf ha=>absurd (by simpa using ha) (hn f hf)⟩
  have:k=0:=by simpa using h1
  subst this
  simpa using h
theorem zpx {facts:List Fact} {l:List Box} {i:Nat} (hn:∀ f∈facts,f.a.toNat≠i):(jJ facts l [i]).length=(uh l[i]!).length:=by
 have h1:(jJ facts l [i]).Nodup:=znh ..;have h2:((uh l[i]!).map fun x=>[x]).Nodup:=Xa (fun a b h=>by simpa using h) (zgk _);have:=zr2 h1 h2 fun c=>by
  rw [O8 hn,List.mem_map]
  constructor
  .rintro ⟨x,rfl,h⟩;exact ⟨x,mem_places.2 h,rfl⟩
  .rintro ⟨x,h,rfl⟩;exact ⟨x,rfl,mem_places.1 h⟩
 simpa using this
theorem zt8 {facts:List Fact} {l:List Box} {i:Nat} (hi:i < l.length) (hw:Wf l) (hn:∀ f∈facts,f.a.toNat≠i):uY facts l [i] (IE l[i]! [i]):=by
 have hb:jl l[i]! := by rw [getElem!_pos l i hi];exact hw _ (List.getElem_mem hi)
 have ha:=TW hb;have hpa:=ze6 hb;generalize hB:l[i]! = b at *
 refine ⟨rfl,?_,rfl,fun h=>?_,fun h=>?_,fun h j hj=>?_⟩
 .rw [zpx hn,hB];show (rF b).toNat=_;omega
 .exfalso;have:(rF b).toNat=0:=h;omega
 .refine ⟨_,(O8 hn _).2 ⟨⟨b.x.lo,b.y.lo⟩,rfl,?_⟩,rfl⟩
  rw [hB];exact ⟨Int.le_refl _,hb.1,Int.le_refl _,hb.2⟩
 .have hj4:j < 4:=hj;have h5:j=0\/j=1\/j=2\/j=3:=by omega
  have key:∀ c'∈jJ facts l [i],∃ x,c'=[x]/\bO x b:=fun c' h=>by rw [<- hB];exact (O8 hn c').1 h
  rcases h5 with rfl|rfl|rfl|rfl
  .refine ⟨[⟨b.x.lo,b.y.lo⟩],(O8 hn _).2 ⟨_,rfl,by rw [hB];exact ⟨Int.le_refl _,hb.1,Int.le_refl _,hb.2⟩⟩,rfl,fun c' hc=>?_⟩
   obtain ⟨x,rfl,hx⟩:=key c' hc;unfold bO at hx;simp [lL,lY];omega
  .refine ⟨[⟨b.x.hi,b.y.lo⟩],(O8 hn _).2 ⟨_,rfl,by rw [hB];exact ⟨hb.1,Int.le_refl _,Int.le_refl _,hb.2⟩⟩,rfl,fun c' hc=>?_⟩
   obtain ⟨x,rfl,hx⟩:=key c' hc;unfold bO at hx;simp [lL,lY];omega
  .refine ⟨[⟨b.x.lo,b.y.lo⟩],(O8 hn _).2 ⟨_,rfl,by rw [hB];exact ⟨Int.le_refl _,hb.1,Int.le_refl _,hb.2⟩⟩,rfl,fun c' hc=>?_⟩
   obtain ⟨x,rfl,hx⟩:=key c' hc;unfold bO at hx;simp [lL,lY];omega
  .refine ⟨[⟨b.x.lo,b.y.hi⟩],(O8 hn _).2 ⟨_,rfl,by rw [hB];exact ⟨Int.le_refl _,hb.1,hb.2,Int.le_refl _⟩⟩,rfl,fun c' hc=>?_⟩
   obtain ⟨x,rfl,hx⟩:=key c' hc;unfold bO at hx;simp [lL,lY];omega
theorem zoD {facts:List Fact} {l:List Box} {part:List Nat} (hp:∀ k∈part,k < l.length) (hw:Wf l) (hn:∀ f∈facts,f.a.toNat∈part->Within part f) (hd:∀ f∈facts,0<=f.a/\0<=f.b/\f.a≠f.b):uY facts l part (jE facts l part):=by
 unfold jE
 split
 .rename_i h
  match part,h with
  | [i],_ =>
   refine zt8 (hp i (by simp)) hw fun f hf e=>?_
   have w:=hn f hf (by simp [e]);have h1:=w.b;simp only [List.mem_singleton] at h1;have:=hd f hf;omega
 .exact zst ..
theorem zg0 {α:Type}:∀ (m:Nat) (L:List α) (k:Nat),k < m->(chunks 4 m L)[k]?=some ((L.drop (4*k)).take 4)
 | 0,_,_,h=>by omega
 | m+1,L,0,_=>by simp [chunks]
 | m+1,L,k+1,h=>by
  simp only [chunks,List.getElem?_cons_succ];rw [zg0 m (L.drop 4) k (by omega),List.drop_drop]
  congr 3
  omega
noncomputable def iB (fs:List Fact) (part:List Nat) (k i:Nat):List Int:=(jS i).filter fun j:Int=>nL part k fs[j.toNat]!
theorem zlt (fs:List Fact) (part:List Nat) (k:Nat):iB fs part k 0=[]:=by simp [iB,jS]
theorem znl (fs:List Fact) (part:List Nat) (k:Nat):iB fs part k fs.length=mX fs part k:=rfl
theorem zm3 (fs:List Fact) (part:List Nat) (k i:Nat):(iB fs part k i).length<=i:=by
 have:=List.length_filter_le (fun j:Int=>nL part k fs[j.toNat]!) (jS i);rwa [Js] at this
theorem zpn {fs:List Fact} {part:List Nat} {k i:Nat} (h:i < fs.length):iB fs part k i++(if nL part k fs[i]=true then [(i:Int)] else [])=iB fs part k (i+1):=by
 unfold iB jS;rw [List.range_succ,List.map_append,List.filter_append]
 congr 1
 simp [h,List.filter_cons]
theorem zmJ {H:Heap} {jX m n:Nat} {cs:List AV} {ps:List PV} (h:H.get jX=.cells true cs) (hl:cs.length=4*m) (hf:FrzL H false n cs ps):FrzK H false (n+1) (.row jX 4 0 m) (.slice false 4 (chunks 4 m ps)):=by
 obtain ⟨ids,h1⟩:=hf;have hp:=zft h1;have h2:(cs.drop (0*4)).take (m*4)=cs:=by
  rw [Nat.zero_mul,List.drop_zero];exact List.take_of_length_le (by omega)
 refine ⟨jX::ids,?_⟩
 unfold freeze;simp only [h,h2,h1];rw [if_pos (by omega)]
theorem zjD (B:List (Option (List Pt))):zq mV B=(B.map iN).map .pure:=by
 induction B with
 | nil=>rfl
 | cons b B ih=>rw [OB,ih];rfl
theorem zrv {H:Heap} {jX m n:Nat} {B:List (Option (List Pt))} (h:H.get jX=.cells true (zq mV B)) (hl:B.length=4*m):FrzK H false (n+2) (.row jX 4 0 m) (.slice false 4 (chunks 4 m (B.map iN))) :=
 zmJ h (by rw [zjD];simpa using hl) (by rw [zjD];exact FrzL.pK _)
theorem zmx {H:Heap} {jX nZ:Nat} {D:fE} (hs:H.get nZ=.cells true [.pure (lK D.part),.pure (.int .i64 D.n),.row jX 4 0 D.part.length,.pure (iN D.first)]) (he:FrzK H false 11 (.row jX 4 0 D.part.length) (.slice false 4 (chunks 4 D.part.length (D.ends.map iN)))):∃ ids,freeze H false qw (.box nZ 0)=some (D.pv,ids):=by
 obtain ⟨ids,h1⟩:=FrzL.cons (FrzK.pure (H:=H) (k:=false) (n:=10) (lK D.part)) (.cons (FrzK.pure (.int .i64 D.n)) (.cons he (.cons (FrzK.pure (iN D.first)) .nil)))
 refine ⟨nZ::ids,?_⟩
 show freeze H false 12 (.box nZ 0)=_;unfold freeze;simp only [hs,h1];rfl
theorem zqB {H:Heap} {jX nZ:Nat} {D:fE} (hs:H.get nZ=.cells true [.pure (lK D.part),.pure (.int .i64 D.n),.row jX 4 0 D.part.length,.pure (iN D.first)]) (he:H.get jX=.cells true (zq mV D.ends)) (hl:D.ends.length=4*D.part.length):∃ ids,freeze H false qw (.box nZ 0)=some (D.pv,ids):=zmx hs (zrv (n:=9) he hl)
structure nM (fs:List Fact) (part:List Nat) (mb:Nat) (H:Heap) (V:AV) (k:Nat):Prop where
 low:∀ id,Names V id->mb < id
 ex:∃ xs:List AV,RowA H V xs/\xs.length=k/\xs.all AV.one=true/\∀ j (h:j < xs.length),bL aI 1 H xs[j] (mX fs part j)/\∀ id,Names xs[j] id->mb < id/\¬ Names V id
theorem nM.nil (fs:List Fact) (part:List Nat) (mb:Nat) (H:Heap):nM fs part mb H (.pure .nils) 0 :=
 ⟨fun id ⟨_,_,_,h⟩=>by simp at h,[],RowA.nil,rfl,rfl,fun j h=>by simp at h⟩
theorem nM.keep {fs:List Fact} {part:List Nat} {mb:Nat} {H H':Heap} {V:AV} {k:Nat} (h:nM fs part mb H V k) (hg:∀ id,mb < id->id < H.nx->H'.get id=H.get id):nM fs part mb H' V k:=by
 obtain ⟨xs,h1,h2,h3,h4⟩:=h.ex
 refine ⟨h.low,xs,h1.keep fun id hn=>hg id (h.low id hn) (h1.names_lt hn),h2,h3,fun j hj=>?_⟩
 obtain ⟨a,b⟩:=h4 j hj;exact ⟨a.keep fun id ⟨n,hn⟩=>hg id (b id ⟨_,_,_,hn⟩).1 (a.names_lt ⟨_,_,_,hn⟩),b⟩
theorem nM.lt {fs:List Fact} {part:List Nat} {mb:Nat} {H:Heap} {V:AV} {k:Nat} (h:nM fs part mb H V k) {id:Nat} (hn:Names V id):id < H.nx:=by
 obtain ⟨xs,h1,_⟩:=h.ex;exact h1.names_lt hn
theorem zkx {fs:List Fact} {part:List Nat} {mb:Nat} {H:Heap} {V u:AV} {k bytes:Nat} {b:AV} {K:AV->Heap->Prop} {u'} (hJ:nM fs part mb H V k) (hb:zO H 1 b=some ([u],1)) (hu:bL aI 1 H u (mX fs part k))
  (hn:∀ id,Names u id->mb < id/\¬ Names V id) (Xq:mb < H.nx) (hm:k+1<=zo/\(k+1)*bytes<=zo)
  (hk:∀ v' H',nM fs part mb H' v' (k+1)->H.nx<=H'.nx->(∀ c,c<=mb->H'.get c=H.get c)->AV.one v'=true->AV.cells v'=[v']->K v' H'):wpE 0 (zm H 1 bytes V b) H K u':=by
 obtain ⟨xs,h1,h2,h3,h4⟩:=hJ.ex
 refine zhf h1 hb hu.one.1 h3 (by rw [h2];exact hm) ?_
 intro v' H' hr bX ah aR o1 o2
 refine hk v' H' ⟨fun id h=>by have:=aR id h;omega,xs++[u],hr,by simp [h2],by simp [h3,hu.one.1],fun j hj=>?_⟩ bX (fun c hc=>ah c (by omega) fun h=>by have:=hJ.low c h;omega) o1 o2
 rw [List.getElem_append]
 split
 .rename_i oZ;obtain ⟨a,b⟩:=h4 j oZ
  refine ⟨a.keep fun id ⟨n,hn⟩=>?_,fun id au=>⟨(b id au).1,fun h=>?_⟩⟩
  .exact ah id (a.names_lt ⟨_,_,_,hn⟩) (b id ⟨_,_,_,hn⟩).2
  .have:=aR id h;have:=a.names_lt au;omega
 .rename_i oZ;have ej:j=k:=by simp at hj;omega
  subst ej;simp only [List.getElem_singleton]
  refine ⟨hu.keep fun id ⟨n,jD⟩=>?_,fun id au=>⟨(hn id au).1,fun h=>?_⟩⟩
  .exact ah id (hu.names_lt ⟨_,_,_,jD⟩) (hn id ⟨_,_,_,jD⟩).2
  .have:=aR id h;have:=hu.names_lt au;omega
theorem zvo {p:Problem} {l:Sl Box} {part:List Nat} (ok:ae p) (sub:aP l.xs p.boxes.xs) (wf:Wf l.xs) (nodup:part.Nodup) (lt:∀ i∈part,i < l.xs.length) (pos:0 < part.length) (few:part.length<=12) (within:∀ f∈p.facts.xs,f.a.toNat∈part->Within part f) :
  ∃ ml:List (List Int),(∀ k,k < part.length->ml[k]! = mX p.facts.xs part k)/\ChP p l part ml:=by
 have hm:∀ k,k < part.length->((List.range part.length).map (mX p.facts.xs part))[k]! = mX p.facts.xs part k:=fun k hk=>by
  rw [getElem!_pos _ k (by simpa using hk)];simp
 refine ⟨(List.range part.length).map (mX p.facts.xs part),hm,⟨ok,sub,wf,nodup,lt,pos,few,fun k hk=>?_⟩⟩
 rw [hm k hk]
 refine ⟨zo8 p.facts.xs part k,Nat.le_trans (zrG ..) ok.nf,zr6 (fun f hf=>?_) within⟩
 have h:=(CZ f _).1 (ok.fact f hf)
 refine ⟨by omega,by omega,fun h2=>?_⟩
 have:=h.2.2.2.2.2.1 h2;omega
theorem zqU (m:Nat):okB m (List.replicate (4*m) none):=⟨by simp,fun o ho d hd=>by have:=List.eq_of_mem_replicate ho;rw [this] at hd;cases hd⟩
structure UF (l:Sl Box) (part:List Nat) (au hb:Nat) (H:Heap):Prop where
 e:H.get 0=.cells true (zq mV (List.replicate (4*part.length) none))
 s:H.get 1=.cells true (Iz part 0 (KD (4*part.length)))
 sb:H.get 2=.cells true [.box 1 0]
 h:H.get au=.cells true (zq Box.cells l.xs)
 hb:H.get hb=.cells true [.row au 4 0 l.xs.length]
theorem UF.keep {l:Sl Box} {part:List Nat} {au hb mb:Nat} {H H':Heap} (h:UF l part au hb H) (o:2 < au/\au < hb/\hb < mb) (hg:∀ c,c < mb->H'.get c=H.get c):UF l part au hb H' :=
 ⟨by rw [hg _ (by omega)];exact h.e,by rw [hg _ (by omega)];exact h.s,by rw [hg _ (by omega)];exact h.sb,by rw [hg _ (by omega)];exact h.h,by rw [hg _ (by omega)];exact h.hb⟩
theorem zsN (m:Nat):(List.replicate m (([PV.nils,PV.nils,PV.nils,PV.nils]:List PV).map AV.pure)).flatten=zq mV (List.replicate (4*m) none):=by
 induction m with
 | zero=>rfl
 | succ m ih =>
  rw [List.replicate_succ,List.flatten_cons,ih,show 4*(m+1)=4*m+1+1+1+1 by omega];simp only [List.replicate_succ,OB];rfl
@[simp] theorem zu6 (f:Nat) (a:PV) (i o:Nat) (l:List AV):JK f (.pure a::.box i o::l)=.func f (.pure a::.box i o::l):=rfl
@[simp] theorem zts (f:Nat) (l:List AV):AV.cells (.func f l)=[.func f l]:=rfl
@[simp] theorem zuy (f:Nat) (l:List AV):AV.one (.func f l)=true:=rfl
theorem ztg (m:Nat):(List.replicate m (([PV.int .i64 0,PV.int .i64 0]:List PV).map AV.pure)).flatten=zq Pt.cells (List.replicate m ⟨0,0⟩):=by
 simp [zq]
theorem yl {X:Option (AV×Heap)} {v:AV} {P:Heap->Prop} {k:AV->Heap->Prop} (h:∃ H',X=some (v,H')/\P H') (h2:∀ H',P H'->k v H'):∃ v H',X=some (v,H')/\k v H':=by
 obtain ⟨H',a,b⟩:=h;exact ⟨v,H',a,h2 H' b⟩
structure Dj (p:Problem) (l:Sl Box) (part:List Nat):Prop where
 ok:ae p
 sub:aP l.xs p.boxes.xs
 wf:Wf l.xs
 nodup:part.Nodup
 lt:∀ i∈part,i < l.xs.length
 pos:0 < part.length
 few:part.length<=12
 within:∀ f∈p.facts.xs,f.a.toNat∈part->Within part f
 sols:1 < part.length->(jJ p.facts.xs l.xs part).length<=1000000000000000000
theorem sh97:G.shared 97=false:=by decide
theorem e97 (n:Nat) (p:Problem) (l:Sl Box) (part:List Nat) (h:Dj p l part):zK G (n+50) 97 [.agg p.cells,l.pv Box.cells 4,lK part]=some ((jE p.facts.xs l.xs part).pv):=by
 refine zz (zy _) rfl g97 rfl ?_
 by_cases h1:part.length=1
 case pos =>
  obtain ⟨i,rfl⟩:∃ i,part=[i]:=by
   match part,h1 with
   | [i],_=>exact ⟨i,rfl⟩
  have hi:=h.lt i (by simp);have hv:=aF.1 (KF h.ok h.sub h.wf _ (List.getElem_mem hi));have hD:jE p.facts.xs l.xs [i]=IE l.xs[i] [i]:=by
   simp [jE,hi]
  rw [hD];have hb:=h.wf _ (List.getElem_mem hi);have ha:=TW hb;have hz1:=fun H=>ze (G:=G) (n:=n+49) (H:=H) (caps:=[]) (ps:=[.agg l.xs[i].x.cells]) sh92 (e92 (n+48) l.xs[i].x (by omega) (by omega));have hz2:=fun H=>ze (G:=G) (n:=n+49) (H:=H) (caps:=[]) (ps:=[.agg l.xs[i].y.cells]) sh92 (e92 (n+48) l.xs[i].y (by omega) (by omega));have hw:=zta (u:=l.xs[i].x.hi - l.xs[i].x.lo+1) (v:=l.xs[i].y.hi - l.xs[i].y.lo+1) (by have:=hb.1;omega) (by omega) (by have:=hb.2;omega) (by omega);have hiI:(i:Int) < l.xs.length:=by omega
  have TQ:=zpC (sz:=4) (bytes:=96) (zero:=[.nils,.nils,.nils,.nils]) (k:=.i64) (k':=.i64) (n:=1) (by decide);have hmk1:Tn 4 96 [.nils,.nils,.nils,.nils] (.pure (.int .i64 1)) (.pure (.int .i64 1))=some (.new (.cells true [.pure .nils,.pure .nils,.pure .nils,.pure .nils]) fun id=>.row id 4 0 1):=TQ;have hA:Hide (((rF l.xs[i]).toNat:Int)=(l.xs[i].x.hi - l.xs[i].x.lo+1)*(l.xs[i].y.hi - l.xs[i].y.lo+1)):=⟨by
   rw [Int.toNat_of_nonneg (by omega)];rfl⟩
  simp only [Span.cells,List.map] at hz1 hz2;have hpk0:BA 1 (.pure (.slice false 1 [[.int .i64 (i:Int)]])) (.pure (.int .i64 0))=some (.val (.pure (.ptr false [.int .i64 (i:Int)] 0))):=by simp [BA]
  have O9:∀ id:Nat,BA 4 (.row id 4 0 1) (.pure (.int .i64 0))=some (.val (.box id 0)):=fun id=>by simp [BA]
  clear hv hb ha TQ hD h1;(repeat' first|simp [*,zb,c97,lK,Box.cells,Span.cells,zk,Rw,chunks,beside]|(apply za<;>intro _ h<;>try simp [-Nat.le_zero_eq] at h)|(show wpE 0 (zm ..) ..;refine zA ?_)|(refine zt fun v2 H2 fD aY aJ aK aL aM=>?_))
  refine zmx (jX:=0) (D:=IE l.xs[i] [i]) ?_ ?_
  .simp [IE,hA.h,lK,iN,Sl.pv,Pt.cells]
  .refine zmJ (n:=10) (m:=1) (cs:=[.pure (iN (some [⟨l.xs[i].x.lo,l.xs[i].y.lo⟩])),.row 4 2 0 1,.pure (iN (some [⟨l.xs[i].x.lo,l.xs[i].y.lo⟩])),.row 5 2 0 1]) ?_ rfl ?_
   .simp [iN,Sl.pv,Pt.cells]
   .refine .cons (.pure _) (.cons (sO (n:=8) (f:=Pt.cells) (sz:=2) (l:=[⟨l.xs[i].x.hi,l.xs[i].y.lo⟩]) (fun _=>rfl) ?_ rfl) (.cons (.pure _) (.cons (sO (n:=8) (f:=Pt.cells) (sz:=2) (l:=[⟨l.xs[i].x.lo,l.xs[i].y.hi⟩]) (fun _=>rfl) ?_ rfl) .nil)))
    .simp [zq]
    .simp [zq]
 case neg =>
  have hD:jE p.facts.xs l.xs part=KS p.facts.xs l.xs part:=by unfold jE;rw [if_neg h1]
  rw [hD];have hmp:=h.pos;have YL:=h.few;have Xc:¬ (part.length:Int)=1:=by omega
  have hlp:Jj (.pure (lK part))=some (.val (.pure (.int .i64 part.length))):=by simp [lK]
  have LU:AV.cells (.pure (lK part))=[.pure (lK part)]:=rfl;have TZ:part.length*4<=zo/\part.length*96<=zo/\part.length<=zo:=by unfold zo;omega
  have Cb:l.xs≠[]:=by
   intro e;have:=h.lt part[0] (List.getElem_mem hmp);rw [e] at this;simp at this
  have hl12:l.xs.length<=12:=by have:=h.sub.1;have:=h.ok.nb;omega
  have Cm:=zsN part.length;simp only [List.map] at Cm;have hH:=Hide.mk h;have hl0H:=Hide.mk Cb;clear h hD h1 Cb;(repeat' first|simp [*,zb,c97,zk]|(apply za<;>intro _ h<;>try simp [-Nat.le_zero_eq] at h)|(show wpE 0 (zm ..) ..;refine zA ?_)|(refine zt fun v2 H2 fD aY aJ aK aL aM=>?_))
  refine Ff (by omega) ?_
  intro v H1 hv Jy bX ah aR;obtain ⟨au,rfl,hg⟩:=hv.row hl0H.h;have sN:2 < au:=by have:=aR au ⟨_,_,_,rfl⟩;simp at this;omega
  have KA:=zx hg;have b0:H1.get 0=.cells true (zq mV (List.replicate (4*part.length) none)):=by
   rw [ah 0 (by simp)];simp [Cm]
  have b1:H1.get 1=.cells true (Iz part 0 (KD (4*part.length))):=by
   rw [ah 1 (by simp)];simp [Iz,KD,iN]
  have b2:H1.get 2=.cells true [.box 1 0]:=by
   rw [ah 2 (by simp)];simp
  clear hv Jy bX ah aR Cm TZ;(repeat' first|simp [*,zb]|(apply za<;>intro _ h<;>try simp [-Nat.le_zero_eq] at h)|(show wpE 0 (zm ..) ..;refine zA ?_)|(refine zt fun v2 H2 fD aY aJ aK aL aM=>?_))
  refine zL [(11,15),(89,136)] (fun (k:Nat) env H2=>env 89=.pure (.int .i64 k)/\k<=part.length/\H1.nx+1 < H2.nx/\Hide (UF l part au H1.nx H2)/\∃ V,H2.get (H1.nx+1)=.cells true [V]/\Hide (nM p.facts.xs part (H1.nx+1) H2 V k)) (fun k=>part.length - k) 0 ?_ ?_ ?_ ?_
  .decide
  .refine ⟨by simp,by omega,by simp,⟨?_⟩,.pure .nils,?_,⟨nM.nil _ _ _ _⟩⟩
   .refine ⟨?_,?_,?_,?_,?_⟩
    .rw [zg (by simp<;>omega),zf (by omega),zg (by omega)];exact b0
    .rw [zg (by simp<;>omega),zf (by omega),zg (by omega)];exact b1
    .rw [zg (by simp<;>omega),zf (by omega),zg (by omega)];exact b2
    .rw [zg (by simp<;>omega),zf (by omega),zg (by omega)];exact hg
    .rw [zg (by simp),zn (by simp)]
   .simp
  .simp only [zF];omega
  clear b0 b1 b2 hg;have nf:=hH.h.ok.nf;rintro k env H2 ⟨g89,hk,aY,hB,V,Xq,hM⟩
  by_cases aO:k < part.length
  .have w1:IntKind.i64.wrap ((k:Int)+1)=(k+1:Nat):=by rw [wrap64 (by omega) (by omega)];omega
   have qh:(k:Int) < part.length:=by omega
   have Xr:aD aI 1 H2 (.pure .nils) ([]:List Int):=aD.nil;have Xr:=Hide.mk Xr;(repeat' first|simp [*,zb]|(apply za<;>intro _ h<;>try simp [-Nat.le_zero_eq] at h)|(show wpE 0 (zm ..) ..;refine zA ?_)|(refine zt fun v2 H2 fD aY aJ aK aL aM=>?_))
   refine zL [(12,15),(95,131)] (fun (i:Nat) env H3=>env 95=.pure (.int .i64 i)/\i<=p.facts.xs.length/\H2.nx<=H3.nx/\Hide (∀ c,c < H2.nx->H3.get c=H2.get c)/\∃ u,env 12=u/\Hide (aD aI 1 H3 u (iB p.facts.xs part k i)/\∀ id,Names u id->H2.nx<=id)) (fun i=>p.facts.xs.length - i) 0 ?_ ?_ ?_ ?_
   .decide
   .exact ⟨by simp,by omega,Nat.le_refl _,⟨fun _ _=>rfl⟩,_,rfl,⟨by rw [zlt];exact Xr.h,fun id ⟨_,_,_,h⟩=>by simp at h⟩⟩
   .simp only [zF];omega
   have g89':=g89;clear g89 Xr;rintro i env H3 ⟨g95,hi,Fh,ah,u,g12,hU⟩
   by_cases aX:i < p.facts.xs.length
   .have w2:IntKind.i64.wrap ((i:Int)+1)=(i+1:Nat):=by rw [wrap64 (by omega) (by omega)];omega
    have hilI:(i:Int) < p.facts.xs.length:=by omega
    have c1:=fun (x:Int) H=>ze (G:=G) (n:=n+49) (H:=H) (caps:=[]) (ps:=[(Sl.mk false (zZ part)).pv aI 1,.int .i64 x]) sh99 (e99 (n+48) (Sl.mk false (zZ part)) x (nE part x) (by rw [Sl.iW,Ez];omega) (Xo part x));have c2:=fun (x:Int) H=>ze (G:=G) (n:=n+49) (H:=H) (caps:=[]) (ps:=[(Sl.mk false (zZ part)).pv aI 1,.int .i64 x]) sh70 (e70 (n+47) (Sl.mk false (zZ part)) x (by rw [Sl.iW,Ez];omega));rw [<- Jv] at c1 c2;simp only [List.map_cons,List.map_nil,Sl.iW] at c1 c2;have Jg:=Hide.mk (zpn (part:=part) (k:=k) aX);obtain ⟨f,hf⟩:∃ f,f=p.facts.xs[i]:=⟨_,rfl⟩
    have hmB:Hide (nL part k p.facts.xs[i]=(decide (sF part f=k)&&decide (f.a∈zZ part))):=⟨by rw [hf];unfold nL;congr⟩
    have uV:Hide (sF part f=if f.kind=2 then max (max (nE part f.a) (nE part f.b)) (nE part f.c) else max (nE part f.a) (nE part f.b)):=⟨rfl⟩
    rw [<- hf] at hmB Jg;have qE:=hf.symm;have hAdd:Hide (∀ (H4:Heap) (u4:AV),H3.nx<=H4.nx->aD aI 1 H4 u4 ((iB p.facts.xs part k i)++(if nL part k f=true then [(i:Int)] else []))->aD aI 1 H4 u4 (iB p.facts.xs part k (i+1))):=⟨fun H4 u4 _ h=>h.cast Jg.h⟩
    have hmlen:(iB p.facts.xs part k i).length<=60:=by have:=zm3 p.facts.xs part k i;omega
    generalize (iB p.facts.xs part k i)=L at *;have rV:Hide (nL part k f=(decide (sF part f=k)&&decide (f.a∈zZ part))):=⟨by unfold nL;congr⟩
    clear Jg hf hmB;obtain ⟨d1,d2,d3,da,db,dc,⟨d4,d5⟩,d6⟩:=f;simp only at uV rV;have c1a:=c1 da;have c1b:=c1 db;have c1c:=c1 dc;have c2a:=c2 da;clear c1 c2;generalize nE part da=ia at *;generalize nE part db=ib at *;generalize nE part dc=ic at *;have hU1:=hU.h.1;have Pg:=hU1.1.one;have hU1a:=Pg.1;have hU1b:=Pg.2;have Nh:=Hide.mk hU.h;have Au:=Hide.mk hU1;clear hU hU1 Pg
    by_cases sj:d2=2
    .have vT:Hide (sF part ⟨d1,d2,d3,da,db,dc,⟨d4,d5⟩,d6⟩=max ia (max ib ic)):=⟨by rw [uV.h,if_pos sj];exact Int.max_assoc ..⟩
     clear uV;subst sj
     by_cases hc:max ia (max ib ic)=(k:Int)
     .by_cases hd:da∈zZ part
      .have Dh:=Hide.mk (fun H4 u4 hx (h:aD aI 1 H4 u4 (L++[(i:Int)]))=>hAdd.h H4 u4 hx (by rw [rV.h,vT.h,decide_eq_true hc,decide_eq_true hd];exact h));clear rV vT hAdd;(repeat' first|simp [*,zb,Fact.cells,Span.cells]|(apply za<;>intro _ h<;>try simp [-Nat.le_zero_eq] at h)|(show wpE 0 (zm ..) ..;refine zA ?_)|(refine zt fun v2 H2 fD aY aJ aK aL aM=>?_))
       refine H8 (f:=aI) (sz:=1) (l:=L) ((Au.h.nz _ _).alloc _) (fun _=>rfl) (by decide) (fun _=>rfl) (by unfold zo;omega) ⟨(i:Int),by simp [aI],?_⟩
       intro u4 H4 nK ha;have Uc:Hide (aD aI 1 H4 u4 (iB p.facts.xs part k (i+1))/\∀ id,Names u4 id->H2.nx<=id):=⟨Dh.h H4 u4 (by have:=ha.nx;simp at this;omega) nK,fun id hn=>by have:=ha.new id hn;simp at this;omega⟩
       have hs4:Hide (∀ c,c < H2.nx->H4.get c=H2.get c):=⟨fun c hc=>by rw [ha.get c (by simp;omega) (fun hn=>by have:=Nh.h.2 c hn;omega),zg (by simp;omega),zf (by omega),zg (by omega)];exact ah.h c hc⟩
       have WW:H2.nx<=H4.nx:=by have:=ha.nx;simp at this;omega
       clear nK ha ah Dh Nh Au;(repeat' first|simp [*,zb]|(apply za<;>intro _ h<;>try simp [-Nat.le_zero_eq] at h)|(show wpE 0 (zm ..) ..;refine zA ?_)|(refine zt fun v2 H2 fD aY aJ aK aL aM=>?_));exact ⟨i+1,by omega,by omega,by omega,Uc⟩
      .have ny:Hide (∀ H4,aD aI 1 H4 u L->H3.nx<=H4.nx->aD aI 1 H4 u (iB p.facts.xs part k (i+1))):=⟨fun H4 h hx=>hAdd.h H4 u hx (by rw [rV.h,vT.h,decide_eq_false hd];simpa using h)⟩
       clear rV vT hAdd;(repeat' first|simp [*,zb,Fact.cells,Span.cells]|(apply za<;>intro _ h<;>try simp [-Nat.le_zero_eq] at h)|(show wpE 0 (zm ..) ..;refine zA ?_)|(refine zt fun v2 H2 fD aY aJ aK aL aM=>?_))
       refine ⟨i+1,by omega,by omega,by omega,by omega,⟨fun c hc=>?_⟩,⟨ny.h _ (Au.h.nz _ _) (by simp),Nh.h.2⟩⟩
       rw [zf (by omega),zg (by omega)];exact ah.h c hc
     .have ny:Hide (∀ H4,aD aI 1 H4 u L->H3.nx<=H4.nx->aD aI 1 H4 u (iB p.facts.xs part k (i+1))):=⟨fun H4 h hx=>hAdd.h H4 u hx (by rw [rV.h,vT.h,decide_eq_false hc];simpa using h)⟩
      clear rV vT hAdd;(repeat' first|simp [*,zb,Fact.cells,Span.cells]|(apply za<;>intro _ h<;>try simp [-Nat.le_zero_eq] at h)|(show wpE 0 (zm ..) ..;refine zA ?_)|(refine zt fun v2 H2 fD aY aJ aK aL aM=>?_))
      refine ⟨i+1,by omega,by omega,by omega,by omega,⟨fun c hc=>?_⟩,⟨ny.h _ (Au.h.nz _ _) (by simp),Nh.h.2⟩⟩
      rw [zf (by omega),zg (by omega)];exact ah.h c hc
    .have vT:Hide (sF part ⟨d1,d2,d3,da,db,dc,⟨d4,d5⟩,d6⟩=max ia ib):=⟨by rw [uV.h,if_neg sj]⟩
     clear uV
     by_cases hc:max ia ib=(k:Int)
     .by_cases hd:da∈zZ part
      .have Dh:=Hide.mk (fun H4 u4 hx (h:aD aI 1 H4 u4 (L++[(i:Int)]))=>hAdd.h H4 u4 hx (by rw [rV.h,vT.h,decide_eq_true hc,decide_eq_true hd];exact h));clear rV vT hAdd;(repeat' first|simp [*,zb,Fact.cells,Span.cells]|(apply za<;>intro _ h<;>try simp [-Nat.le_zero_eq] at h)|(show wpE 0 (zm ..) ..;refine zA ?_)|(refine zt fun v2 H2 fD aY aJ aK aL aM=>?_))
       refine H8 (f:=aI) (sz:=1) (l:=L) ((Au.h.nz _ _).alloc _) (fun _=>rfl) (by decide) (fun _=>rfl) (by unfold zo;omega) ⟨(i:Int),by simp [aI],?_⟩
       intro u4 H4 nK ha;have Uc:Hide (aD aI 1 H4 u4 (iB p.facts.xs part k (i+1))/\∀ id,Names u4 id->H2.nx<=id):=⟨Dh.h H4 u4 (by have:=ha.nx;simp at this;omega) nK,fun id hn=>by have:=ha.new id hn;simp at this;omega⟩
       have hs4:Hide (∀ c,c < H2.nx->H4.get c=H2.get c):=⟨fun c hc=>by rw [ha.get c (by simp;omega) (fun hn=>by have:=Nh.h.2 c hn;omega),zg (by simp;omega),zf (by omega),zg (by omega)];exact ah.h c hc⟩
       have WW:H2.nx<=H4.nx:=by have:=ha.nx;simp at this;omega
       clear nK ha ah Dh Nh Au;(repeat' first|simp [*,zb]|(apply za<;>intro _ h<;>try simp [-Nat.le_zero_eq] at h)|(show wpE 0 (zm ..) ..;refine zA ?_)|(refine zt fun v2 H2 fD aY aJ aK aL aM=>?_));exact ⟨i+1,by omega,by omega,by omega,Uc⟩
      .have ny:Hide (∀ H4,aD aI 1 H4 u L->H3.nx<=H4.nx->aD aI 1 H4 u (iB p.facts.xs part k (i+1))):=⟨fun H4 h hx=>hAdd.h H4 u hx (by rw [rV.h,vT.h,decide_eq_false hd];simpa using h)⟩
       clear rV vT hAdd;(repeat' first|simp [*,zb,Fact.cells,Span.cells]|(apply za<;>intro _ h<;>try simp [-Nat.le_zero_eq] at h)|(show wpE 0 (zm ..) ..;refine zA ?_)|(refine zt fun v2 H2 fD aY aJ aK aL aM=>?_))
       refine ⟨i+1,by omega,by omega,by omega,by omega,⟨fun c hc=>?_⟩,⟨ny.h _ (Au.h.nz _ _) (by simp),Nh.h.2⟩⟩
       rw [zf (by omega),zg (by omega)];exact ah.h c hc
     .have ny:Hide (∀ H4,aD aI 1 H4 u L->H3.nx<=H4.nx->aD aI 1 H4 u (iB p.facts.xs part k (i+1))):=⟨fun H4 h hx=>hAdd.h H4 u hx (by rw [rV.h,vT.h,decide_eq_false hc];simpa using h)⟩
      clear rV vT hAdd;(repeat' first|simp [*,zb,Fact.cells,Span.cells]|(apply za<;>intro _ h<;>try simp [-Nat.le_zero_eq] at h)|(show wpE 0 (zm ..) ..;refine zA ?_)|(refine zt fun v2 H2 fD aY aJ aK aL aM=>?_))
      refine ⟨i+1,by omega,by omega,by omega,by omega,⟨fun c hc=>?_⟩,⟨ny.h _ (Au.h.nz _ _) (by simp),Nh.h.2⟩⟩
      rw [zf (by omega),zg (by omega)];exact ah.h c hc
   .have hie:i=p.facts.xs.length:=by omega
    subst hie;have Fj:=hU.h;rw [znl] at Fj;have hUo:=Fj.1.1.one;have hUo1:=hUo.1;have hUo2:=hUo.2;have UG:H3.get (H1.nx+1)=.cells true [V]:=by rw [ah.h _ aY];exact Xq
    have Ph:=Hide.mk Fj;have Ij:H1.nx+1 < H3.nx:=by omega
    clear hUo Fj;(repeat' first|simp [*,zb]|(apply za<;>intro _ h<;>try simp [-Nat.le_zero_eq] at h)|(show wpE 0 (zm ..) ..;refine zA ?_)|(refine zt fun v2 H2 fD aY aJ aK aL aM=>?_))
    refine zkx (mb:=H1.nx+1) (k:=k) (u:=u) ((hM.h.keep (H':=H3) fun c _ hc=>ah.h c hc).keep fun c _ hc=>zg hc) ?_ (Ph.h.1.alloc _).1 ?_ (by simp;omega) (by unfold zo;omega) ?_
    .simp
    .intro id hn;have:=Ph.h.2 id hn;exact ⟨by omega,fun h=>by have:=hM.h.lt h;omega⟩
    intro v' H' hM' BU oC o1 o2;have hmb':H'.get (H1.nx+1)=.cells true [V]:=by rw [oC _ (Nat.le_refl _),zg Ij];exact UG
    have yL:H1.nx+1 < H'.nx:=by simp at BU;omega
    have hM2:Hide (∀ o,nM p.facts.xs part (H1.nx+1) (H'.set (H1.nx+1) o) v' (k+1)):=⟨fun o=>hM'.keep fun c hc _=>zf (by omega)⟩
    have M5:Hide (∀ o,UF l part au H1.nx (H'.set (H1.nx+1) o)):=⟨fun o=>hB.h.keep (mb:=H1.nx+1) ⟨by omega,by omega,by omega⟩ fun c hc=>by
     rw [zf (by omega),oC c (by omega),zg (by omega),ah.h c (by omega)]⟩
    clear hM' oC hB hM ah UG hU Ph Xq;(repeat' first|simp [*,zb]|(apply za<;>intro _ h<;>try simp [-Nat.le_zero_eq] at h)|(show wpE 0 (zm ..) ..;refine zA ?_)|(refine zt fun v2 H2 fD aY aJ aK aL aM=>?_));exact ⟨k+1,by omega,by omega,by omega,⟨M5.h _⟩,⟨hM2.h _⟩⟩
  .have hkN:k=part.length:=by omega
   subst hkN;have TZ:part.length*2<=zo/\part.length*16<=zo/\part.length<=zo:=by unfold zo;omega
   have key:∀ Hs:Heap,Hs.nx=H2.nx+3->(∀ j,j < H2.nx->Hs.get j=H2.get j)->Hs.get H2.nx=.cells true (zq Pt.cells (List.replicate part.length ⟨0,0⟩))->Hs.get (H2.nx+1)=.cells true [.row H2.nx 2 0 part.length] ->
     Hs.get (H2.nx+1+1)=.cells true [.func 114 (KQ ⟨1,0,2,H2.nx,H2.nx+1,au,H1.nx,0,H1.nx+1,H2.nx+1+1⟩ p l part)] ->
     ∃ H',Vm.call G (n+48+1) (.fn 114) ([.pure (.int .i64 0)]++KQ ⟨1,0,2,H2.nx,H2.nx+1,au,H1.nx,0,H1.nx+1,H2.nx+1+1⟩ p l part) Hs=some (.aQ [],H') /\
      (H'.get 2=.cells true [.box 1 0]/\H'.get 1=.cells true (Iz part 0 ((jJ p.facts.xs l.xs part).foldl BK (KD (4*part.length))))/\H'.get 0=.cells true (zq mV ((jJ p.facts.xs l.xs part).foldl BK (KD (4*part.length))).best)):=by
    intro Hs hn hg s1 s2 s3;have JB:=hH.h;obtain ⟨ml,vE,hcp'⟩:=zvo JB.ok JB.sub JB.wf JB.nodup JB.lt JB.pos JB.few JB.within;obtain ⟨xs,hra,Ur,CK,Xm⟩:=hM.h.ex;have Q3:=hB.h;rcases hra with ⟨_,rfl⟩|⟨mid,rfl,hxne,KT⟩
    .simp at Ur;omega
    have hmlo:=hM.h.low mid ⟨_,_,_,rfl⟩;have UH:=zx KT;have O1:xs.length=part.length:=Ur;have sp:1 < part.length:=by omega
    have hsf:=JB.sols sp;obtain ⟨H',r1,r2,mW,r3,_⟩:=zmn (I:=⟨1,0,2,H2.nx,H2.nx+1,au,H1.nx,mid,H1.nx+1,H2.nx+1+1⟩) hcp' part.length (n+41 - 3*part.length) 0 Hs (KD (4*part.length)) (List.replicate part.length ⟨0,0⟩) l.xs (by omega)
     ⟨⟨(by decide:0 < 1),(by decide:1 < 2),sN,KA,(by omega:H1.nx < H1.nx+1),hmlo,UH,(by omega:H2.nx < H2.nx+1),(by omega:H2.nx+1 < H2.nx+1+1)⟩,by show Hs.get 2=_;rw [hg 2 (by omega)];exact Q3.sb,s2,by show Hs.get H1.nx=_;rw [hg H1.nx (by omega)];exact Q3.hb,by show Hs.get (H1.nx+1)=_;rw [hg _ aY];rw [Xq,O1],⟨xs,by rw [hg _ UH];exact KT,O1,fun k hk=>by
      obtain ⟨a,b⟩:=Xm k hk;rw [vE k (by omega)];exact ⟨a.keep fun id ⟨n,hn⟩=>hg id (a.names_lt ⟨_,_,_,hn⟩),fun id au=>⟨(b id au).1,a.names_lt au⟩⟩⟩,s3⟩
     ⟨by show Hs.get 1=_;rw [hg 1 (by omega)];exact Q3.s,by show Hs.get 0=_;rw [hg 0 (by omega)];exact Q3.e,s1,by show Hs.get au=_;rw [hg au (by omega)];exact Q3.h,zqU _,⟨by simp,fun x hx=>by
      have:=List.eq_of_mem_replicate hx;subst this;exact ⟨⟨by decide,by decide⟩,⟨by decide,by decide⟩⟩⟩⟩
     (aP.refl _) JB.wf (fun j h _=>rfl) (by
      have:(wh (sQ p.facts.xs part) l.xs (part.drop 0) 0 l.xs).length=(jJ p.facts.xs l.xs part).length:=rfl;rw [this];show 0+_<=_;omega)
    refine ⟨H',?_,?_,?_,?_⟩
    .have e:n+41 - 3*part.length+8+3*part.length=n+48+1:=by omega
     rw [e] at r1;exact r1
    .rw [r2.get 2 (by omega) (show (2:Nat)≠1 by decide) (show (2:Nat)≠0 by decide) (by show 2≠H2.nx;omega) (by show 2≠au;omega),hg _ (by omega)];exact Q3.sb
    .have:=r3.s
     simpa [jJ] using this
    .have:=r3.e
     simpa [jJ] using this
   have hrp:=ztg part.length;simp only [List.map] at hrp;have UI:=Hide.mk key;have hDl:Hide (((jJ p.facts.xs l.xs part).foldl BK (KD (4*part.length)))=⟨(jJ p.facts.xs l.xs part).length,(jJ p.facts.xs l.xs part).head?,(List.range (4*part.length)).map fun j=>TL (lL j) (jJ p.facts.xs l.xs part)⟩):=⟨zq8 _ _⟩
   clear key hB hM;(repeat' first|simp [*,zb]|(apply za<;>intro _ h<;>try simp [-Nat.le_zero_eq] at h)|(show wpE 0 (zm ..) ..;refine zA ?_)|(refine zt fun v2 H2 fD aY aJ aK aL aM=>?_))
   refine BI (n:=n+48) zjF (yl (UI.h _ ?_ ?_ ?_ ?_ ?_) ?_)
   .simp
   .intro j hj;rw [zf (by omega),zg (by rw [mi];simp;omega),zf (by omega),zg (by simp;omega),zg hj]
   .rw [zf (by omega),zg (by rw [mi];simp;omega),zf (by omega),zg (by simp),CQ]
   .simp
   .simp [KQ]
   .rintro H' ⟨q1,q2,q3⟩;rw [hDl.h] at q2 q3;clear UI hDl;(repeat' first|simp [*,zb]|(apply za<;>intro _ h<;>try simp [-Nat.le_zero_eq] at h)|(show wpE 0 (zm ..) ..;refine zA ?_)|(refine zt fun v2 H2 fD aY aJ aK aL aM=>?_))
    refine zqB (jX:=0) (D:=KS p.facts.xs l.xs part) ?_ ?_ ?_
    .exact q2
    .exact q3
    .simp [KS]
end Go.Proofs.YtmmhnfghklppiaaGreat.Vm
