/- Narrowing: the plain facts that the walk of narrow uses. Narrowing: what the program's narrow computes. The leaf of choose (look$1): all points of a part are chosen; what is gathered. choose (look$1): what it gathers, by induction on the points that are left. What look is to return, and the lists of facts that it makes. Plain Lean. look: what the program sees of a part, walked. -/
import Derived.Test.YtmmhnfghklppiaaGreatVk17
import Derived.Test.YtmmhnfghklppiaaGreatVk19
import Derived.Test.YtmmhnfghklppiaaGreatVk22
import Derived.Test.YtmmhnfghklppiaaGreatVk23
import Derived.Test.YtmmhnfghklppiaaGreatVk21
namespace Go.Proofs.YtmmhnfghklppiaaGreat.Vm
open Go
set_option linter.unusedSimpArgs false
set_option linter.unusedVariables false
set_option maxHeartbeats 4000000
def lG (f:Fact) (l:List Box):Prop:=zJ f l=true
theorem YX {f:Fact} {n:Nat} (h:zX f n=true):Named f n:=by
 have h':=(Au f n).1 h
 refine ⟨by omega,by omega,?_⟩
 by_cases hk:f.kind=2
 .have:=h'.2.2.2.2.2.1 hk;omega
 .have:=h'.2.2.2.2.2.2 hk;omega
theorem Ir {p:Problem} (ok:af p):vg lG p.facts.xs p.boxes.xs.length:=fun f hf l m hm hw hs hl h =>
 znB (by rw [hm];exact YX (ok.fact f hf)) hs hl hw h
theorem Fz {p:Problem} (ok:af p):Wf p.boxes.xs:=fun b hb=>by
 have:=aJ.1 (ok.valid b hb);exact ⟨by omega,by omega⟩
theorem Iu {p:Problem} (ok:af p) {l:List Box} (hs:aL l p.boxes.xs) (hw:Wf l):∀ b∈l,ny b=true:=by
 intro b hb;obtain ⟨i,hi,rfl⟩:=List.mem_iff_getElem.1 hb;have bT:i < p.boxes.xs.length:=by rw [<- hs.1];exact hi
 have h1:=hs.2 i hi bT;have h2:=aJ.1 (ok.valid _ (List.getElem_mem bT));have h3:=hw _ (List.getElem_mem hi);unfold fG fq at h1;unfold jq at h3;rw [aJ];omega
theorem OE {p:Problem} (ok:af p) {l:List Box} (hs:aL l p.boxes.xs) (hw:Wf l) {f:Fact} (hf:f∈p.facts.xs):rq f l:=zsd (ok.fine hs.1 (Iu ok hs hw) hf)
theorem YY {l:List Box} (hw:Wf l) {i:Nat} (hi:i < l.length) (k:Nat):Wf (zV l i k):=by
 rw [Aj hi];exact hw.set (Oq (hw _ (List.getElem_mem hi)) k)
theorem YZ {l:List Box} (hw:Wf l) {i:Nat} (hi:i < l.length) (k:Nat):aL (zV l i k) l:=by
 rw [Aj hi];have:=(aL.refl l).set (i:=i) (zjK (hw _ (List.getElem_mem hi)) k);rwa [List.set_getElem_self] at this
theorem iI {n:Nat} {j:Int}:j∈jb n↔∃ k:Nat,k < n/\j=k:=by
 simp only [jb,List.mem_map,List.mem_range]
 constructor
 .rintro ⟨k,h,rfl⟩;exact ⟨k,h,rfl⟩
 .rintro ⟨k,h,rfl⟩;exact ⟨k,h,rfl⟩
theorem J9 (fs:List Fact):rY fs (jb fs.length):=fun i hi=>by
 obtain ⟨k,h,rfl⟩:=iI.1 hi;omega
theorem Y0 (fs:List Fact) (i:Int):rY fs (pQ fs (jb fs.length) i):=fun j hj=>J9 fs j (List.mem_filter.1 hj).1
theorem zjj (fs:List Fact) (i:Int):(pQ fs (jb fs.length) i).length<=fs.length:=by
 have:=List.length_filter_le (fun k=>o8 fs[k.toNat]! i) (jb fs.length);rwa [Gx] at this
theorem zr7 {fs:List Fact} {l:List Box}:0<=bR fs l (jb fs.length)↔∃ f∈fs,zJ f l=true:=by
 rw [QR fun i hi=>(J9 fs i hi).1]
 constructor
 .rintro ⟨j,hj,h⟩;obtain ⟨k,hk,rfl⟩:=iI.1 hj;rw [show ((k:Int)).toNat=k by simp,getElem!_pos fs k hk] at h;exact ⟨_,List.getElem_mem hk,h⟩
 .rintro ⟨f,hf,h⟩;obtain ⟨k,hk,rfl⟩:=List.mem_iff_getElem.1 hf;exact ⟨k,iI.2 ⟨k,hk,rfl⟩,by rw [show ((k:Int)).toNat=k by simp,getElem!_pos fs k hk];exact h⟩
theorem pR {fs:List Fact} {l:List Box} {i:Int}:0<=bR fs l (pQ fs (jb fs.length) i)↔∃ f∈fs,o8 f i=true/\zJ f l=true:=by
 rw [QR fun j hj=>(Y0 fs i j hj).1];unfold pQ;simp only [List.mem_filter]
 constructor
 .rintro ⟨j,⟨hj,hn⟩,h⟩;obtain ⟨k,hk,rfl⟩:=iI.1 hj;rw [show ((k:Int)).toNat=k by simp,getElem!_pos fs k hk] at h hn;exact ⟨_,List.getElem_mem hk,hn,h⟩
 .rintro ⟨f,hf,hn,h⟩;obtain ⟨k,hk,rfl⟩:=List.mem_iff_getElem.1 hf;exact ⟨k,⟨iI.2 ⟨k,hk,rfl⟩,by rw [show ((k:Int)).toNat=k by simp,getElem!_pos fs k hk];exact hn⟩,by rw [show ((k:Int)).toNat=k by simp,getElem!_pos fs k hk];exact h⟩
theorem Y1 {p:Problem} (ok:af p) {f:Fact} (hf:f∈p.facts.xs) {i:Nat} (hn:o8 f i=false) {l:List Box} (hi:i < l.length) (b:Box):zJ f (l.set i b)=zJ f l:=by
 have L8:=(Au f _).1 (ok.fact f hf);unfold o8 at hn;simp only [Bool.or_eq_false_iff,Bool.and_eq_false_iff,decide_eq_false_iff_not] at hn;obtain ⟨ha,hb,hc⟩:=hn;have g:∀ j:Int,0<=j->j≠i->(l.set i b)[j.toNat]! = l[j.toNat]! := fun j h0 hj=>by
  rw [getElem!_def,getElem!_def,List.getElem?_set_ne (by omega)]
 refine JY ⟨g _ (by omega) ha,g _ (by omega) hb,fun hk=>g _ ?_ ?_⟩
 .have:=L8.2.2.2.2.2.1 hk;omega
 .rcases hc with h|h
  .exact absurd hk h
  .exact h
section
variable {p:Problem} {L L0:List Box} {i k:Nat} {c:Bool}
structure AB (p:Problem) (L:List Box):Prop where
 hold:Holds' lG p.facts.xs p.boxes.xs L
 none:∀ f∈p.facts.xs,zJ f L=false
structure lX (p:Problem) (i:Nat) (L:List Box):Prop where
 hold:Holds' lG p.facts.xs p.boxes.xs L
 others:∀ f∈p.facts.xs,o8 f i=false->zJ f L=false
theorem AB.while (h:AB p L) (i:Nat):lX p i L:=⟨h.hold,fun f hf _=>h.none f hf⟩
theorem lX.exit (ok:af p) (h:lX p i L) (hi:i < L.length) (hb:¬ ∃ f∈p.facts.xs,o8 f i=true/\zJ f (zV L i k)=true):AB p L/\∀ f∈p.facts.xs,zJ f (zV L i k)=false:=by
 have key:∀ f∈p.facts.xs,zJ f (zV L i k)=false:=fun f hf=>by
  cases hn:o8 f i with
  | true =>
   cases hs:zJ f (zV L i k) with
   | true=>exact absurd ⟨f,hf,hn,hs⟩ hb
   | false=>rfl
  | false=>rw [Aj hi,Y1 ok hf hn hi];exact h.others f hf hn
 refine ⟨⟨h.hold,fun f hf=>?_⟩,key⟩
 cases hs:zJ f L with
 | false=>rfl
 | true =>
  have:=Ir ok f hf (zV L i k) L h.hold.sub.1 h.hold.wf (YZ h.hold.wf hi k) (YY h.hold.wf hi k) hs;unfold lG at this;rw [key f hf] at this;simp at this
theorem lX.step (ok:af p) (h:lX p i L) (hi:i < L.length) (hk:k < 4) (hb:∃ f∈p.facts.xs,o8 f i=true/\zJ f (zV L i k)=true) (ht:¬ mg L[i] k):lX p i (oN L i k)/\rT (oN L i k) < rT L:=by
 obtain ⟨f,hf,_,hs⟩:=hb
 refine ⟨⟨h.hold.cut (Ir ok) hi hk hf hs ht,fun g hg hn=>?_⟩,Ur h.hold.wf hi hk ht⟩
 rw [Gt hi,Y1 ok hg hn hi];exact h.others g hg hn
theorem lX.empty (ok:af p) (h:lX p i L) (hi:i < L.length) (hk:k < 4) (hb:∃ f∈p.facts.xs,o8 f i=true/\zJ f (zV L i k)=true) (ht:mg L[i] k):bN lG p.facts.xs p.boxes.xs none:=by
 obtain ⟨f,hf,_,hs⟩:=hb;exact h.hold.empty (Ir ok) hi hk hf hs ht
def Y2 (p:Problem) (L:List Box) (i k:Nat):Prop:=∀ i' k',k' < 4->(i' < i\/(i'=i/\k' < k))->i' < L.length->∀ f∈p.facts.xs,zJ f (zV L i' k')=false
structure PJ (p:Problem) (L0 L:List Box) (c:Bool) (i k:Nat):Prop where
 GG:AB p L
 same:c=false->L=L0/\Y2 p L i k
 less:c=true->rT L < rT L0
structure WJ (p:Problem) (L0 L:List Box) (c:Bool) (i k:Nat):Prop where
 wj:lX p i L
 same:c=false->L=L0/\Y2 p L i k
 less:c=true->rT L < rT L0
theorem PJ.start (h:AB p L):PJ p L L false 0 0:=⟨h,fun _=>⟨rfl,fun i' k' _ h=>by omega⟩,fun h=>by cases h⟩
theorem PJ.while (h:PJ p L0 L c i k):WJ p L0 L c i k:=⟨h.GG.while i,h.same,h.less⟩
theorem WJ.exit (ok:af p) (h:WJ p L0 L c i k) (hi:i < L.length) (hk:k < 4) (hb:¬ ∃ f∈p.facts.xs,o8 f i=true/\zJ f (zV L i k)=true):PJ p L0 L c i (k+1):=by
 obtain ⟨h1,h2⟩:=h.wj.exit ok hi hb
 refine ⟨h1,fun hc=>?_,h.less⟩
 obtain ⟨h3,h4⟩:=h.same hc
 refine ⟨h3,fun i' k' uj aK bT f hf=>?_⟩
 rcases aK with hl|⟨rfl,hl⟩
 .exact h4 i' k' uj (.inl hl) bT f hf
 .rcases Nat.lt_succ_iff_lt_or_eq.1 hl with hl|rfl
  .exact h4 i' k' uj (.inr ⟨rfl,hl⟩) bT f hf
  .exact h2 f hf
theorem WJ.step (ok:af p) (h:WJ p L0 L c i k) (hi:i < L.length) (hk:k < 4) (hb:∃ f∈p.facts.xs,o8 f i=true/\zJ f (zV L i k)=true) (ht:¬ mg L[i] k):WJ p L0 (oN L i k) true i k/\rT (oN L i k) < rT L:=by
 obtain ⟨h1,h2⟩:=h.wj.step ok hi hk hb ht
 refine ⟨⟨h1,fun hc=>(by cases hc),fun _=>?_⟩,h2⟩
 cases c with
 | false=>have:=(h.same rfl).1;subst this;exact h2
 | true=>have:=h.less rfl;omega
theorem PJ.Ko (h:PJ p L0 L c i 4):PJ p L0 L c (i+1) 0:=⟨h.GG,fun hc=>⟨(h.same hc).1,fun i' k' uj aK bT f hf=>(h.same hc).2 i' k' uj (by omega) bT f hf⟩,h.less⟩
theorem PJ.done (h:PJ p L0 L c L.length 0) (hc:c=false):Stable lG p.facts.xs L:=fun i hi k hk f hf hs=>by
 have:=(h.same hc).2 i k hk (.inl hi) hi f hf;unfold lG at hs;rw [this] at hs;simp at hs
theorem zoi {M:Nat}:∀ {l:List Box},(∀ b∈l,Ot b<=M)->rT l<=M*l.length
 | [],_=>by simp [rT]
 | b::l,h=>by
  have h1:=h b (by simp);have h2:=zoi (l:=l) fun x hx=>h x (by simp [hx]);unfold rT at h2 ⊢;simp only [List.map_cons,List.sum_cons,List.length_cons,Nat.mul_add,Nat.mul_one];omega
theorem Y3 (ok:af p) (hs:aL L p.boxes.xs):rT L<=24552:=by
 have h1:rT L<=2046*L.length:=zoi fun b hb=>by
  obtain ⟨i,hi,rfl⟩:=List.mem_iff_getElem.1 hb;have bT:i < p.boxes.xs.length:=by rw [<- hs.1];exact hi
  have h1:=hs.2 i hi bT;have h2:=ok.box _ (List.getElem_mem bT);unfold jD at h2;simp only [Bool.and_eq_true,decide_eq_true_eq] at h2;unfold fG fq at h1;unfold Ot;omega
 have h2:L.length<=12:=by rw [hs.1];exact ok.nb
 have:2046*L.length<=2046*12:=Nat.mul_le_mul_left _ h2;omega
end
set_option maxRecDepth 4000
theorem Q3 {α:Type} {f:α->List PV} {sz:Nat} {H:Heap} {v:AV} {l:List α} {n:Nat} (hf:∀ a,(f a).length=sz) (h:aZ f sz H v l):∃ s:Sl α,s.xs=l/\FrzK H true (n+2) v (s.pv f sz):=by
 rcases h with ⟨rfl,rfl⟩|⟨id,rfl,hg⟩
 .exact ⟨.nil,rfl,.pure _⟩
 .exact Gs hf hg rfl
theorem UQ (l:List Box):((Sl.mk false l).pv Box.cells 4).cold=true:=by
 simp [Sl.pv,PV.cold,PV.fZ,Box.cells,Span.cells]
theorem zou (a:Nat):Int.tdiv (a:Int) 2=((a / 2:Nat):Int):=rfl
theorem zom (a:Nat):Int.tmod (a:Int) 2=((a % 2:Nat):Int):=rfl
def BX (p:Problem):Option (List Box)->PV
 | none=>.nils
 | some l=>(if p.boxes.isNil=true then Sl.nil else Sl.mk false l).pv Box.cells 4
theorem sh62:G.shared 62=false:=by decide
theorem e62 (n:Nat) (p:Problem) (ok:af p) (r:Option (List Box)) (hr:bN lG p.facts.xs p.boxes.xs r):zF G (n+7) 62 [.agg p.cells]=some (.aM [BX p r,.bool r.isSome]):=by
 refine zx (zw _) rfl g62 rfl ?_
 obtain ⟨bs,fs⟩:=p;have nb:bs.xs.length<=12:=ok.nb;have nf:fs.xs.length<=60:=ok.nf;have Md:=fun H=>zg (G:=G) (n:=n+6) (H:=H) (caps:=[]) (ps:=[fs.pv Fact.cells 9]) zsO (e105 (n+5) fs (by omega));simp only [List.map] at Md;have Me:Hide (∀ (is:Sl Int) (l:Sl Box),rY fs.xs is.xs->is.xs.length<=60->aL l.xs bs.xs->Wf l.xs->zF G (n+6) 74 [fs.pv Fact.cells 9,is.pv aD 1,l.pv Box.cells 4]=some (.int .i64 (bR fs.xs l.xs is.xs))) :=
  ⟨fun is l h1 h2 h3 h4=>e74 n fs is l h1 (by omega) (fun f hf=>OE ok h3 h4 hf)⟩
 have ho:=CY (n+5);have wP:=Hide.mk ok;have Db:=Hide.mk hr
 by_cases hN:bs.xs=[]
 .have wQ:fs.xs=[]:=by
   cases hfx:fs.xs with
   | nil=>rfl
   | cons f l =>
    have:=(Au f _).1 (ok.fact f (by show f∈fs.xs;rw [hfx];simp));have e:((Problem.mk bs fs).boxes.xs.length:Int)=0:=by show (bs.xs.length:Int)=0;rw [hN];rfl
    omega
  have BB:r=some []:=Db.h.unique (s:=some []) (by
   show bN lG fs.xs bs.xs (some []);rw [hN];exact ⟨Holds'.init (fun b hb=>by simp at hb),fun i hi=>by simp at hi⟩)
  subst BB;have Y4:bR fs.xs [] (jb fs.xs.length)=-1:=by rw [wQ];rfl
  have Ip:=Hide.mk (Me.h (Sl.mk false (jb fs.xs.length)));have O6:bs.xs.length=0:=by rw [hN];rfl
  have hNH:=Hide.mk hN;clear hr wQ hN;(repeat' first|simp [*,za,c62,Problem.cells]|(apply zb<;>intro _ h<;>try simp [-Nat.le_zero_eq] at h))
  refine Ij (by omega) ?_
  intro v H1 hv Ea fD ag aW;rw [hNH.h] at hv;obtain ⟨s0,nE,wQ⟩:=Q3 (n:=10) (f:=Box.cells) (sz:=4) (fun _=>rfl) hv;have c0:=Ip.h s0 (J9 _) (by simp [Gx];omega) (by rw [nE,hNH.h];exact aL.refl _) (by rw [nE];exact fun b hb=>by simp at hb);rw [nE,Sl.jg,Y4] at c0;have VH:=hv.len;have bu:=hv.one;simp only [List.length_nil] at VH;have aY:∃ ids,freeze H1 false 11 v=some (BX ⟨bs,fs⟩ (some []),ids):=by
   rcases hv with ⟨_,rfl⟩|⟨id,rfl,hg⟩
   .have e:bs.isNil=true:=by simpa [isNil] using Ea.symm
    refine ⟨[],?_⟩
    unfold BX;rw [e];rfl
   .have e:bs.isNil=false:=by simpa [isNil] using Ea.symm
    obtain ⟨ids,iY⟩:=xY (n:=9) (f:=Box.cells) (sz:=4) (fun _=>rfl) hg rfl
    refine ⟨ids,?_⟩
    unfold BX;rw [e];exact iY
  have Q4:=Hide.mk aY;clear hv Ea ag aW Ip aY nE;(repeat' first|simp [*,za]|(apply zb<;>intro _ h<;>try simp [-Nat.le_zero_eq] at h))
  refine LM (caps:=[]) (ps:=[_,_,_]) (by decide) (.cons (.pure _) (.cons (.pure _) (.cons wQ .nil))) c0 rfl ?_
  clear c0 wQ;(repeat' first|simp [*,za]|(apply zb<;>intro _ h<;>try simp [-Nat.le_zero_eq] at h))
  refine zN [(2,3),(6,11),(24,85)] (fun (b:Bool) env H=>env 6=.pure (.bool b)/\H=H1) (fun b=>if b=true then 1 else 0) true ?_ ?_ ?_ ?_
  .decide
  .exact ⟨by simp,rfl⟩
  .simp only [zI];simp
  rintro b env H ⟨g6,rfl⟩
  cases b with
  | false =>
   obtain ⟨ids,iY⟩:=Q4.h;simp [*,za]
  | true =>
   (repeat' first|simp [*,za]|(apply zb<;>intro _ h<;>try simp [-Nat.le_zero_eq] at h))
   refine zN [(2,3),(6,11),(27,85)] (fun (u:Unit) env H2=>env 27=.pure (.int .i64 0)/\env 6=.pure (.bool false)/\H2=H) (fun u=>0) () ?_ ?_ ?_ ?_
   .decide
   .exact ⟨by simp,by simp,rfl⟩
   .simp only [zI];omega
   rintro u iM H2 ⟨g27,g6',rfl⟩;simp [*,za]
 have hN0:0 < bs.xs.length:=List.length_pos_iff.2 hN;have EF:bs.isNil=false:=by
  cases bs with
  | nil=>exact absurd rfl hN
  | mk h l=>rfl
 have hpv:Hide (∀ l,BX ⟨bs,fs⟩ (some l)=(Sl.mk false l).pv Box.cells 4):=⟨fun l=>by unfold BX;simp only [EF];rfl⟩
 have wR:BX ⟨bs,fs⟩ none=.nils:=rfl;clear hr;have Ip:=Hide.mk (Me.h (Sl.mk false (jb fs.xs.length)));(repeat' first|simp [*,za,c62,Problem.cells]|(apply zb<;>intro _ h<;>try simp [-Nat.le_zero_eq] at h))
 refine Ij (by omega) ?_
 intro v H1 hv Ea fD ag aW;obtain ⟨id,rfl,hg⟩:=hv.row hN;have aj:=zu hg;obtain ⟨s0,nE,wQ⟩:=Gs (n:=10) (f:=Box.cells) (sz:=4) (fun _=>rfl) hg rfl;have c0:=Ip.h s0 (J9 _) (by simp [Gx];omega) (by rw [nE];exact aL.refl _) (by rw [nE];exact Fz wP.h);rw [nE] at c0;simp only [Sl.jg] at c0;clear hv Ea ag aW Ip;(repeat' first|simp [*,za]|(apply zb<;>intro _ h<;>try simp [-Nat.le_zero_eq] at h))
 refine LM (caps:=[]) (ps:=[_,_,_]) (by decide) (.cons (.pure _) (.cons (.pure _) (.cons wQ .nil))) c0 rfl ?_
 have Iw:=zr7 (fs:=fs.xs) (l:=bs.xs)
 by_cases uV:0<=bR fs.xs bs.xs (jb fs.xs.length)
 .have Iy:r=none:=Db.h.unique (by
   obtain ⟨f,hf,hs⟩:=Iw.1 uV;exact (Holds'.init (Fz wP.h)).fail (Ir wP.h) hN0 hf hs)
  subst Iy;clear Iw c0 wQ nE Db;generalize bR fs.xs bs.xs (jb fs.xs.length)=B at *;simp [*,za]
 have FB:∀ f∈fs.xs,zJ f bs.xs=false:=fun f hf=>by
  cases hs:zJ f bs.xs with
  | false=>rfl
  | true=>exact absurd (Iw.2 ⟨f,hf,hs⟩) uV
 have JD:AB ⟨bs,fs⟩ bs.xs:=⟨Holds'.init (Fz wP.h),FB⟩
 have JD:=Hide.mk JD;have hb0':¬ 0<=bR fs.xs bs.xs (jb fs.xs.length):=uV;clear Iw c0 wQ nE FB uV;generalize bR fs.xs bs.xs (jb fs.xs.length)=B at *;(repeat' first|simp [*,za]|(apply zb<;>intro _ h<;>try simp [-Nat.le_zero_eq] at h))
 refine zN [(2,3),(6,11),(24,85)] (fun (s:List Box×Bool) env H=>env 6=.pure (.bool s.2)/\id < H.nx/\H.get id=.cells true (zm Box.cells s.1)/\Hide (AB ⟨bs,fs⟩ s.1/\(s.2=false->Stable lG fs.xs s.1))) (fun s=>2*rT s.1+if s.2=true then 1 else 0) (bs.xs,true) ?_ ?_ ?_ ?_
 .decide
 .exact ⟨by simp,aj,hg,⟨JD.h,fun h=>by cases h⟩⟩
 .have:=Y3 wP.h (L:=bs.xs) (aL.refl _);simp only [zI,if_true];omega
 clear JD hg aj;rintro ⟨L0,b⟩ env H ⟨g6,aj,hg,hJ⟩;simp only at g6 hg;have hL0:Hide (L0.length=bs.xs.length):=⟨hJ.h.1.hold.sub.1⟩
 have MB:=Hide.mk hg
 cases b with
 | false =>
  have BB:r=some L0:=hJ.h.1.hold.stop (hJ.h.2 rfl) Db.h;subst BB;obtain ⟨ids,iY⟩:=xY (n:=9) (f:=Box.cells) (sz:=4) (fun _=>rfl) hg hL0.h;rw [hpv.h];clear hJ Db;simp [*,za]
 | true =>
  have QY:=Hide.mk (PJ.start hJ.h.1);have fE:=Hide.mk (Y3 wP.h (L:=L0) hJ.h.1.hold.sub);clear hJ hg;(repeat' first|simp [*,za]|(apply zb<;>intro _ h<;>try simp [-Nat.le_zero_eq] at h))
  refine zN [(2,3),(6,11),(27,85)] (fun (i:Nat) env H=>env 27=.pure (.int .i64 i)/\i<=bs.xs.length/\∃ c:Bool,env 6=.pure (.bool c)/\id < H.nx/\∃ L,H.get id=.cells true (zm Box.cells L)/\Hide (PJ ⟨bs,fs⟩ L0 L c i 0)) (fun i=>bs.xs.length - i) 0 ?_ ?_ ?_ ?_
  .decide
  .exact ⟨by simp,by omega,false,by simp,aj,L0,MB.h,QY⟩
  .simp only [zI];omega
  clear QY g6 aj MB;rintro i env H ⟨g27,hi,c,g6,aj,L,hg,hP⟩;have UR:Hide (L.length=bs.xs.length):=⟨hP.h.GG.hold.sub.1⟩
  by_cases aK:i < bs.xs.length
  .have w0:IntKind.i64.wrap ((i:Int)+1)=(i+1:Nat):=by rw [wrap64 (by omega) (by omega)];omega
   have pO:(i:Int) < bs.xs.length:=by omega
   have hAb:=fun H=>zg (G:=G) (n:=n+6) (H:=H) (caps:=[]) (ps:=[fs.pv Fact.cells 9,(Sl.mk false (jb fs.xs.length)).pv aD 1,.int .i64 i]) zsN (e106 (n+4) fs (Sl.mk false (jb fs.xs.length)) i (J9 _) (by simp [Gx];omega));simp only [List.map] at hAb;(repeat' first|simp [*,za]|(apply zb<;>intro _ h<;>try simp [-Nat.le_zero_eq] at h))
   refine zN [(2,3),(6,6),(9,11),(35,84)] (fun (k:Nat) env H=>env 35=.pure (.int .i64 k)/\k<=4/\∃ c:Bool,env 6=.pure (.bool c)/\id < H.nx/\∃ L,H.get id=.cells true (zm Box.cells L)/\Hide (PJ ⟨bs,fs⟩ L0 L c i k)) (fun k=>4 - k) 0 ?_ ?_ ?_ ?_
   .decide
   .exact ⟨by simp,by omega,c,by simp [g6],aj,L,hg,hP⟩
   .simp only [zI];omega
   have g27':=g27;clear g27 g6 aj hg hP UR;rintro k env H ⟨g35,hk,c,g6,aj,L,hg,hP⟩;have UR:Hide (L.length=bs.xs.length):=⟨hP.h.GG.hold.sub.1⟩
   by_cases uz:k < 4
   .have w1:IntKind.i64.wrap ((k:Int)+1)=(k+1:Nat):=by rw [wrap64 (by omega) (by omega)];omega
    have Q0:(k:Int) < 4:=by omega
    have q1:=zou k;have q2:=zom k;have u1:IntKind.i64.wrap ((k / 2:Nat):Int)=(k / 2:Nat):=wrap64 (by omega) (by omega);obtain ⟨ax,y8⟩:∃ ax:Nat,ax=k / 2:=⟨_,rfl⟩
    obtain ⟨rR,Iz⟩:∃ m:Nat,m=k % 2:=⟨_,rfl⟩
    rw [<- y8] at q1 u1;rw [<- Iz] at q2;have CZ:Hide ((BR i k).cells=[.int .i64 i,.int .i64 ax,.bool (decide (rR=1))]):=⟨by simp [BR,Side.cells,y8,Iz]⟩
    have IA:=Hide.mk y8;have IB:=Hide.mk Iz;clear y8 Iz;have Y5:=Hide.mk hP.h.while;clear hP;(repeat' first|simp [*,za]|(apply zb<;>intro _ h<;>try simp [-Nat.le_zero_eq] at h));generalize Q5:decide ((rR:Int)=1)=hb at *;have IC:=Hide.mk Q5;have CZ:Hide ((BR i k).cells=[.int .i64 i,.int .i64 ax,.bool hb]):=⟨by
     rw [CZ.h,<- Q5];simp;omega⟩
    clear Q5;have bL:id≠H.nx:=by omega
    refine zN [(2,3),(6,6),(11,11),(45,83)] (fun (s:List Box) env H2=>∃ c:Bool,env 6=.pure (.bool c)/\H.nx < H2.nx/\H2.get id=.cells true (zm Box.cells s)/\H2.get H.nx=.cells true [.pure (.int .i64 i),.pure (.int .i64 ax),.pure (.bool hb)]/\Hide (WJ ⟨bs,fs⟩ L0 s c i k)) rT L ?_ ?_ ?_ ?_
    .decide
    .exact ⟨c,by simp [g6],by simp,by rw [zh bL,ze aj];exact hg,by simp,Y5⟩
    .have:=Y3 wP.h (L:=L) Y5.h.wj.hold.sub;simp only [zI];omega
    have g35':=g35;clear g35 g6 hg UR Y5 q1 q2 u1;rintro s env H2 ⟨c,g6,aT,hg,vB,hJ⟩;have xU:s.length=bs.xs.length:=hJ.h.wj.hold.sub.1;have oh:i < s.length:=by omega
    have jJ:id < H2.nx:=zu hg;obtain ⟨s1,IE,MC⟩:=Gs (n:=10) (f:=Box.cells) (sz:=4) (fun _=>rfl) hg xU;have c1:=e107 (n+4) s1 i k (by rw [IE];exact oh) uz (by rw [IE];omega);rw [IE,CZ.h] at c1;have UT:=hJ.h.wj.hold.wf;have qd:=hJ.h.wj.hold.sub;have c2:=Me.h (Sl.of (pQ fs.xs (jb fs.xs.length) i)) (Sl.mk false (zV s i k)) (by rw [Sl.lZ];exact Y0 _ _) (by rw [Sl.lZ];have:=zjj fs.xs i;omega) (by rw [Sl.jg];exact (YZ UT oh k).trans qd) (by rw [Sl.jg];exact YY UT oh k);rw [Sl.lZ,Sl.jg] at c2;have c3:=fun H=>zg (G:=G) (n:=n+6) (H:=H) (caps:=[]) (ps:=[fs.pv Fact.cells 9,(Sl.of (pQ fs.xs (jb fs.xs.length) i)).pv aD 1,(Sl.mk false (zV s i k)).pv Box.cells 4]) sh74 c2;simp only [List.map] at c3;have DI:=aJ.1 (Iu wP.h qd UT _ (List.getElem_mem oh));have hlsH:=Hide.mk xU;have p1:=YC oh;have p2:=YD oh;have p3:=YE oh;have p4:=YF oh;have r3:=zz (own:=true) (f:=Box.cells) (sz:=4) (l:=s) (i:=i) (size:=1) (off:=3) (fun _=>rfl) oh (by decide);have e3:i*4+2+1=i*4+3:=rfl;have v1:IntKind.i64.wrap (s[i].x.lo+1)=s[i].x.lo+1:=wrap64 (by omega) (by omega);have v2:IntKind.i64.wrap (s[i].x.hi - 1)=s[i].x.hi - 1:=wrap64 (by omega) (by omega);have v3:IntKind.i64.wrap (s[i].y.lo+1)=s[i].y.lo+1:=wrap64 (by omega) (by omega);have v4:IntKind.i64.wrap (s[i].y.hi - 1)=s[i].y.hi - 1:=wrap64 (by omega) (by omega);clear c2 UT qd DI xU IE;have Iw:=Hide.mk (pR (fs:=fs.xs) (l:=zV s i k) (i:=i));generalize hBv:bR fs.xs (zV s i k) (pQ fs.xs (jb fs.xs.length) i)=B2 at *;clear hBv;(repeat' first|simp [*,za]|(apply zb<;>intro _ h<;>try simp [-Nat.le_zero_eq] at h))
    refine LM (caps:=[]) (ps:=[_,_]) (by decide) (.cons MC (.cons (.pure _) .nil)) c1 (UQ _) ?_
    clear c1 MC
    by_cases Kq:0<=B2
    case neg =>
     have hPx:=Hide.mk (hJ.h.exit wP.h oh uz (fun h=>Kq (Iw.h.2 h)));clear Iw hJ p1 p2 p3 p4 r3;(repeat' first|simp [*,za]|(apply zb<;>intro _ h<;>try simp [-Nat.le_zero_eq] at h))
     refine ⟨k+1,by omega,by omega,by omega,?_⟩
     cases c with
     | false=>exact .inl ⟨rfl,s,rfl,hPx⟩
     | true=>exact .inr ⟨rfl,s,rfl,hPx⟩
    case pos =>
     have nI:=Iw.h.1 Kq;clear Iw;have ME:k=0\/k=1\/k=2\/k=3:=by omega
     rcases ME with rfl|rfl|rfl|rfl
     .have MF:ax=0:=IA.h;have uV:hb=false:=by rw [<- IC.h,IB.h];rfl
      subst MF;subst uV;have hW:=fun ht:¬ s[i].x.lo=s[i].x.hi=>hJ.h.step wP.h oh (show 0 < 4 by omega) nI (fun e=>ht (by simpa [mg] using e));have hE:=fun ht:s[i].x.lo=s[i].x.hi=>hJ.h.wj.empty wP.h oh (show 0 < 4 by omega) nI (by simpa [mg] using ht);rw [Gt oh] at hW;have hW:=Hide.mk hW;have hE:=Hide.mk hE;have FC:=Hide.mk hJ.h.wj.hold.sub.1;clear hJ nI
      by_cases FD:s[i].x.lo=s[i].x.hi
      .have Iy:r=none:=Db.h.unique (hE.h FD);subst Iy;clear hW hE Db;simp [*,za]
      .obtain ⟨AJ,AL⟩:=hW.h FD;have AJ:=Hide.mk AJ;have AL:=Hide.mk AL;clear hW hE;(repeat' first|simp [*,za]|(apply zb<;>intro _ h<;>try simp [-Nat.le_zero_eq] at h))
       refine ⟨_,AL.h,rfl,?_,AJ⟩
       rw [zh (Ne.symm bL)]
       simpa using vB
     .have MF:ax=0:=IA.h;have uV:hb=true:=by rw [<- IC.h,IB.h];rfl
      subst MF;subst uV;have hW:=fun ht:¬ s[i].x.lo=s[i].x.hi=>hJ.h.step wP.h oh (show 1 < 4 by omega) nI (fun e=>ht (by simpa [mg] using e));have hE:=fun ht:s[i].x.lo=s[i].x.hi=>hJ.h.wj.empty wP.h oh (show 1 < 4 by omega) nI (by simpa [mg] using ht);rw [Gt oh] at hW;have hW:=Hide.mk hW;have hE:=Hide.mk hE;have FC:=Hide.mk hJ.h.wj.hold.sub.1;clear hJ nI
      by_cases FD:s[i].x.lo=s[i].x.hi
      .have Iy:r=none:=Db.h.unique (hE.h FD);subst Iy;clear hW hE Db;simp [*,za]
      .obtain ⟨AJ,AL⟩:=hW.h FD;have AJ:=Hide.mk AJ;have AL:=Hide.mk AL;clear hW hE;(repeat' first|simp [*,za]|(apply zb<;>intro _ h<;>try simp [-Nat.le_zero_eq] at h))
       refine ⟨_,AL.h,rfl,?_,AJ⟩
       rw [zh (Ne.symm bL)]
       simpa using vB
     .have MF:ax=1:=IA.h;have uV:hb=false:=by rw [<- IC.h,IB.h];rfl
      subst MF;subst uV;have hW:=fun ht:¬ s[i].y.lo=s[i].y.hi=>hJ.h.step wP.h oh (show 2 < 4 by omega) nI (fun e=>ht (by simpa [mg] using e));have hE:=fun ht:s[i].y.lo=s[i].y.hi=>hJ.h.wj.empty wP.h oh (show 2 < 4 by omega) nI (by simpa [mg] using ht);rw [Gt oh] at hW;have hW:=Hide.mk hW;have hE:=Hide.mk hE;have FC:=Hide.mk hJ.h.wj.hold.sub.1;clear hJ nI
      by_cases FD:s[i].y.lo=s[i].y.hi
      .have Iy:r=none:=Db.h.unique (hE.h FD);subst Iy;clear hW hE Db;simp [*,za]
      .obtain ⟨AJ,AL⟩:=hW.h FD;have AJ:=Hide.mk AJ;have AL:=Hide.mk AL;clear hW hE;(repeat' first|simp [*,za]|(apply zb<;>intro _ h<;>try simp [-Nat.le_zero_eq] at h))
       refine ⟨_,AL.h,rfl,?_,AJ⟩
       rw [zh (Ne.symm bL)]
       simpa using vB
     .have MF:ax=1:=IA.h;have uV:hb=true:=by rw [<- IC.h,IB.h];rfl
      subst MF;subst uV;have hW:=fun ht:¬ s[i].y.lo=s[i].y.hi=>hJ.h.step wP.h oh (show 3 < 4 by omega) nI (fun e=>ht (by simpa [mg] using e));have hE:=fun ht:s[i].y.lo=s[i].y.hi=>hJ.h.wj.empty wP.h oh (show 3 < 4 by omega) nI (by simpa [mg] using ht);rw [Gt oh] at hW;have hW:=Hide.mk hW;have hE:=Hide.mk hE;have FC:=Hide.mk hJ.h.wj.hold.sub.1;clear hJ nI
      by_cases FD:s[i].y.lo=s[i].y.hi
      .have Iy:r=none:=Db.h.unique (hE.h FD);subst Iy;clear hW hE Db;simp [*,za]
      .obtain ⟨AJ,AL⟩:=hW.h FD;have AJ:=Hide.mk AJ;have AL:=Hide.mk AL;clear hW hE;(repeat' first|simp [*,za]|(apply zb<;>intro _ h<;>try simp [-Nat.le_zero_eq] at h))
       refine ⟨_,AL.h,rfl,?_,AJ⟩
       rw [zh (Ne.symm bL)]
       simpa using vB
   .have Bv:k=4:=by omega
    subst Bv;have Fp:=Hide.mk hP.h.Ko;clear hP;(repeat' first|simp [*,za]|(apply zb<;>intro _ h<;>try simp [-Nat.le_zero_eq] at h))
    refine ⟨i+1,by omega,rfl,by omega,?_⟩
    cases c with
    | false=>exact .inl ⟨rfl,L,rfl,Fp⟩
    | true=>exact .inr ⟨rfl,L,rfl,Fp⟩
  .have wL:i=bs.xs.length:=by omega
   subst wL;have Fp:=hP.h;rw [<- UR.h] at Fp;have fF:=Hide.mk Fp.done;have Ju:=Hide.mk Fp.GG;have hle:=Hide.mk Fp.less;have wS:=Hide.mk Fp.same;clear hP Fp;(repeat' first|simp [*,za]|(apply zb<;>intro _ h<;>try simp [-Nat.le_zero_eq] at h))
   refine ⟨L,?_⟩
   cases c with
   | false=>exact .inl ⟨by rw [(wS.h rfl).1];omega,rfl,rfl,⟨Ju.h,fF.h rfl⟩⟩
   | true=>exact .inr ⟨hle.h rfl,rfl,rfl,⟨Ju.h⟩⟩
def l7:Option (List Pt)->PV
 | none=>.nils
 | some c=>(Sl.mk false c).pv Pt.cells 2
def lI (o:Option (List Pt)):List PV:=[l7 o]
theorem zsj (o:Option (List Pt)):PV.one (l7 o)=true:=by cases o<;>rfl
theorem zlC (o:Option (List Pt)):(lI o).length=1:=rfl
theorem zro (o:Option (List Pt)):(lI o).all PV.one=true:=by simp [lI,zsj]
theorem zpc {l:List (Option (List Pt))} {i:Nat} {a:Option (List Pt)} (h:i < l.length):rQ (.cells true (zm lI l)) 1 i [.pure (l7 a)]=some (.cells true (zm lI (l.set i a))):=by
 have:=Ia (f:=lI) (sz:=1) (a:=a) zlC zro (by decide) h;rwa [Nat.mul_one] at this
theorem znO {own:Bool} {l:List (Option (List Pt))} {i:Nat} (h:i < l.length):DW (.cells own (zm lI l)) 1 i=some [.pure (l7 l[i])]:=Oj zlC h
def UU (sz len:Nat) (v i:AV):Option Eff:=match i with
 | .pure (.int _ n)=>if 0<=n then (if n < len then match v with
    | .pure (.ptr k cs o)=>some (.val (.pure (.ptr k cs (o+n.toNat*sz))))
    | .box id o=>some (.val (.box id (o+n.toNat*sz)))
    | _=>none else none)
   else none
 | _=>none
theorem Q7 {cl:Callee} {env:Env} {H:Heap} (sz len:Nat) (x i:aa):step cl env H (.indexAddr sz (some len) x i)=UU sz len (x.eval env) (i.eval env):=by
 simp only [step,UU];rfl
theorem zoY {k:IntKind} {sz len n id o:Nat} (h:n < len):UU sz len (.box id o) (.pure (.int k n))=some (.val (.box id (o+n*sz))):=by
 simp only [UU];rw [if_pos (by omega),if_pos (by omega)];simp
theorem Y6 (c:List Pt):((Sl.mk false c).pv Pt.cells 2).cold=true:=by
 simp [Sl.pv,PV.cold,PV.fZ,Pt.cells]
theorem Y7 {H:Heap} {pid m:Nat} {c:List Pt} (hp:H.get pid=.cells true (zm Pt.cells c)) (hc:c.length=m):FrzL H true nZ ([.row pid 2 0 m]++([]:List PV).map .pure) [(Sl.mk true c).pv Pt.cells 2]:=by
 subst hc;have nK:∀ l:List Pt,chunks 2 l.length ((l.map Pt.cells).flatten)=l.map Pt.cells:=by
  intro l
  induction l with
  | nil=>rfl
  | cons a l ih=>simp only [List.length_cons,chunks,List.map_cons,List.flatten_cons];rw [List.take_left' (by rfl),List.drop_left' (by rfl),ih]
 refine .cons ?_ .nil
 obtain ⟨s,hs,hf⟩:=Gs (n:=10) (f:=Pt.cells) (sz:=2) (fun _=>rfl) hp rfl;obtain ⟨ids,iY⟩:=hf
 refine ⟨ids,iY.trans ?_⟩
 cases s with
 | nil =>
  exfalso;have h0:c=[]:=hs.symm;subst h0;unfold freeze at iY;simp [hp,Om,zO,Sl.pv] at iY
 | mk h xs =>
  have hx:xs=c:=hs;subst hx
  cases h with
  | true=>rfl
  | false =>
   exfalso;unfold freeze at iY;simp only [hp] at iY
   split at iY
   .split at iY
    .simp [Sl.pv] at iY
    .simp at iY
   .simp at iY
def FE (part:List Nat) (ji:Nat) (A:Acc):List AV:=[.pure (lM part),.pure (.int .i64 A.n),.row ji 4 0 part.length,.pure (l7 A.first)]
def Q8 (m:Nat) (c:List Pt):Prop:=c.length=m/\∀ x∈c,sO x
def okB (m:Nat) (B:List (Option (List Pt))):Prop:=B.length=4*m/\∀ o∈B,∀ d,o=some d->Q8 m d
theorem zs7 {m:Nat} {B:List (Option (List Pt))} {c:List Pt} (h:okB m B) (hc:Q8 m c) (t:Nat):okB m (nU B c t):=by
 refine ⟨by rw [Mc];exact h.1,fun o ho d hd=>?_⟩
 obtain ⟨j,hj,e⟩:=List.mem_iff_getElem.1 ho;have ng:j < B.length:=by rw [Mc] at hj;exact hj
 simp only [nU,List.getElem_mapIdx] at e;subst hd
 split at e
 .unfold CX at e
  split at e
  .rename_i h0;simp only [Option.some.injEq] at e;subst e;exact hc
  .rename_i d' h0
   split at e
   .simp only [Option.some.injEq] at e;subst e;exact hc
   .exact h.2 _ (List.getElem_mem ng) d (h0.trans e)
 .exact h.2 _ (List.getElem_mem ng) d e
theorem zlB {n:Nat} {H:Heap} {ji mG sb pid pb:Nat} {c1 c2 c3 c4 c5:AV} {part:List Nat} {A:Acc} {c:List Pt} {k:AV->Heap->Prop}
  (o:ji < mG/\mG < sb/\sb < pid/\pid < pb) (xQ:0 < part.length) (hm:part.length<=12) (hc:Q8 part.length c) (hA:okB part.length A.best) (hn:A.n < 4000000000000000000)
  (OG:H.get sb=.cells true [.box mG 0]) (QF:H.get pb=.cells true [.row pid 2 0 part.length])
  (hs:H.get mG=.cells true (FE part ji A)) (he:H.get ji=.cells true (zm lI A.best)) (hp:H.get pid=.cells true (zm Pt.cells c))
  (hk:∀ H',H.nx<=H'.nx->(∀ j,j < H.nx->j≠mG->j≠ji->H'.get j=H.get j)->H'.get mG=.cells true (FE part ji (yh A c))->H'.get ji=.cells true (zm lI (yh A c).best)->k (.aM []) H') :
  ∃ v H',Vm.call G (n+2) (.fn 114) ([.pure (.int .i64 part.length),.pure (.ptr false [lM part] 0),.box sb 0,.box pb 0,c1,c2,c3,c4,c5]) H=some (v,H')/\k v H':=by
 refine Gq rfl g114 rfl ?_
 obtain ⟨m,Q9⟩:∃ m,m=part.length:=⟨_,rfl⟩
 have fe:c.length=m:=by rw [Q9];exact hc.1
 have hkH:=Hide.mk hk;have MG:=Hide.mk hc;have Y8:=Hide.mk hA;clear hk hc hA;have iK:Hide (c≠[]):=⟨by intro h;rw [h] at fe;simp at fe;omega⟩
 have cl:=fun (H:Heap)=>(e115 n true c iK.h (by omega))
 have hmH:=Hide.mk Q9;have hAn:=Hide.mk hn;have d1:sb≠mG:=by omega
 have d2:pb≠mG:=by omega
 have d3:pid≠mG:=by omega
 have d4:ji≠mG:=by omega
 have e1:sb≠ji:=by omega
 have e2:pb≠ji:=by omega
 have e3:pid≠ji:=by omega
 have e4:mG≠ji:=by omega
 have Yq:=zu hs;have lt2:=zu he;have lt3:=zu OG;have lt4:=zu QF;have lt5:=zu hp;have sH:((part.map fun (k:Nat)=>[PV.int .i64 (k:Int)]).length)=part.length:=by simp
 obtain ⟨S,hS⟩:∃ S,S=aR.cells true (FE part ji (yh A c)):=⟨_,rfl⟩
 have hS2:DW S 1 2=some [.row ji 4 0 part.length]:=by rw [hS];rfl
 have hSn:yh A c=⟨A.n+1,if A.n=0 then some c else A.first,A.best.mapIdx fun j o=>CX (jE j) o c⟩:=rfl;have Y9:=Hide.mk hS;have Rb:=Hide.mk hSn;unfold FE at hs;obtain ⟨pp,GH⟩:∃ pp,pp=lM part:=⟨_,rfl⟩
 have hpe:Hide (pp=lM part):=⟨GH⟩
 have Za:Gm (.pure pp)=some (.val (.pure (.int .i64 part.length))):=by rw [GH];simp [lM]
 have ah:AV.cells (.pure pp)=[.pure pp]:=by rw [GH];rfl
 have DL:AV.one (.pure pp)=true:=by rw [GH];rfl
 have hbT:=Hide.mk (fun i j (hi:i < part.length) (hj:j < 4)=>((by rw [Y8.h.1];omega:i*4+j < A.best.length)));rw [<- GH] at hs ⊢;clear GH Q9 hS hSn;have bzH:=Hide.mk (zkP A.best c)
 by_cases h1:A.n=0
 case' neg =>
  obtain ⟨N1,hN1⟩:∃ N1:Int,N1=(A.n:Int)+1:=⟨_,rfl⟩
  have hI:¬ N1=1:=by omega
  have w1:IntKind.i64.wrap ((A.n:Int)+1)=N1:=by rw [wrap64 (by omega) (by omega)];omega
  have UW:Hide (aR.cells true [.pure pp,.pure (.int .i64 N1),.row ji 4 0 part.length,.pure (l7 A.first)]=S):=⟨by
   rw [Y9.h,Rb.h,hpe.h,hN1];simp [FE,h1]⟩
  clear hN1 hn h1;generalize (A.n:Int)=N at *;(repeat' first|simp [*,za,c114,Gy]|(apply zb<;>intro _ h<;>try simp [-Nat.le_zero_eq] at h))
  refine zN [(10,13),(38,80)] (fun (i:Nat) env H2=>env 38=.pure (.int .i64 i)/\i<=part.length/\H.nx<=H2.nx/\Hide (∀ j,j < H.nx->j≠mG->j≠ji->H2.get j=H.get j)/\H2.get mG=S/\H2.get ji=.cells true (zm lI (nU A.best c (i*4)))) (fun i=>part.length - i) 0 ?_ ?_ ?_ ?_
  .decide
  .refine ⟨by simp,by omega,by simp,⟨fun j h1 h2 h3=>by simp [*]⟩,?_,?_⟩
   .rw [zo (by simp [*]),UW.h]
   .rw [Nat.zero_mul,bzH.h];simp [*]
  .simp only [zI];omega
 case' pos =>
  have w1:IntKind.i64.wrap ((A.n:Int)+1)=1:=by rw [h1];rfl
  have UW:Hide (aR.cells true [.pure pp,.pure (.int .i64 1),.row ji 4 0 part.length,.pure ((Sl.mk false c).pv Pt.cells 2)]=S):=⟨by
   rw [Y9.h,Rb.h,hpe.h];simp [FE,h1,l7]⟩
  have hpc:∀ H2:Heap,H2.get pid=H.get pid->FrzL H2 true nZ ([.row pid 2 0 part.length]++([]:List PV).map .pure) [(Sl.mk true c).pv Pt.cells 2]:=fun H2 h=>Y7 (h.trans hp) MG.h.1;have Zb:=Hide.mk hpc;clear hn h1 hpc;generalize (A.n:Int)=N at *;(repeat' first|simp [*,za,c114,Gy]|(apply zb<;>intro _ h<;>try simp [-Nat.le_zero_eq] at h))
  refine LM (caps:=[]) Yu (Zb.h _ ?_) (cl H) (Y6 c) ?_
  .simp [*]
  (repeat' first|simp [*,za,Gy]|(apply zb<;>intro _ h<;>try simp [-Nat.le_zero_eq] at h))
  refine zN [(10,13),(38,80)] (fun (i:Nat) env H2=>env 38=.pure (.int .i64 i)/\i<=part.length/\H.nx<=H2.nx/\Hide (∀ j,j < H.nx->j≠mG->j≠ji->H2.get j=H.get j)/\H2.get mG=S/\H2.get ji=.cells true (zm lI (nU A.best c (i*4)))) (fun i=>part.length - i) 0 ?_ ?_ ?_ ?_
  .decide
  .refine ⟨by simp,by omega,by simp,⟨fun j h1 h2 h3=>by simp [*]⟩,?_,?_⟩
   .rw [zo (by simp [*]),UW.h]
   .rw [Nat.zero_mul,bzH.h];simp [*]
  .simp only [zI];omega
 all_goals
  clear UW hs he sH Za ah DL;rintro i env H2 ⟨g38,hi,fD,ag,wK,DT⟩;have Zc:H2.get sb=.cells true [.box mG 0]:=by rw [ag.h sb (by omega) (by omega) (by omega)];exact OG
  have Zd:H2.get pb=.cells true [.row pid 2 0 part.length]:=by rw [ag.h pb (by omega) (by omega) (by omega)];exact QF
  have hp2:H2.get pid=.cells true (zm Pt.cells c):=by rw [ag.h pid (by omega) (by omega) (by omega)];exact hp
  by_cases aK:i < part.length
  .have w2:IntKind.i64.wrap ((i:Int)+1)=(i+1:Nat):=by rw [wrap64 (by omega) (by omega)];omega
   have pO:(i:Int) < part.length:=by omega
   have Ze:i < c.length:=by have:=hmH.h;omega
   have Pz:=Hide.mk (MG.h.2 c[i] (List.getElem_mem Ze));obtain ⟨x,y,K9⟩:∃ x y,c[i]=⟨x,y⟩:=⟨c[i].x,c[i].y,rfl⟩
   have rp:=zmA (own:=true) (f:=Pt.cells) (sz:=2) (l:=c) (i:=i) (size:=2) (fun _=>rfl) Ze (Nat.le_refl _);rw [K9] at rp;simp only [Pt.cells,List.take,List.map] at rp;have Rf:=Hide.mk K9;clear K9;have lt6:=zu DT;have hbnd:=hbT.h i;(repeat' first|simp [*,za]|(apply zb<;>intro _ h<;>try simp [-Nat.le_zero_eq] at h))
   refine zN [(12,13),(43,79)] (fun (t:Nat) env H3=>env 43=.pure (.int .i64 t)/\t<=4/\H2.nx < H3.nx/\Hide (∀ j,j < H.nx->j≠mG->j≠ji->H3.get j=H.get j)/\H3.get mG=S/\H3.get ji=.cells true (zm lI (nU A.best c (i*4+t)))/\H3.get H2.nx=.cells true [.pure (.int .i64 x),.pure (.int .i64 y)]) (fun t=>4 - t) 0 ?_ ?_ ?_ ?_
   .decide
   .refine ⟨by simp,by omega,by simp,⟨fun j h1 h2 h3=>?_⟩,?_,?_,?_⟩
    .rw [zh (by omega),ze (by omega)];exact ag.h j h1 h2 h3
    .rw [zh (by omega),ze (by omega)];exact wK
    .rw [zh (by omega),ze (by omega)];exact DT
    .rw [zo (by simp)]
   .simp only [zI];omega
   have g38':=g38;clear g38 ag wK DT Zc Zd hp2;rintro t env H3 ⟨g43,ht,C8,ag,hs3,he3,hb3⟩;have hsb3:H3.get sb=.cells true [.box mG 0]:=by rw [ag.h sb (by omega) (by omega) (by omega)];exact OG
   have hpb3:H3.get pb=.cells true [.row pid 2 0 part.length]:=by rw [ag.h pb (by omega) (by omega) (by omega)];exact QF
   have hp3:H3.get pid=.cells true (zm Pt.cells c):=by rw [ag.h pid (by omega) (by omega) (by omega)];exact hp
   by_cases h4:t < 4
   .have w3:IntKind.i64.wrap ((t:Int)+1)=(t+1:Nat):=by rw [wrap64 (by omega) (by omega)];omega
    have h4I:(t:Int) < 4:=by omega
    have Rh:=hbT.h i t aK h4;have UX:i*4+t < (nU A.best c (i*4+t)).length:=by rw [Mc];exact Rh
    have ra:=znO (own:=true) UX;rw [znL] at ra;have lq:=zpc (a:=some c) UX;have AO:=zoY (k:=.i64) (sz:=1) (len:=4) (n:=t) (id:=ji) (o:=i*4) h4;rw [Nat.mul_one] at AO;have BQ:jE (i*4+t) c=jL ⟨x,y⟩ t:=by
     unfold jE;rw [show (i*4+t) / 4=i by omega,show (i*4+t) % 4=t by omega,getElem!_pos c i Ze,Rf.h]
    have fF:=Hide.mk (zmq A.best c (i*4+t) Rh);have CZ:=Hide.mk (zlW A.best c (i*4+t) Rh);have MH:=Hide.mk (Y8.h.2 _ (List.getElem_mem Rh));have MI:=Hide.mk BQ;have NN:i*4+(t+1)=i*4+t+1:=rfl;have d5:ji≠H2.nx:=by omega
    have d6:H2.nx≠ji:=by omega
    have hnxe:ji < H3.nx:=by omega
    generalize hO:A.best[i*4+t]'Rh=O at *
    cases O with
    | none =>
     have qx:Hide ((nU A.best c (i*4+t)).set (i*4+t) (some c)=nU A.best c (i*4+(t+1))):=⟨by rw [NN];exact fF.h (by rfl)⟩
     have hb:fK .eql .slice (.pure (l7 none)) (.pure .nils)=some (.pure (.bool true)):=rfl;clear fF CZ MH BQ MI hO UX NN;(repeat' first|simp [*,za,Gy,Q7]|(apply zb<;>intro _ h<;>try simp [-Nat.le_zero_eq] at h))
     refine LM (caps:=[]) Yu (Y7 hp3 MG.h.1) (cl H3) (Y6 c) ?_
     have uU:AV.cells (.pure ((Sl.mk false c).pv Pt.cells 2))=[.pure (l7 (some c))]:=rfl;have uD:=lq;rw [qx.h] at uD;clear lq;(repeat' first|simp [*,za,Gy,Q7]|(apply zb<;>intro _ h<;>try simp [-Nat.le_zero_eq] at h))
     refine ⟨t+1,by omega,by omega,by omega,⟨fun j h1 h2 h3=>?_⟩,rfl⟩
     rw [zh h3];exact ag.h j h1 h2 h3
    | some d =>
     obtain ⟨hdl,hdx⟩:=MH.h d rfl;have aj:i < d.length:=by omega
     have NY:=hdx d[i] (List.getElem_mem aj);obtain ⟨u,v,UY⟩:∃ u v,d[i]=⟨u,v⟩:=⟨d[i].x,d[i].y,rfl⟩
     have hkd:jE (i*4+t) d=jL ⟨u,v⟩ t:=by
      unfold jE;rw [show (i*4+t) / 4=i by omega,show (i*4+t) % 4=t by omega,getElem!_pos d i aj,UY]
     have IG:=Pz.h;rw [Rf.h] at IG;rw [UY] at NY;have k1:=fun H=>zg (G:=G) (n:=n+1) (H:=H) (caps:=[]) (ps:=[.agg (Pt.mk x y).cells,.int .i64 t]) zsx (e116 n ⟨x,y⟩ t h4 IG.1 IG.2);have k2:=fun H=>zg (G:=G) (n:=n+1) (H:=H) (caps:=[]) (ps:=[.agg (Pt.mk u v).cells,.int .i64 t]) zsx (e116 n ⟨u,v⟩ t h4 NY.1 NY.2);have Kr:CQ 2 (.pure (l7 (some d))) (.pure (.int .i64 i))=some (.val (.pure (.ptr false [.int .i64 u,.int .i64 v] 0))):=by
      have:=vM (k:=.i64) (f:=Pt.cells) (sz:=2) (s:=Sl.mk false d) (n:=i) (by simpa using aj)
      simpa [UY,l7,Sl.sF] using this
     have hb:fK .eql .slice (.pure (l7 (some d))) (.pure .nils)=some (.pure (.bool false)):=XX rfl;simp only [Pt.cells,List.map] at k1 k2;have II:Hide (CX (jE (i*4+t)) (some d) c=if jL ⟨x,y⟩ t < jL ⟨u,v⟩ t then some c else some d):=⟨by unfold CX;simp only [hkd,MI.h]⟩
     generalize jL ⟨x,y⟩ t=K1 at *;generalize jL ⟨u,v⟩ t=K2 at *;clear BQ MI hO UX NN MH hdx hdl NY IG hkd UY
     by_cases hK:K1 < K2
     .have qx:Hide ((nU A.best c (i*4+t)).set (i*4+t) (some c)=nU A.best c (i*4+(t+1))):=⟨fF.h (by rw [II.h,if_pos hK])⟩
      clear fF CZ II;(repeat' first|simp [*,za,Gy,Q7]|(apply zb<;>intro _ h<;>try simp [-Nat.le_zero_eq] at h))
      refine LM (caps:=[]) Yu (Y7 hp3 MG.h.1) (cl H3) (Y6 c) ?_
      have uU:AV.cells (.pure ((Sl.mk false c).pv Pt.cells 2))=[.pure (l7 (some c))]:=rfl;have uD:=lq;rw [qx.h] at uD;clear lq;(repeat' first|simp [*,za,Gy,Q7]|(apply zb<;>intro _ h<;>try simp [-Nat.le_zero_eq] at h))
      refine ⟨t+1,by omega,by omega,by omega,⟨fun j h1 h2 h3=>?_⟩,rfl⟩
      rw [zh h3];exact ag.h j h1 h2 h3
     .have Zf:Hide (nU A.best c (i*4+(t+1))=nU A.best c (i*4+t)):=⟨CZ.h (by rw [II.h,if_neg hK])⟩
      clear fF CZ II lq;(repeat' first|simp [*,za,Gy,Q7]|(apply zb<;>intro _ h<;>try simp [-Nat.le_zero_eq] at h));exact ⟨t+1,by omega,by omega,by omega,by rw [Zf.h]⟩
   .have ht4:t=4:=by omega
    subst ht4;rw [show i*4+4=(i+1)*4 by omega] at he3;(repeat' first|simp [*,za]|(apply zb<;>intro _ h<;>try simp [-Nat.le_zero_eq] at h));exact ⟨i+1,by omega,by omega,by omega,by omega,rfl⟩
  .have aU:i=part.length:=by omega
   subst aU;have qg:=hkH.h H2 fD ag.h (by rw [wK,Y9.h]) (by rw [DT,zij _ _ _ (by have:=Y8.h.1;omega)];rfl);clear hkH ag;(repeat' simp [*,za])
theorem zsS:G.shared 117=false:=by decide
theorem e117 (n:Nat) (b:Box):zF G (n+1) 117 [.agg b.cells]=some (.func 138 [.ptr false b.cells 0]):=by
 refine zx (zw _) rfl g117 rfl ?_
 simp [*,za,c117,Box.cells,Span.cells]
theorem zjM:G.shared 114=true:=by decide
structure IJ where
 mG:Nat
 ji:Nat
 sb:Nat
 pid:Nat
 pb:Nat
 aj:Nat
 hb:Nat
 mid:Nat
 mb:Nat
 cb:Nat
def IK (I:IJ) (p:Problem) (l:Sl Box) (part:List Nat):List AV:=[.pure (.ptr false [lM part] 0),.box I.sb 0,.box I.pb 0,.pure (.ptr false [l.pv Box.cells 4] 0),.box I.hb 0,.pure (.ptr false p.cells 0),.box I.mb 0,.box I.cb 0]
structure uE (I:IJ) (p:Problem) (l:Sl Box) (part:List Nat) (ml:List (List Int)) (H:Heap):Prop where
 ord:I.ji < I.mG/\I.mG < I.sb/\I.sb < I.aj/\I.aj < I.hb/\I.hb < I.mb/\I.mb < I.mid/\I.mid < I.pid/\I.pid < I.pb/\I.pb < I.cb
 sb:H.get I.sb=.cells true [.box I.mG 0]
 pb:H.get I.pb=.cells true [.row I.pid 2 0 part.length]
 hb:H.get I.hb=.cells true [.row I.aj 4 0 l.xs.length]
 mb:H.get I.mb=.cells true [.row I.mid 1 0 part.length]
 mid:∃ xs:List AV,H.get I.mid=.cells true xs/\xs.length=part.length/\∀ k (h:k < xs.length),aZ aD 1 H xs[k] ml[k]! /\ ∀ id,Names xs[k] id->I.mb < id/\id < I.pid
 cb:H.get I.cb=.cells true [.func 114 (IK I p l part)]
structure mV (I:IJ) (H H':Heap):Prop where
 nx:H.nx<=H'.nx
 get:∀ j,j < H.nx->j≠I.mG->j≠I.ji->j≠I.pid->j≠I.aj->H'.get j=H.get j
theorem mV.refl (I:IJ) (H:Heap):mV I H H:=⟨Nat.le_refl _,fun _ _ _ _ _ _=>rfl⟩
theorem mV.trans {I:IJ} {H H1 H2:Heap} (h:mV I H H1) (h':mV I H1 H2):mV I H H2 :=
 ⟨Nat.le_trans h.nx h'.nx,fun j a b c d e=>(h'.get j (by have:=h.nx;omega) b c d e).trans (h.get j a b c d e)⟩
section
variable {I:IJ} {p:Problem} {l:Sl Box} {part:List Nat} {ml:List (List Int)} {H H':Heap}
theorem uE.lt (h:uE I p l part ml H):I.cb < H.nx:=zu h.cb
theorem uE.keep (h:uE I p l part ml H) (k:mV I H H'):uE I p l part ml H':=by
 have aK:=h.lt;have o:=h.ord;have g:∀ j,j < H.nx->j≠I.mG->j≠I.ji->j≠I.pid->j≠I.aj->H'.get j=H.get j:=k.get
 refine ⟨o,?_,?_,?_,?_,?_,?_⟩
 .rw [g _ (by omega) (by omega) (by omega) (by omega) (by omega)];exact h.sb
 .rw [g _ (by omega) (by omega) (by omega) (by omega) (by omega)];exact h.pb
 .rw [g _ (by omega) (by omega) (by omega) (by omega) (by omega)];exact h.hb
 .rw [g _ (by omega) (by omega) (by omega) (by omega) (by omega)];exact h.mb
 .obtain ⟨xs,h1,h2,h3⟩:=h.mid
  refine ⟨xs,?_,h2,fun k hk=>?_⟩
  .rw [g _ (by omega) (by omega) (by omega) (by omega) (by omega)];exact h1
  .obtain ⟨a,b⟩:=h3 k hk
   refine ⟨a.keep fun id ⟨m,hm⟩=>?_,b⟩
   have:=b id ⟨_,_,_,hm⟩;exact g _ (by omega) (by omega) (by omega) (by omega) (by omega)
 .rw [g _ (by omega) (by omega) (by omega) (by omega) (by omega)];exact h.cb
end
structure FH (I:IJ) (part:List Nat) (A:Acc) (pts:List Pt) (here:List Box) (H:Heap):Prop where
 s:H.get I.mG=.cells true (FE part I.ji A)
 e:H.get I.ji=.cells true (zm lI A.best)
 p:H.get I.pid=.cells true (zm Pt.cells pts)
 h:H.get I.aj=.cells true (zm Box.cells here)
 best:okB part.length A.best
 pts:Q8 part.length pts
structure Zg (p:Problem) (l:Sl Box) (part:List Nat) (ml:List (List Int)):Prop where
 ok:af p
 sub:aL l.xs p.boxes.xs
 wf:Wf l.xs
 nodup:part.Nodup
 lt:∀ i∈part,i < l.xs.length
 pos:0 < part.length
 few:part.length<=12
 ml:∀ k,k < part.length->rY p.facts.xs ml[k]! /\ (ml[k]!).length<=60/\∀ here,(bR p.facts.xs here ml[k]! < 0↔qD p.facts.xs part k here=true)
theorem zs9 {p:Problem} {l:Sl Box} {part:List Nat} {ml:List (List Int)} (h:Zg p l part ml) {i:Nat} (hi:i < l.xs.length) {x:Pt} (hx:x∈rf l.xs[i]):sO x:=by
 have hv:=aJ.1 (Iu h.ok h.sub h.wf _ (List.getElem_mem hi));have:=mem_places.1 hx;unfold fA at this;unfold sO;omega
theorem zpf {n:Nat} {b:Box} (hb:ny b=true) {env:Env} {H:Heap} {f:aa} {params:List Nat} {assign body:aP} {Q:bW->Env->Heap->Prop} {u} (hf:f.eval env=.pure (.func 138 [.ptr false b.cells 0])) (hp:params.length=1)
  (J:Nat->Nat->Heap->Prop)
  (Kt:∀ i k H1 H2,J i k H1->H.nx < H1.nx->H2.nx=H1.nx->(∀ j,j≠H.nx->H2.get j=H1.get j)->J i k H2)
  (h0:∀ H1,H1.nx=H.nx+1->(∀ j,j < H.nx->H1.get j=H.get j)->J 0 0 H1)
  (qo:∀ i H1,J i (b.y.hi - b.y.lo+1).toNat H1->J (i+1) 0 H1)
  (wO:∀ i k H1,i < (b.x.hi - b.x.lo+1).toNat->k < (b.y.hi - b.y.lo+1).toNat->J i k H1->H.nx < H1.nx ->
   wp (zn G n) assign ((params.zip [.pure (.agg [.int .i64 (b.x.lo+i),.int .i64 (b.y.lo+k)])]).foldl (fun e x=>upd e x.1 x.2) env) H1 (fun x iM H2=>x=.normal/\H1.nx<=H2.nx/\(∀ j,j < H1.nx->H2.get j=H1.get j) /\
    ∀ Hb,Hb.nx=H2.nx->(∀ j,j≠H.nx->Hb.get j=H2.get j) ->
     wp (zn G n) body iM Hb (fun x _ H3=>x=.normal/\H3.get H.nx=Hb.get H.nx/\Hb.nx<=H3.nx/\J i (k+1) H3) .mk) .mk)
  (Ah:∀ H',J (b.x.hi - b.x.lo+1).toNat 0 H'->Q .normal env H') :
  wp (zn G (n+2)) (.rangeFunc f params assign body) env H Q u:=by
 refine zky hf ?_
 obtain ⟨v,H2,h1,h2,h3⟩:=zmd n b hb (H.alloc (.loop { env,params,assign,body,state:=.ready,pending:=.normal })) H.nx { env,params,assign,body,state:=.ready,pending:=.normal } rfl rfl hp (Ai _) (fun i k H1=>H.nx < H1.nx/\J i k H1)
  ⟨by simp,h0 _ (by simp) fun j hj=>ze hj⟩ (fun i H1 h=>⟨h.1,qo i H1 h.2⟩)
  (fun i k H1 hi hk hJ mF=>by
   refine (wO i k H1 hi hk hJ.2 hJ.1).mono ?_
   rintro x iM H2 ⟨rfl,sM,wK,hw⟩;have Ri:H2.get H.nx=_:=(wK _ hJ.1).trans mF
   refine ⟨rfl,Ri,?_⟩
   have aj:=O5 (H:=H2) (i:=H.nx) (by rw [Ri];simp)
   refine (hw (H2.set H.nx (.loop { env,params,assign,body,state:=.busy,pending:=.normal })) rfl (fun j hj=>zh hj)).mono ?_
   rintro x Qo H3 ⟨rfl,g1,g3,g4⟩;have aK:H.nx < H3.nx:=by simp at g3;omega
   exact ⟨rfl,by rw [g1,zo aj],by simpa using aK,Kt _ _ _ _ g4 aK (by simp) fun j hj=>zh hj⟩)
 exact ⟨v,H2,h1,h2,Ah _ (Kt _ _ _ _ h3.2 h3.1 (by simp) fun j hj=>zh hj)⟩
def Zh (I:IJ) (p:Problem) (l:Sl Box) (part:List Nat) (kk:Nat) (A:Acc) (pts:List Pt) (here:List Box) (H H':Heap):Prop :=
 mV I H H'/\∃ lJ,FH I part (((tL (qD p.facts.xs part) l.xs (part.drop kk) kk here).map (pts.take kk ++ ·)).foldl yh A) lJ here H'/\lJ.take kk=pts.take kk
theorem zlR {I:IJ} {p:Problem} {l:Sl Box} {part:List Nat} {ml:List (List Int)} (hp:Zg p l part ml) :
  ∀ (d n kk:Nat) (H:Heap) (A:Acc) (pts:List Pt) (here:List Box),kk+d=part.length->uE I p l part ml H->FH I part A pts here H->aL here l.xs->Wf here ->
   (∀ j (h:j < part.length),kk<=j->here[part[j]]! = l.xs[part[j]]!)->A.n+(tL (qD p.facts.xs part) l.xs (part.drop kk) kk here).length<=4000000000000000000 ->
   ∃ H',Vm.call G (n+8+3*d) (.fn 114) ([.pure (.int .i64 kk)]++IK I p l part) H=some (.aM [],H')/\Zh I p l part kk A pts here H H':=by
 intro d
 induction d with
 | zero =>
  intro n kk H A pts here Bv fx st hs hw hl hn;have ek:kk=part.length:=by omega
  subst ek;rw [List.drop_length] at hn;simp only [tL,List.length_cons,List.length_nil] at hn;have o:=fx.ord;have key:=zlB (n:=n+6) (H:=H) (ji:=I.ji) (mG:=I.mG) (sb:=I.sb) (pid:=I.pid) (pb:=I.pb) (c1:=.pure (.ptr false [l.pv Box.cells 4] 0)) (c2:=.box I.hb 0) (c3:=.pure (.ptr false p.cells 0)) (c4:=.box I.mb 0) (c5:=.box I.cb 0) (part:=part) (A:=A) (c:=pts)
   (k:=fun v H'=>v=.aM []/\Zh I p l part part.length A pts here H H') ⟨by omega,by omega,by omega,by omega⟩ hp.pos hp.few st.pts st.best (by omega) fx.sb fx.pb st.s st.e st.p ?_
  .obtain ⟨v,H',h1,rfl,h2⟩:=key;exact ⟨H',h1,h2⟩
  .intro H' h1 h2 h3 h4;have aK:=fx.lt
   refine ⟨rfl,⟨h1,fun j a b c _ _=>h2 j a b c⟩,pts,?_,rfl⟩
   have e1:pts.take part.length=pts:=List.take_of_length_le (by rw [st.pts.1];exact Nat.le_refl _);rw [List.drop_length];simp only [tL,List.map_cons,List.map_nil,List.append_nil,e1,List.foldl_cons,List.foldl_nil];have hpx:I.pid < H.nx:=by omega
   have hhx:I.aj < H.nx:=by omega
   refine ⟨h3,h4,?_,?_,?_,st.pts⟩
   .rw [h2 _ hpx (by omega) (by omega)];exact st.p
   .rw [h2 _ hhx (by omega) (by omega)];exact st.h
   .have:=zs7 st.best st.pts (A.best.length);rwa [zij _ _ _ (Nat.le_refl _)] at this
 | succ d ih =>
  intro n kk H A pts here Bv fx st hs hw hl hn;have hk:kk < part.length:=by omega
  have fu:n+8+3*(d+1)=n+8+3*d+2+1:=by omega
  rw [fu];obtain ⟨F,hF⟩:∃ F,F=n+8+3*d:=⟨_,rfl⟩
  have hF6:∃ F6,F=F6+6:=⟨n+2+3*d,by omega⟩
  have main:∃ v H',Vm.call G (F+2+1) (.fn 114) ([.pure (.int .i64 kk)]++IK I p l part) H=some (v,H')/\(v=.aM []/\Zh I p l part kk A pts here H H'):=by
   refine Gq rfl g114 rfl ?_
   have Lh:CQ 1 (.pure (lM part)) (.pure (.int .i64 kk))=some (.val (.pure (.ptr false [.int .i64 (part[kk]:Nat)] 0))):=zh8 (by simp [hk]);have Za:Gm (.pure (lM part))=some (.val (.pure (.int .i64 part.length))):=by simp [lM]
   have bL:¬ (kk:Int)=part.length:=by omega
   obtain ⟨q,hq⟩:∃ q,q=part[kk]:=⟨_,rfl⟩
   have Rj:q < l.xs.length:=by rw [hq];exact hp.lt _ (List.getElem_mem hk)
   rw [<- hq] at Lh;have hqI:(q:Int) < l.xs.length:=by omega
   have hpv:=zsS;have hB:=fun H=>zg (G:=G) (n:=F+2) (H:=H) (caps:=[]) (ps:=[.agg l.xs[q].cells]) zsS (e117 (F+1) l.xs[q]);simp only [Box.cells,Span.cells,List.map] at hB;have BZ:part.drop kk=q::part.drop (kk+1):=by rw [List.drop_eq_getElem_cons hk,hq]
   rw [BZ] at hn;have hhq:here[q]! = l.xs[q]:=by
    have:=hl kk hk (Nat.le_refl _);rw [<- hq] at this;rw [this,getElem!_pos l.xs q Rj]
   have hlen:here.length=l.xs.length:=hs.1;have Zi:q < here.length:=by omega
   have sS:here.set q l.xs[q]=here:=by
    rw [<- hhq,getElem!_pos here q Zi];exact List.set_getElem_self ..
   have aK:=fx.lt;have o:=fx.ord;obtain ⟨hN,OH⟩:∃ hN,hN=(l.xs[q].y.hi - l.xs[q].y.lo+1).toNat:=⟨_,rfl⟩
   obtain ⟨wN,Rk⟩:∃ wN,wN=(l.xs[q].x.hi - l.xs[q].x.lo+1).toNat:=⟨_,rfl⟩
   have sH:(rf l.xs[q]!).length=wN*hN:=by rw [getElem!_pos l.xs q Rj,zfm,<- OH,<- Rk]
   obtain ⟨E,hE⟩:∃ E:Nat->Acc,E=fun t=>((GD (qD p.facts.xs part) l.xs q (part.drop (kk+1)) kk here t).map (pts.take kk ++ ·)).foldl yh A:=⟨_,rfl⟩
   have hE0:E 0=A:=by rw [hE];simp [zk6]
   have hEw:Hide (E (wN*hN)=((tL (qD p.facts.xs part) l.xs (part.drop kk) kk here).map (pts.take kk ++ ·)).foldl yh A):=⟨by
    rw [hE,BZ];simp only;rw [zmL _ _ _ _ _ _ (by rw [sH];exact Nat.le_refl _)]⟩
   have hEn:Hide (∀ t X,(rf l.xs[q]!)[t]?=some X->E (t+1)=if qD p.facts.xs part kk (here.set q (fT X))=true then ((tL (qD p.facts.xs part) l.xs (part.drop (kk+1)) (kk+1) (here.set q (fT X))).map ((pts.take kk++[X]) ++ ·)).foldl yh (E t) else E t):=⟨fun t X hX=>by
    rw [hE];simp only;rw [zgZ _ _ _ _ _ _ hX]
    by_cases hc:qD p.facts.xs part kk (here.set q (fT X))=true
    .rw [if_pos hc,if_pos hc,List.map_append,List.foldl_append,List.map_map]
     congr 2
     funext c
     simp
    .rw [if_neg hc,if_neg hc];simp⟩
   have UZ:Hide (∀ t X,(rf l.xs[q]!)[t]?=some X->qD p.facts.xs part kk (here.set q (fT X))=true->(E t).n+(tL (qD p.facts.xs part) l.xs (part.drop (kk+1)) (kk+1) (here.set q (fT X))).length<=4000000000000000000):=⟨fun t X hX hc=>by
    have h1:=zgZ (qD p.facts.xs part) l.xs q (part.drop (kk+1)) kk here hX;have h2:=zoG (qD p.facts.xs part) l.xs q (part.drop (kk+1)) kk here (t+1);rw [h1,if_pos hc,List.length_append,List.length_map] at h2;rw [hE];simp only;rw [ztq,List.length_map];omega⟩
   have hEH:=Hide.mk hE;have hnH:=Hide.mk hn;have hlH:=Hide.mk hl;have hhNH:=Hide.mk OH;have hwNH:=Hide.mk Rk;have OA:=Hide.mk hq;have Zj:=Hide.mk BZ;have ihH:=Hide.mk ih;have hFH:=Hide.mk hF;clear hE hn hl hq BZ ih hF;(repeat' first|simp [*,za,c114,IK]|(apply zb<;>intro _ h<;>try simp [-Nat.le_zero_eq] at h))
   refine zpf (n:=F) (b:=l.xs[q]) (Iu hp.ok hp.sub hp.wf _ (List.getElem_mem Rj)) ?_ rfl
    (fun i k H1=>mV I H H1/\∃ y lJ,FH I part (E (i*hN+k)) lJ (here.set q y) H1/\lJ.take kk=pts.take kk) ?_ ?_ ?_ ?_ ?_
   .simp
   .rintro i k H1 H2 ⟨a1,y,lJ,a2,a3⟩ hx fD hg
    refine ⟨⟨by rw [fD];exact a1.nx,fun j h1 h2 h3 h4 h5=>by rw [hg j (by omega)];exact a1.get j h1 h2 h3 h4 h5⟩,y,lJ,⟨?_,?_,?_,?_,a2.best,a2.pts⟩,a3⟩
    .rw [hg _ (by omega)];exact a2.s
    .rw [hg _ (by omega)];exact a2.e
    .rw [hg _ (by omega)];exact a2.p
    .rw [hg _ (by omega)];exact a2.h
   .intro H1 fD hg
    refine ⟨⟨by omega,fun j h1 _ _ _ _=>hg j h1⟩,l.xs[q],pts,?_,rfl⟩
    rw [sS,Nat.zero_mul,Nat.zero_add,hE0]
    refine ⟨?_,?_,?_,?_,st.best,st.pts⟩
    .rw [hg _ (by omega)];exact st.s
    .rw [hg _ (by omega)];exact st.e
    .rw [hg _ (by omega)];exact st.p
    .rw [hg _ (by omega)];exact st.h
   .intro i H1 h;rw [<- OH] at h;rwa [show (i+1)*hN+0=i*hN+hN by rw [Nat.add_mul];omega]
   .rw [<- OH,<- Rk];rintro i k H1 hi Zk ⟨kp,y,lJ,st1,U0⟩ hx;obtain ⟨hT,Zl⟩:=zmQ (b:=l.xs[q]) (i:=i) (k:=k) (by rw [<- Rk];exact hi) (by rw [<- OH];exact Zk);have Ig:(rf l.xs[q]!)[i*hN+k]?=some ⟨l.xs[q].x.lo+i,l.xs[q].y.lo+k⟩:=by
     rw [getElem!_pos l.xs q Rj,OH,List.getElem?_eq_getElem hT,Zl]
    have Ku:fA ⟨l.xs[q].x.lo+i,l.xs[q].y.lo+k⟩ l.xs[q]:=mem_places.1 (by rw [<- Zl];exact List.getElem_mem _);have hXo:sO ⟨l.xs[q].x.lo+i,l.xs[q].y.lo+k⟩:=zs9 hp Rj (mem_places.2 Ku);obtain ⟨u,hu⟩:∃ u,u=l.xs[q].x.lo+(i:Int):=⟨_,rfl⟩
    obtain ⟨v,hv⟩:∃ v,v=l.xs[q].y.lo+(k:Int):=⟨_,rfl⟩
    rw [<- hu,<- hv] at Ig Ku hXo ⊢;obtain ⟨t,ht⟩:∃ t,t=i*hN+k:=⟨_,rfl⟩
    have Zm:i*hN+(k+1)=t+1:=by omega
    rw [Zm];rw [<- ht] at st1 Ig;have hEt:=Hide.mk (hEn.h t _ Ig);have UZ:=Hide.mk (UZ.h t _ Ig);clear hT Zl Ig hu hv ht Zm hEn;have Zn:=st1.p;have Zo:=st1.h;have Dc:=Hide.mk st1;have OB:=Hide.mk kp;have Zp:=Hide.mk U0;clear st1 U0 sH hE0;(repeat' first|simp [*,za]|(apply zb<;>intro _ h<;>try simp [-Nat.le_zero_eq] at h))
    refine ⟨fun j hj=>(zh (show j≠H1.nx by omega)).trans (ze hj),?_⟩
    intro Hb hbn U1;have qX:∀ j,j < H.nx->Hb.get j=H1.get j:=fun j hj=>by rw [U1 j (by omega),zh (by omega),ze (by omega)]
    have aW:Hb.get H1.nx=.cells true [.pure (.int .i64 u),.pure (.int .i64 v)]:=by rw [U1 _ (by omega),zo (by simp)]
    have hbn':Hb.nx=H1.nx+1:=by simpa using hbn
    have hkx:H.nx<=H1.nx:=OB.h.nx;have Zq:mV I H Hb:=⟨by omega,fun j a b c e f=>by rw [qX j a];exact OB.h.get j a b c e f⟩
    have OI:=fx.keep Zq;have wD:=OI.hb;have pb1:=OI.pb;have mb1:=OI.mb;have cb1:=OI.cb;obtain ⟨xs,EG,Rl,U2⟩:=OI.mid;have MJ:kk < xs.length:=by omega
    have Rn:=U2 kk MJ;have hh1:Hb.get I.aj=.cells true (zm Box.cells (here.set q y)):=by rw [qX _ (by omega)];exact Zo
    have Zr:Hb.get I.pid=.cells true (zm Pt.cells lJ):=by rw [qX _ (by omega)];exact Zn
    have IL:q < (here.set q y).length:=by simpa using Zi
    have qd:(here.set q y).set q (fT ⟨u,v⟩)=here.set q (fT ⟨u,v⟩):=by rw [List.set_set]
    have lq:=Ia (f:=Box.cells) (sz:=4) (a:=fT ⟨u,v⟩) (fun _=>rfl) (fun _=>rfl) (by decide) IL;rw [qd] at lq;have Ro:kk < lJ.length:=by rw [Dc.h.pts.1];exact hk
    have uD:=Ia (f:=Pt.cells) (sz:=2) (a:=(⟨u,v⟩:Pt)) (fun _=>rfl) (fun _=>rfl) (by decide) Ro;simp only [Box.cells,Span.cells,Pt.cells,fT,List.map] at lq uD;have wu:=fun H=>zg (G:=G) (n:=F) (H:=H) (caps:=[]) (ps:=[.agg (Pt.mk u v).cells]) zu9 (by
     obtain ⟨F6,rfl⟩:=hF6;exact e103 (F6+5) ⟨u,v⟩)
    simp only [Box.cells,Span.cells,Pt.cells,fT,List.map] at wu;have xV:DW (.cells true xs) 1 kk=some [xs[kk]]:=by
     simp only [DW];rw [if_pos (by omega),List.drop_eq_getElem_cons MJ];rfl
    have q1:I.pb≠I.aj:=by omega
    have q2:H1.nx≠I.aj:=by omega
    have q3:I.hb≠I.aj:=by omega
    have q4:I.hb≠I.pid:=by omega
    have q5:I.mb≠I.aj:=by omega
    have q6:I.mb≠I.pid:=by omega
    have q7:I.mid≠I.aj:=by omega
    have q8:I.mid≠I.pid:=by omega
    have q9:I.pid≠I.aj:=by omega
    have q10:I.cb≠I.aj:=by omega
    have q11:I.cb≠I.pid:=by omega
    have q12:I.aj≠I.pid:=by omega
    have r1:I.aj < Hb.nx:=by omega
    have r2:I.pid < Hb.nx:=by omega
    have Q0:(kk:Int) < part.length:=by omega
    have hxoH:=Hide.mk Rn;have hbgH:=Hide.mk U1;have Df:=Hide.mk qX;clear U2 Rn U1 qX IL qd;(repeat' first|simp [*,za,beside]|(apply zb<;>intro _ h<;>try simp [-Nat.le_zero_eq] at h));obtain ⟨ja,Dh⟩:∃ h1,h1=here.set q (fT ⟨u,v⟩):=⟨_,rfl⟩
    obtain ⟨wT,FI⟩:∃ p1,p1=lJ.set kk ⟨u,v⟩:=⟨_,rfl⟩
    have Rq:here.set q ⟨⟨u,u⟩,⟨v,v⟩⟩=ja:=Dh.symm;rw [Rq,<- FI];obtain ⟨Hc,OJ⟩:∃ Hc,Hc=(Hb.set I.aj (.cells true (zm Box.cells ja))).set I.pid (.cells true (zm Pt.cells wT)):=⟨_,rfl⟩
    rw [<- OJ];have Wn:Hc.nx=Hb.nx:=by rw [OJ];simp
    have OL:∀ j,j≠I.aj->j≠I.pid->Hc.get j=Hb.get j:=fun j h1 h2=>by rw [OJ,zh h2,zh h1]
    have nK:Hc.get I.aj=.cells true (zm Box.cells ja):=by rw [OJ,zh (by omega),zo (by omega)]
    have Jw:Hc.get I.pid=.cells true (zm Pt.cells wT):=by rw [OJ,zo (by simpa using r2)]
    have Zt:mV I H Hc:=⟨by omega,fun j a b c e f=>by rw [OL j f e];exact Zq.get j a b c e f⟩
    have U3:=fx.keep Zt;obtain ⟨xs',MK,ML,Rt⟩:=U3.mid;have exs:xs'=xs:=by
     rw [OL _ (by omega) (by omega),EG] at MK
     simpa using MK.symm
    subst exs;have hox:=(Rt kk MJ).1;have IE:aL ja l.xs:=by
     have:=hs.set (i:=q) (a:=fT ⟨u,v⟩) (b:=l.xs[q]) (by
      unfold fA at Ku;simp only at Ku;exact ⟨⟨Ku.1,Ku.2.1⟩,⟨Ku.2.2.1,Ku.2.2.2⟩⟩)
     rw [List.set_getElem_self] at this;rw [Dh];exact this
    have UO:Wf ja:=by
     rw [Dh];exact hw.set ⟨Int.le_refl _,Int.le_refl _⟩
    have Ru:aL ja p.boxes.xs:=IE.trans hp.sub;obtain ⟨is,oh,F7⟩:=Q3 (n:=10) (f:=aD) (sz:=1) (fun _=>rfl) hox;have Xy:ja.length=l.xs.length:=IE.1;obtain ⟨s1,Rw,MC⟩:=Gs (n:=10) (f:=Box.cells) (sz:=4) (fun _=>rfl) nK Xy;obtain ⟨m1,m2,m3⟩:=hp.ml kk hk;have vk:zF G F 74 [p.facts.pv Fact.cells 9,is.pv aD 1,s1.pv Box.cells 4]=some (.int .i64 (bR p.facts.xs ja ml[kk]!)):=by
     obtain ⟨F6,rfl⟩:=hF6;have:=e74 F6 p.facts is s1 (by rw [oh];exact m1) (by rw [oh];omega) (fun f hf=>by rw [Rw];exact OE hp.ok Ru UO hf);rw [oh,Rw] at this;exact this
    refine LM (caps:=[]) (ps:=[_,_,_]) sh74 (.cons (.pure _) (.cons F7 (.cons MC .nil))) vk rfl ?_
    have ru:=m3 ja;have Kv:Q8 part.length wT:=by
     rw [FI]
     refine ⟨by rw [List.length_set];exact Dc.h.pts.1,fun x hx=>?_⟩
     rcases List.mem_or_eq_of_mem_set hx with h|rfl
     .exact Dc.h.pts.2 x h
     .exact hXo
    have Zu:wT.take kk=pts.take kk:=by
     rw [FI,List.take_set_of_le (Nat.le_refl _)];exact Zp.h
    have Rx:wT.take (kk+1)=pts.take kk++[⟨u,v⟩]:=by
     rw [<- Zu,List.take_add_one,FI];simp [Ro]
    have stc:FH I part (E t) wT ja Hc:=⟨by
      rw [OL _ (by omega) (by omega),Df.h _ (by omega)];exact Dc.h.s,by
      rw [OL _ (by omega) (by omega),Df.h _ (by omega)];exact Dc.h.e,Jw,nK,Dc.h.best,Kv⟩
    have MM:=hEt.h;have MN:=UZ.h;rw [<- Dh] at MM MN;have hcbc:=U3.cb;have Kw:=Hide.mk stc;have Zw:=Hide.mk U3;have Ry:=Hide.mk Zt;have Rz:=Hide.mk MM;have Zx:=Hide.mk MN;have RA:Hc.get H.nx=Hb.get H.nx:=OL _ (by omega) (by omega);have L9:=Hide.mk RA;have MO:=Hide.mk Wn;have FJ:=Hide.mk Dh;have Zy:=Hide.mk Zu;have Ky:=Hide.mk Rx;have Zz:=Hide.mk IE;have ZA:=Hide.mk UO;clear stc U3 Zt MM MN hEt UZ RA Wn OL nK Jw MK Rt hox Ru IE UO F7 MC vk m1 m2 m3 OJ hh1 Zr lq uD xV EG Zu Rx Kv Dh FI wu aW wD pb1 mb1 cb1 OI Zq
    by_cases bG:qD p.facts.xs part kk ja=true
    ·have He:=ru.2 bG;have ZB:=Hide.mk (Zx.h bG);have MP:Hide (E (t+1)=((tL (qD p.facts.xs part) l.xs (part.drop (kk+1)) (kk+1) ja).map ((pts.take kk++[⟨u,v⟩]) ++ ·)).foldl yh (E t)):=⟨by rw [Rz.h,if_pos bG]⟩
     clear ru;generalize bR p.facts.xs ja ml[kk]! = B at *;have w1:IntKind.i64.wrap ((kk:Int)+1)=(kk+1:Nat):=by rw [wrap64 (by have:=hp.few;omega) (by have:=hp.few;omega)];omega
     have ZC:=hFH.h;have tq:∀ j (h:j < part.length),kk+1<=j->ja[part[j]]! = l.xs[part[j]]! := fun j h hj=>by
      have h1:=hlH.h j h (by omega);have IM:=OA.h;have hnq:q≠part[j]:=by
       rw [IM];intro e;have:=(List.getElem_inj hp.nodup).1 e;omega
      rw [<- h1,FJ.h];simp [List.getElem?_set,hnq]
     obtain ⟨H',r1,r2,MQ,r3,r4⟩:=ihH.h n (kk+1) Hc (E t) wT ja (by omega) Zw.h Kw.h Zz.h ZA.h tq ZB.h;rw [<- ZC] at r1;have hl2H:=Hide.mk tq;have ZE:=Hide.mk ZC;clear tq ZC;(repeat' first|simp [*,za,IK]|(apply zb<;>intro _ h<;>try simp [-Nat.le_zero_eq] at h));obtain ⟨F1,rfl⟩:∃ F1,F=F1+1:=⟨n+7+3*d,by have:=ZE.h;omega⟩
     refine yf (n:=F1) zjM ⟨.aM [],H',by simpa [IK] using r1,?_⟩
     have aT:=r2.nx;have jJ:H'.get H.nx=Hb.get H.nx:=(r2.get _ (by have:=MO.h;omega) (by omega) (by omega) (by omega) (by omega)).trans L9.h;have kpf:=Hide.mk (Ry.h.trans r2);rw [Ky.h] at r4;have htf:MQ.take kk=pts.take kk:=by
      have h2:=congrArg (List.take kk) r4;rw [List.take_take,Nat.min_eq_left (by omega)] at h2;rw [h2,List.take_append_of_le_length (by rw [List.length_take];have:=st.pts.1;omega),List.take_take,Nat.min_self]
     have RB:FH I part (E (t+1)) MQ (here.set q (fT ⟨u,v⟩)) H':=by
      rw [MP.h,<- FJ.h];rw [Ky.h] at r3;exact r3
     have RF:=Hide.mk RB;have ZF:=Hide.mk htf;have Pz:=MO.h;clear r1 r2 r3 r4 RB htf;(repeat' first|simp [*,za]|(apply zb<;>intro _ h<;>try simp [-Nat.le_zero_eq] at h));exact ⟨by omega,kpf.h,_,MQ,RF.h,ZF.h⟩
    .have He:¬ bR p.facts.xs ja ml[kk]! < 0:=fun h=>bG (ru.1 h);have MP:Hide (E (t+1)=E t):=⟨by rw [Rz.h,if_neg bG]⟩
     clear ru;generalize bR p.facts.xs ja ml[kk]! = B at *;(repeat' first|simp [*,za]|(apply zb<;>intro _ h<;>try simp [-Nat.le_zero_eq] at h))
     refine ⟨L9.h,by have:=MO.h;omega,Ry.h,fT ⟨u,v⟩,wT,?_,Zy.h⟩
     rw [MP.h,<- FJ.h];exact Kw.h
   .rw [<- Rk];rintro H1 ⟨kp,y,lJ,st1,U0⟩;rw [Nat.add_zero,hEw.h] at st1;have fx1:=fx.keep kp;have wD:=fx1.hb;have h1h:=st1.h;have IL:q < (here.set q y).length:=by simpa using Zi
    have qd:(here.set q y).set q l.xs[q]=here:=by rw [List.set_set,sS]
    have lq:=Ia (f:=Box.cells) (sz:=4) (a:=l.xs[q]) (fun _=>rfl) (fun _=>rfl) (by decide) IL;rw [qd] at lq;simp only [Box.cells,Span.cells,List.map] at lq;have wU:=Hide.mk st1;have Lx:=zu h1h;clear fx1;(repeat' first|simp [*,za]|(apply zb<;>intro _ h<;>try simp [-Nat.le_zero_eq] at h))
    refine ⟨⟨by simpa using kp.nx,fun j a b c e f=>by rw [zh f];exact kp.get j a b c e f⟩,lJ,⟨?_,?_,?_,?_,wU.h.best,wU.h.pts⟩,U0⟩
    .rw [zh (by omega)];exact wU.h.s
    .rw [zh (by omega)];exact wU.h.e
    .rw [zh (by omega)];exact wU.h.p
    .rw [zo Lx]
  obtain ⟨v,H',h1,rfl,h2⟩:=main;rw [<- hF];exact ⟨H',h1,h2⟩
theorem ZG {α:Type} [BEq α] [LawfulBEq α] {x:α}:∀ {l:List α} {j:Nat} (h:j < l.length),j < l.idxOf x->l[j]≠x
 | a::l,j,h,hj=>by
  rw [List.idxOf_cons] at hj
  by_cases e:a=x
  .subst e;simp at hj
  .have e':(a == x)=false:=by simpa using e
   rw [e'] at hj;simp only [cond_false] at hj
   cases j with
   | zero=>simpa using e
   | succ j=>simpa using ZG (l:=l) (by simpa using h) (by omega)
open Classical in
noncomputable def mW (part:List Nat) (x:Int):Int:=if x∈zZ part then ((zZ part).idxOf x:Nat) else -1
theorem zn9 (part:List Nat) (x:Int):qj (zZ part) x (mW part x):=by
 unfold mW
 split
 .rename_i h;have hl:=List.idxOf_lt_length_of_mem h
  refine .inl ⟨(zZ part).idxOf x,hl,rfl,List.getElem_idxOf hl,fun j hj aK e=>?_⟩
  exact ZG hj aK e
 .rename_i h;exact .inr ⟨rfl,h⟩
theorem zpQ {part:List Nat} {x:Int} (h0:0<=x):x∈zZ part↔x.toNat∈part:=by
 unfold zZ;rw [List.mem_map]
 constructor
 .rintro ⟨k,hk,rfl⟩;simpa using hk
 .intro h;exact ⟨x.toNat,h,by omega⟩
theorem ZH {part:List Nat} {x:Int} (h0:0<=x) (h:x.toNat∈part):mW part x=(part.idxOf x.toNat:Nat):=by
 have hl:=List.idxOf_lt_length_of_mem h
 refine (zn9 part x).unique (.inl ⟨part.idxOf x.toNat,by rw [D8];exact hl,rfl,?_,fun j hj aK e=>?_⟩)
 .simp only [zZ,List.getElem_map];rw [List.getElem_idxOf hl];omega
 .simp only [zZ,List.getElem_map] at e;have ng:j < part.length:=by rw [D8] at hj;exact hj
  exact ZG ng aK (by omega)
noncomputable def ql (part:List Nat) (f:Fact):Int:=if f.kind=2 then max (max (mW part f.a) (mW part f.b)) (mW part f.c) else max (mW part f.a) (mW part f.b)
theorem zlK {part:List Nat} {f:Fact} (ha:0<=f.a) (hb:0<=f.b) (hc:f.kind=2->0<=f.c) (hw:Within part f):ql part f=(DZ part f:Nat):=by
 unfold ql DZ;rw [ZH ha hw.a,ZH hb hw.b]
 split
 .rename_i h;rw [ZH (hc h) (hw.c h)];omega
 .omega
open Classical in
noncomputable def l8 (part:List Nat) (k:Nat) (f:Fact):Bool:=decide (ql part f=k)&&decide (f.a∈zZ part)
noncomputable def lK (fs:List Fact) (part:List Nat) (k:Nat):List Int:=(jb fs.length).filter fun i=>l8 part k fs[i.toNat]!
theorem zol (fs:List Fact) (part:List Nat) (k:Nat):rY fs (lK fs part k):=fun i hi=>J9 fs i (List.mem_filter.1 hi).1
theorem zq3 (fs:List Fact) (part:List Nat) (k:Nat):(lK fs part k).length<=fs.length:=by
 have:=List.length_filter_le (fun i:Int=>l8 part k fs[i.toNat]!) (jb fs.length);rwa [Gx] at this
theorem zqa {fs:List Fact} {part:List Nat} {k:Nat} (hn:∀ f∈fs,0<=f.a/\0<=f.b/\(f.kind=2->0<=f.c)) (hw:∀ f∈fs,f.a.toNat∈part->Within part f) (here:List Box):bR fs here (lK fs part k) < 0↔qD fs part k here=true:=by
 have h1:=QR (fs:=fs) (l:=here) (is:=lK fs part k) fun i hi=>(zol fs part k i hi).1;have h2:(bR fs here (lK fs part k) < 0)↔¬ ∃ i∈lK fs part k,zJ fs[i.toNat]! here=true:=by rw [<- h1];omega
 rw [h2];have aB:∀ f∈fs,(l8 part k f=true↔(part.contains f.a.toNat&&decide (DZ part f=k))=true):=fun f hf=>by
  obtain ⟨a1,a2,a3⟩:=hn f hf;unfold l8;simp only [Bool.and_eq_true,decide_eq_true_eq,List.contains_iff_mem,List.elem_eq_mem,zpQ a1]
  constructor
  .rintro ⟨b1,b2⟩;rw [zlK a1 a2 a3 (hw f hf b2)] at b1;exact ⟨b2,by omega⟩
  .rintro ⟨b1,b2⟩;rw [zlK a1 a2 a3 (hw f hf b1)];exact ⟨by omega,b1⟩
 unfold qD;rw [List.all_eq_true]
 constructor
 .intro h f hf
  by_cases hc:(part.contains f.a.toNat&&decide (DZ part f=k))=true
  .rw [hc];simp only [Bool.not_true,Bool.false_or]
   cases hs:zJ f here with
   | false=>rfl
   | true =>
    exfalso;obtain ⟨j,hj,rfl⟩:=List.mem_iff_getElem.1 hf
    refine h ⟨(j:Nat),List.mem_filter.2 ⟨iI.2 ⟨j,hj,rfl⟩,?_⟩,?_⟩
    .rw [show ((j:Int)).toNat=j by simp,getElem!_pos fs j hj];exact (aB _ hf).2 hc
    .rw [show ((j:Int)).toNat=j by simp,getElem!_pos fs j hj];exact hs
  .simp only [Bool.not_eq_true] at hc;rw [hc];rfl
 .rintro h ⟨i,hi,hs⟩;obtain ⟨IP,DD⟩:=List.mem_filter.1 hi;obtain ⟨j,hj,rfl⟩:=iI.1 IP;rw [show ((j:Int)).toNat=j by simp,getElem!_pos fs j hj] at DD hs;have:=h _ (List.getElem_mem hj);rw [(aB _ (List.getElem_mem hj)).1 DD,hs] at this;simp at this
structure bX where
 part:List Nat
 n:Nat
 ends:List (Option (List Pt))
 first:Option (List Pt)
def bX.cells (s:bX):List PV:=[lM s.part,.int .i64 s.n,.slice false 4 (chunks 4 s.part.length (s.ends.map l7)),l7 s.first]
def bX.pv (s:bX):PV:=.ptr false s.cells 0
def FK (b:Box) (part:List Nat):bX:=⟨part,(o9 b).toNat,[some [⟨b.x.lo,b.y.lo⟩],some [⟨b.x.hi,b.y.lo⟩],some [⟨b.x.lo,b.y.lo⟩],some [⟨b.x.lo,b.y.hi⟩]],some [⟨b.x.lo,b.y.lo⟩]⟩
def IQ (facts:List Fact) (l:List Box) (part:List Nat):bX:=⟨part,(jk facts l part).length,(List.range (4*part.length)).map fun j=>QN (jE j) (jk facts l part),(jk facts l part).head?⟩
def jS (facts:List Fact) (l:List Box) (part:List Nat):bX:=if part.length=1 then FK l[part[0]!]! part else IQ facts l part
structure rZ (facts:List Fact) (l:List Box) (part:List Nat) (s:bX):Prop where
 same:s.part=part
 n:s.n=(jk facts l part).length
 len:s.ends.length=4*part.length
 none:s.n=0->s.first=Option.none
 first:s.n≠0->∃ c∈jk facts l part,s.first=some c
 ends:s.n≠0->∀ j (h:j < s.ends.length),∃ c∈jk facts l part,s.ends[j]=some c/\∀ c'∈jk facts l part,jE j c<=jE j c'
theorem zr0 (facts:List Fact) (l:List Box) (part:List Nat):rZ facts l part (IQ facts l part):=by
 refine ⟨rfl,rfl,by simp [IQ],fun h=>?_,fun h=>?_,fun h j hj=>?_⟩
 .have:jk facts l part=[]:=List.eq_nil_of_length_eq_zero h;simp [IQ,this]
 .show ∃ c∈jk facts l part,(jk facts l part).head?=some c;have h':(jk facts l part).length≠0:=h
  cases hs:jk facts l part with
  | nil=>rw [hs] at h';simp at h'
  | cons c cs=>exact ⟨c,by simp,rfl⟩
 .have h':jk facts l part≠[]:=fun e=>h (by simp [IQ,e]);obtain ⟨e,h1,h2,h3⟩:=zsb (jE j) h';exact ⟨e,h2,by simp [IQ,h1],h3⟩
theorem MR {facts:List Fact} {l:List Box} {i:Nat} (hn:∀ f∈facts,f.a.toNat≠i):∀ c,c∈jk facts l [i]↔∃ x,c=[x]/\fA x l[i]! := by
 intro c;rw [UB (by simp) (fun f hf h=>absurd (by simpa using h) (hn f hf))]
 constructor
 .rintro ⟨⟨h1,h2⟩,_⟩
  match c,h1 with
  | [x],_=>exact ⟨x,rfl,by simpa using h2 0 (by simp) (by simp)⟩
 .rintro ⟨x,rfl,h⟩
  refine ⟨⟨rfl,fun k h1 h2=>?_⟩,fun f hf ha=>absurd (by simpa using ha) (hn f hf)⟩
  have:k=0:=by simpa using h1
  subst this
  simpa using h
theorem zoI {facts:List Fact} {l:List Box} {i:Nat} (hn:∀ f∈facts,f.a.toNat≠i):(jk facts l [i]).length=(rf l[i]!).length:=by
 have h1:(jk facts l [i]).Nodup:=zm2 ..;have h2:((rf l[i]!).map fun x=>[x]).Nodup:=UL (fun a b h=>by simpa using h) (zf2 _);have:=zqI h1 h2 fun c=>by
  rw [MR hn,List.mem_map]
  constructor
  .rintro ⟨x,rfl,h⟩;exact ⟨x,mem_places.2 h,rfl⟩
  .rintro ⟨x,h,rfl⟩;exact ⟨x,rfl,mem_places.1 h⟩
 simpa using this
theorem zs8 {facts:List Fact} {l:List Box} {i:Nat} (hi:i < l.length) (hw:Wf l) (hn:∀ f∈facts,f.a.toNat≠i):rZ facts l [i] (FK l[i]! [i]):=by
 have hb:jq l[i]! := by rw [getElem!_pos l i hi];exact hw _ (List.getElem_mem hi)
 have ha:=QS hb;have hpa:=YU hb;generalize hB:l[i]! = b at *
 refine ⟨rfl,?_,rfl,fun h=>?_,fun h=>?_,fun h j hj=>?_⟩
 .rw [zoI hn,hB];show (o9 b).toNat=_;omega
 .exfalso;have:(o9 b).toNat=0:=h;omega
 .refine ⟨_,(MR hn _).2 ⟨⟨b.x.lo,b.y.lo⟩,rfl,?_⟩,rfl⟩
  rw [hB];exact ⟨Int.le_refl _,hb.1,Int.le_refl _,hb.2⟩
 .have hj4:j < 4:=hj;have h5:j=0\/j=1\/j=2\/j=3:=by omega
  have key:∀ c'∈jk facts l [i],∃ x,c'=[x]/\fA x b:=fun c' h=>by rw [<- hB];exact (MR hn c').1 h
  rcases h5 with rfl|rfl|rfl|rfl
  .refine ⟨[⟨b.x.lo,b.y.lo⟩],(MR hn _).2 ⟨_,rfl,by rw [hB];exact ⟨Int.le_refl _,hb.1,Int.le_refl _,hb.2⟩⟩,rfl,fun c' hc=>?_⟩
   obtain ⟨x,rfl,hx⟩:=key c' hc;unfold fA at hx;simp [jE,jL];omega
  .refine ⟨[⟨b.x.hi,b.y.lo⟩],(MR hn _).2 ⟨_,rfl,by rw [hB];exact ⟨hb.1,Int.le_refl _,Int.le_refl _,hb.2⟩⟩,rfl,fun c' hc=>?_⟩
   obtain ⟨x,rfl,hx⟩:=key c' hc;unfold fA at hx;simp [jE,jL];omega
  .refine ⟨[⟨b.x.lo,b.y.lo⟩],(MR hn _).2 ⟨_,rfl,by rw [hB];exact ⟨Int.le_refl _,hb.1,Int.le_refl _,hb.2⟩⟩,rfl,fun c' hc=>?_⟩
   obtain ⟨x,rfl,hx⟩:=key c' hc;unfold fA at hx;simp [jE,jL];omega
  .refine ⟨[⟨b.x.lo,b.y.hi⟩],(MR hn _).2 ⟨_,rfl,by rw [hB];exact ⟨Int.le_refl _,hb.1,hb.2,Int.le_refl _⟩⟩,rfl,fun c' hc=>?_⟩
   obtain ⟨x,rfl,hx⟩:=key c' hc;unfold fA at hx;simp [jE,jL];omega
theorem znW {facts:List Fact} {l:List Box} {part:List Nat} (hp:∀ k∈part,k < l.length) (hw:Wf l) (hn:∀ f∈facts,f.a.toNat∈part->Within part f) (hd:∀ f∈facts,0<=f.a/\0<=f.b/\f.a≠f.b):rZ facts l part (jS facts l part):=by
 unfold jS
 split
 .rename_i h
  match part,h with
  | [i],_ =>
   refine zs8 (hp i (by simp)) hw fun f hf e=>?_
   have w:=hn f hf (by simp [e]);have h1:=w.b;simp only [List.mem_singleton] at h1;have:=hd f hf;omega
 .exact zr0 ..
noncomputable def fH (fs:List Fact) (part:List Nat) (k i:Nat):List Int:=(jb i).filter fun j:Int=>l8 part k fs[j.toNat]!
theorem zlj (fs:List Fact) (part:List Nat) (k:Nat):fH fs part k 0=[]:=by simp [fH,jb]
theorem znj (fs:List Fact) (part:List Nat) (k:Nat):fH fs part k fs.length=lK fs part k:=rfl
theorem znt (fs:List Fact) (part:List Nat) (k i:Nat):(fH fs part k i).length<=i:=by
 have:=List.length_filter_le (fun j:Int=>l8 part k fs[j.toNat]!) (jb i);rwa [Gx] at this
theorem zo8 {fs:List Fact} {part:List Nat} {k i:Nat} (h:i < fs.length):fH fs part k i++(if l8 part k fs[i]=true then [(i:Int)] else [])=fH fs part k (i+1):=by
 unfold fH jb;rw [List.range_succ,List.map_append,List.filter_append]
 congr 1
 simp [h,List.filter_cons]
theorem zlL {H:Heap} {ji m n:Nat} {cs:List AV} {ps:List PV} (h:H.get ji=.cells true cs) (hl:cs.length=4*m) (hf:FrzL H false n cs ps):FrzK H false (n+1) (.row ji 4 0 m) (.slice false 4 (chunks 4 m ps)):=by
 obtain ⟨ids,h1⟩:=hf;have hp:=YI h1;have h2:(cs.drop (0*4)).take (m*4)=cs:=by
  rw [Nat.zero_mul,List.drop_zero];exact List.take_of_length_le (by omega)
 refine ⟨ji::ids,?_⟩
 unfold freeze;simp only [h,h2,h1];rw [if_pos (by omega)]
theorem zju (B:List (Option (List Pt))):zm lI B=(B.map l7).map .pure:=by
 induction B with
 | nil=>rfl
 | cons b B ih=>rw [LP,ih];rfl
theorem zqf {H:Heap} {ji m n:Nat} {B:List (Option (List Pt))} (h:H.get ji=.cells true (zm lI B)) (hl:B.length=4*m):FrzK H false (n+2) (.row ji 4 0 m) (.slice false 4 (chunks 4 m (B.map l7))) :=
 zlL h (by rw [zju];simpa using hl) (by rw [zju];exact FrzL.nD _)
theorem zkJ {H:Heap} {ji mG:Nat} {D:bX} (hs:H.get mG=.cells true [.pure (lM D.part),.pure (.int .i64 D.n),.row ji 4 0 D.part.length,.pure (l7 D.first)]) (he:FrzK H false 11 (.row ji 4 0 D.part.length) (.slice false 4 (chunks 4 D.part.length (D.ends.map l7)))):∃ ids,freeze H false nZ (.box mG 0)=some (D.pv,ids):=by
 obtain ⟨ids,h1⟩:=FrzL.cons (FrzK.pure (H:=H) (k:=false) (n:=10) (lM D.part)) (.cons (FrzK.pure (.int .i64 D.n)) (.cons he (.cons (FrzK.pure (l7 D.first)) .nil)))
 refine ⟨mG::ids,?_⟩
 show freeze H false 12 (.box mG 0)=_;unfold freeze;simp only [hs,h1];rfl
theorem zrd {H:Heap} {ji mG:Nat} {D:bX} (hs:H.get mG=.cells true [.pure (lM D.part),.pure (.int .i64 D.n),.row ji 4 0 D.part.length,.pure (l7 D.first)]) (he:H.get ji=.cells true (zm lI D.ends)) (hl:D.ends.length=4*D.part.length):∃ ids,freeze H false nZ (.box mG 0)=some (D.pv,ids):=zkJ hs (zqf (n:=9) he hl)
structure l9 (fs:List Fact) (part:List Nat) (mb:Nat) (H:Heap) (V:AV) (k:Nat):Prop where
 low:∀ id,Names V id->mb < id
 ex:∃ xs:List AV,RowA H V xs/\xs.length=k/\xs.all AV.one=true/\∀ j (h:j < xs.length),aZ aD 1 H xs[j] (lK fs part j)/\∀ id,Names xs[j] id->mb < id/\¬ Names V id
theorem l9.nil (fs:List Fact) (part:List Nat) (mb:Nat) (H:Heap):l9 fs part mb H (.pure .nils) 0 :=
 ⟨fun id ⟨_,_,_,h⟩=>by simp at h,[],RowA.nil,rfl,rfl,fun j h=>by simp at h⟩
theorem l9.keep {fs:List Fact} {part:List Nat} {mb:Nat} {H H':Heap} {V:AV} {k:Nat} (h:l9 fs part mb H V k) (hg:∀ id,mb < id->id < H.nx->H'.get id=H.get id):l9 fs part mb H' V k:=by
 obtain ⟨xs,h1,h2,h3,h4⟩:=h.ex
 refine ⟨h.low,xs,h1.keep fun id hn=>hg id (h.low id hn) (h1.names_lt hn),h2,h3,fun j hj=>?_⟩
 obtain ⟨a,b⟩:=h4 j hj;exact ⟨a.keep fun id ⟨n,hn⟩=>hg id (b id ⟨_,_,_,hn⟩).1 (a.names_lt ⟨_,_,_,hn⟩),b⟩
theorem l9.lt {fs:List Fact} {part:List Nat} {mb:Nat} {H:Heap} {V:AV} {k:Nat} (h:l9 fs part mb H V k) {id:Nat} (hn:Names V id):id < H.nx:=by
 obtain ⟨xs,h1,_⟩:=h.ex;exact h1.names_lt hn
theorem zkF {fs:List Fact} {part:List Nat} {mb:Nat} {H:Heap} {V u:AV} {k bytes:Nat} {b:AV} {K:AV->Heap->Prop} {u'} (hJ:l9 fs part mb H V k) (hb:zH H 1 b=some ([u],1)) (hu:aZ aD 1 H u (lK fs part k))
  (hn:∀ id,Names u id->mb < id/\¬ Names V id) (U4:mb < H.nx) (hm:k+1<=zl/\(k+1)*bytes<=zl)
  (hk:∀ v' H',l9 fs part mb H' v' (k+1)->H.nx<=H'.nx->(∀ c,c<=mb->H'.get c=H.get c)->AV.one v'=true->AV.cells v'=[v']->K v' H'):wpE 0 (zk H 1 bytes V b) H K u':=by
 obtain ⟨xs,h1,h2,h3,h4⟩:=hJ.ex
 refine zgW h1 hb hu.one.1 h3 (by rw [h2];exact hm) ?_
 intro v' H' hr fD ag aW o1 o2
 refine hk v' H' ⟨fun id h=>by have:=aW id h;omega,xs++[u],hr,by simp [h2],by simp [h3,hu.one.1],fun j hj=>?_⟩ fD (fun c hc=>ag c (by omega) fun h=>by have:=hJ.low c h;omega) o1 o2
 rw [List.getElem_append]
 split
 .rename_i ng;obtain ⟨a,b⟩:=h4 j ng
  refine ⟨a.keep fun id ⟨n,hn⟩=>?_,fun id aj=>⟨(b id aj).1,fun h=>?_⟩⟩
  .exact ag id (a.names_lt ⟨_,_,_,hn⟩) (b id ⟨_,_,_,hn⟩).2
  .have:=aW id h;have:=a.names_lt aj;omega
 .rename_i ng;have ej:j=k:=by simp at hj;omega
  subst ej;simp only [List.getElem_singleton]
  refine ⟨hu.keep fun id ⟨n,jh⟩=>?_,fun id aj=>⟨(hn id aj).1,fun h=>?_⟩⟩
  .exact ag id (hu.names_lt ⟨_,_,_,jh⟩) (hn id ⟨_,_,_,jh⟩).2
  .have:=aW id h;have:=hu.names_lt aj;omega
theorem zus {p:Problem} {l:Sl Box} {part:List Nat} (ok:af p) (sub:aL l.xs p.boxes.xs) (wf:Wf l.xs) (nodup:part.Nodup) (lt:∀ i∈part,i < l.xs.length) (pos:0 < part.length) (few:part.length<=12) (within:∀ f∈p.facts.xs,f.a.toNat∈part->Within part f) :
  ∃ ml:List (List Int),(∀ k,k < part.length->ml[k]! = lK p.facts.xs part k)/\Zg p l part ml:=by
 have hm:∀ k,k < part.length->((List.range part.length).map (lK p.facts.xs part))[k]! = lK p.facts.xs part k:=fun k hk=>by
  rw [getElem!_pos _ k (by simpa using hk)];simp
 refine ⟨(List.range part.length).map (lK p.facts.xs part),hm,⟨ok,sub,wf,nodup,lt,pos,few,fun k hk=>?_⟩⟩
 rw [hm k hk]
 refine ⟨zol p.facts.xs part k,Nat.le_trans (zq3 ..) ok.nf,zqa (fun f hf=>?_) within⟩
 have h:=(Au f _).1 (ok.fact f hf)
 refine ⟨by omega,by omega,fun h2=>?_⟩
 have:=h.2.2.2.2.2.1 h2;omega
theorem zqh (m:Nat):okB m (List.replicate (4*m) none):=⟨by simp,fun o ho d hd=>by have:=List.eq_of_mem_replicate ho;rw [this] at hd;cases hd⟩
structure RG (l:Sl Box) (part:List Nat) (aj hb:Nat) (H:Heap):Prop where
 e:H.get 0=.cells true (zm lI (List.replicate (4*part.length) none))
 s:H.get 1=.cells true (FE part 0 (Iq (4*part.length)))
 sb:H.get 2=.cells true [.box 1 0]
 h:H.get aj=.cells true (zm Box.cells l.xs)
 hb:H.get hb=.cells true [.row aj 4 0 l.xs.length]
theorem RG.keep {l:Sl Box} {part:List Nat} {aj hb mb:Nat} {H H':Heap} (h:RG l part aj hb H) (o:2 < aj/\aj < hb/\hb < mb) (hg:∀ c,c < mb->H'.get c=H.get c):RG l part aj hb H' :=
 ⟨by rw [hg _ (by omega)];exact h.e,by rw [hg _ (by omega)];exact h.s,by rw [hg _ (by omega)];exact h.sb,by rw [hg _ (by omega)];exact h.h,by rw [hg _ (by omega)];exact h.hb⟩
theorem zsc (m:Nat):(List.replicate m (([PV.nils,PV.nils,PV.nils,PV.nils]:List PV).map AV.pure)).flatten=zm lI (List.replicate (4*m) none):=by
 induction m with
 | zero=>rfl
 | succ m ih =>
  rw [List.replicate_succ,List.flatten_cons,ih,show 4*(m+1)=4*m+1+1+1+1 by omega];simp only [List.replicate_succ,LP];rfl
@[simp] theorem ztG (f:Nat) (a:PV) (i o:Nat) (l:List AV):GV f (.pure a::.box i o::l)=.func f (.pure a::.box i o::l):=rfl
@[simp] theorem zsI (f:Nat) (l:List AV):AV.cells (.func f l)=[.func f l]:=rfl
@[simp] theorem zs3 (f:Nat) (l:List AV):AV.one (.func f l)=true:=rfl
theorem zrZ (m:Nat):(List.replicate m (([PV.int .i64 0,PV.int .i64 0]:List PV).map AV.pure)).flatten=zm Pt.cells (List.replicate m ⟨0,0⟩):=by
 simp [zm]
theorem vQ {X:Option (AV×Heap)} {v:AV} {P:Heap->Prop} {k:AV->Heap->Prop} (h:∃ H',X=some (v,H')/\P H') (h2:∀ H',P H'->k v H'):∃ v H',X=some (v,H')/\k v H':=by
 obtain ⟨H',a,b⟩:=h;exact ⟨v,H',a,h2 H' b⟩
structure AP (p:Problem) (l:Sl Box) (part:List Nat):Prop where
 ok:af p
 sub:aL l.xs p.boxes.xs
 wf:Wf l.xs
 nodup:part.Nodup
 lt:∀ i∈part,i < l.xs.length
 pos:0 < part.length
 few:part.length<=12
 within:∀ f∈p.facts.xs,f.a.toNat∈part->Within part f
 ZI:1 < part.length->(jk p.facts.xs l.xs part).length<=1000000000000000000
theorem sh97:G.shared 97=false:=by decide
theorem e97 (n:Nat) (p:Problem) (l:Sl Box) (part:List Nat) (h:AP p l part):zF G (n+50) 97 [.agg p.cells,l.pv Box.cells 4,lM part]=some ((jS p.facts.xs l.xs part).pv):=by
 refine zx (zw _) rfl g97 rfl ?_
 by_cases h1:part.length=1
 case pos =>
  obtain ⟨i,rfl⟩:∃ i,part=[i]:=by
   match part,h1 with
   | [i],_=>exact ⟨i,rfl⟩
  have hi:=h.lt i (by simp);have hv:=aJ.1 (Iu h.ok h.sub h.wf _ (List.getElem_mem hi));have hD:jS p.facts.xs l.xs [i]=FK l.xs[i] [i]:=by
   simp [jS,hi]
  rw [hD];have hb:=h.wf _ (List.getElem_mem hi);have ha:=QS hb;have YQ:=fun H=>zg (G:=G) (n:=n+49) (H:=H) (caps:=[]) (ps:=[.agg l.xs[i].x.cells]) sh92 (e92 (n+48) l.xs[i].x (by omega) (by omega));have YR:=fun H=>zg (G:=G) (n:=n+49) (H:=H) (caps:=[]) (ps:=[.agg l.xs[i].y.cells]) sh92 (e92 (n+48) l.xs[i].y (by omega) (by omega));have hw:=zsf (u:=l.xs[i].x.hi - l.xs[i].x.lo+1) (v:=l.xs[i].y.hi - l.xs[i].y.lo+1) (by have:=hb.1;omega) (by omega) (by have:=hb.2;omega) (by omega);have hiI:(i:Int) < l.xs.length:=by omega
  have QQ:=zpk (sz:=4) (bytes:=96) (zero:=[.nils,.nils,.nils,.nils]) (k:=.i64) (k':=.i64) (n:=1) (by decide);have hmk1:Qx 4 96 [.nils,.nils,.nils,.nils] (.pure (.int .i64 1)) (.pure (.int .i64 1))=some (.new (.cells true [.pure .nils,.pure .nils,.pure .nils,.pure .nils]) fun id=>.row id 4 0 1):=QQ;have hA:Hide (((o9 l.xs[i]).toNat:Int)=(l.xs[i].x.hi - l.xs[i].x.lo+1)*(l.xs[i].y.hi - l.xs[i].y.lo+1)):=⟨by
   rw [Int.toNat_of_nonneg (by omega)];rfl⟩
  simp only [Span.cells,List.map] at YQ YR;have hpk0:CQ 1 (.pure (.slice false 1 [[.int .i64 (i:Int)]])) (.pure (.int .i64 0))=some (.val (.pure (.ptr false [.int .i64 (i:Int)] 0))):=by simp [CQ]
  have MS:∀ id:Nat,CQ 4 (.row id 4 0 1) (.pure (.int .i64 0))=some (.val (.box id 0)):=fun id=>by simp [CQ]
  clear hv hb ha QQ hD h1;(repeat' first|simp [*,za,c97,lM,Box.cells,Span.cells,Gy,Ny,chunks,beside]|(apply zb<;>intro _ h<;>try simp [-Nat.le_zero_eq] at h)|(show wpE 0 (zk ..) ..;refine zA ?_)|(refine zq fun v2 H2 fQ aT aF aG aH aI=>?_))
  refine zkJ (ji:=0) (D:=FK l.xs[i] [i]) ?_ ?_
  .simp [FK,hA.h,lM,l7,Sl.pv,Pt.cells]
  .refine zlL (n:=10) (m:=1) (cs:=[.pure (l7 (some [⟨l.xs[i].x.lo,l.xs[i].y.lo⟩])),.row 4 2 0 1,.pure (l7 (some [⟨l.xs[i].x.lo,l.xs[i].y.lo⟩])),.row 5 2 0 1]) ?_ rfl ?_
   .simp [l7,Sl.pv,Pt.cells]
   .refine .cons (.pure _) (.cons (xY (n:=8) (f:=Pt.cells) (sz:=2) (l:=[⟨l.xs[i].x.hi,l.xs[i].y.lo⟩]) (fun _=>rfl) ?_ rfl) (.cons (.pure _) (.cons (xY (n:=8) (f:=Pt.cells) (sz:=2) (l:=[⟨l.xs[i].x.lo,l.xs[i].y.hi⟩]) (fun _=>rfl) ?_ rfl) .nil)))
    .simp [zm]
    .simp [zm]
 case neg =>
  have hD:jS p.facts.xs l.xs part=IQ p.facts.xs l.xs part:=by unfold jS;rw [if_neg h1]
  rw [hD];have hmp:=h.pos;have Wx:=h.few;have UN:¬ (part.length:Int)=1:=by omega
  have Za:Gm (.pure (lM part))=some (.val (.pure (.int .i64 part.length))):=by simp [lM]
  have Jw:AV.cells (.pure (lM part))=[.pure (lM part)]:=rfl;have QU:part.length*4<=zl/\part.length*96<=zl/\part.length<=zl:=by unfold zl;omega
  have yL:l.xs≠[]:=by
   intro e;have:=h.lt part[0] (List.getElem_mem hmp);rw [e] at this;simp at this
  have ZJ:l.xs.length<=12:=by have:=h.sub.1;have:=h.ok.nb;omega
  have y9:=zsc part.length;simp only [List.map] at y9;have hH:=Hide.mk h;have ZK:=Hide.mk yL;clear h hD h1 yL;(repeat' first|simp [*,za,c97,Gy]|(apply zb<;>intro _ h<;>try simp [-Nat.le_zero_eq] at h)|(show wpE 0 (zk ..) ..;refine zA ?_)|(refine zq fun v2 H2 fQ aT aF aG aH aI=>?_))
  refine Ij (by omega) ?_
  intro v H1 hv Ea fD ag aW;obtain ⟨aj,rfl,hg⟩:=hv.row ZK.h;have qy:2 < aj:=by have:=aW aj ⟨_,_,_,rfl⟩;simp at this;omega
  have Ik:=zu hg;have b0:H1.get 0=.cells true (zm lI (List.replicate (4*part.length) none)):=by
   rw [ag 0 (by simp)];simp [y9]
  have b1:H1.get 1=.cells true (FE part 0 (Iq (4*part.length))):=by
   rw [ag 1 (by simp)];simp [FE,Iq,l7]
  have b2:H1.get 2=.cells true [.box 1 0]:=by
   rw [ag 2 (by simp)];simp
  clear hv Ea fD ag aW y9 QU;(repeat' first|simp [*,za]|(apply zb<;>intro _ h<;>try simp [-Nat.le_zero_eq] at h)|(show wpE 0 (zk ..) ..;refine zA ?_)|(refine zq fun v2 H2 fQ aT aF aG aH aI=>?_))
  refine zN [(11,15),(89,136)] (fun (k:Nat) env H2=>env 89=.pure (.int .i64 k)/\k<=part.length/\H1.nx+1 < H2.nx/\Hide (RG l part aj H1.nx H2)/\∃ V,H2.get (H1.nx+1)=.cells true [V]/\Hide (l9 p.facts.xs part (H1.nx+1) H2 V k)) (fun k=>part.length - k) 0 ?_ ?_ ?_ ?_
  .decide
  .refine ⟨by simp,by omega,by simp,⟨?_⟩,.pure .nils,?_,⟨l9.nil _ _ _ _⟩⟩
   .refine ⟨?_,?_,?_,?_,?_⟩
    .rw [ze (by simp<;>omega),zh (by omega),ze (by omega)];exact b0
    .rw [ze (by simp<;>omega),zh (by omega),ze (by omega)];exact b1
    .rw [ze (by simp<;>omega),zh (by omega),ze (by omega)];exact b2
    .rw [ze (by simp<;>omega),zh (by omega),ze (by omega)];exact hg
    .rw [ze (by simp),zo (by simp)]
   .simp
  .simp only [zI];omega
  clear b0 b1 b2 hg;have nf:=hH.h.ok.nf;rintro k env H2 ⟨g89,hk,aT,hB,V,U4,hM⟩
  by_cases aK:k < part.length
  .have w1:IntKind.i64.wrap ((k:Int)+1)=(k+1:Nat):=by rw [wrap64 (by omega) (by omega)];omega
   have pO:(k:Int) < part.length:=by omega
   have U5:aC aD 1 H2 (.pure .nils) ([]:List Int):=aC.nil;have U5:=Hide.mk U5;(repeat' first|simp [*,za]|(apply zb<;>intro _ h<;>try simp [-Nat.le_zero_eq] at h)|(show wpE 0 (zk ..) ..;refine zA ?_)|(refine zq fun v2 H2 fQ aT aF aG aH aI=>?_))
   refine zN [(12,15),(95,131)] (fun (i:Nat) env H3=>env 95=.pure (.int .i64 i)/\i<=p.facts.xs.length/\H2.nx<=H3.nx/\Hide (∀ c,c < H2.nx->H3.get c=H2.get c)/\∃ u,env 12=u/\Hide (aC aD 1 H3 u (fH p.facts.xs part k i)/\∀ id,Names u id->H2.nx<=id)) (fun i=>p.facts.xs.length - i) 0 ?_ ?_ ?_ ?_
   .decide
   .exact ⟨by simp,by omega,Nat.le_refl _,⟨fun _ _=>rfl⟩,_,rfl,⟨by rw [zlj];exact U5.h,fun id ⟨_,_,_,h⟩=>by simp at h⟩⟩
   .simp only [zI];omega
   have g89':=g89;clear g89 U5;rintro i env H3 ⟨g95,hi,C8,ag,u,g12,hU⟩
   by_cases aU:i < p.facts.xs.length
   .have w2:IntKind.i64.wrap ((i:Int)+1)=(i+1:Nat):=by rw [wrap64 (by omega) (by omega)];omega
    have hilI:(i:Int) < p.facts.xs.length:=by omega
    have c1:=fun (x:Int) H=>zg (G:=G) (n:=n+49) (H:=H) (caps:=[]) (ps:=[(Sl.mk false (zZ part)).pv aD 1,.int .i64 x]) sh99 (e99 (n+48) (Sl.mk false (zZ part)) x (mW part x) (by rw [Sl.jg,D8];omega) (zn9 part x));have c2:=fun (x:Int) H=>zg (G:=G) (n:=n+49) (H:=H) (caps:=[]) (ps:=[(Sl.mk false (zZ part)).pv aD 1,.int .i64 x]) sh70 (e70 (n+47) (Sl.mk false (zZ part)) x (by rw [Sl.jg,D8];omega));rw [<- Io] at c1 c2;simp only [List.map_cons,List.map_nil,Sl.jg] at c1 c2;have Gi:=Hide.mk (zo8 (part:=part) (k:=k) aU);obtain ⟨f,hf⟩:∃ f,f=p.facts.xs[i]:=⟨_,rfl⟩
    have hmB:Hide (l8 part k p.facts.xs[i]=(decide (ql part f=k)&&decide (f.a∈zZ part))):=⟨by rw [hf];unfold l8;congr⟩
    have rV:Hide (ql part f=if f.kind=2 then max (max (mW part f.a) (mW part f.b)) (mW part f.c) else max (mW part f.a) (mW part f.b)):=⟨rfl⟩
    rw [<- hf] at hmB Gi;have oz:=hf.symm;have hAdd:Hide (∀ (H4:Heap) (u4:AV),H3.nx<=H4.nx->aC aD 1 H4 u4 ((fH p.facts.xs part k i)++(if l8 part k f=true then [(i:Int)] else []))->aC aD 1 H4 u4 (fH p.facts.xs part k (i+1))):=⟨fun H4 u4 _ h=>h.cast Gi.h⟩
    have hmlen:(fH p.facts.xs part k i).length<=60:=by have:=znt p.facts.xs part k i;omega
    generalize (fH p.facts.xs part k i)=L at *;have pU:Hide (l8 part k f=(decide (ql part f=k)&&decide (f.a∈zZ part))):=⟨by unfold l8;congr⟩
    clear Gi hf hmB;obtain ⟨d1,d2,d3,da,db,dc,⟨d4,d5⟩,d6⟩:=f;simp only at rV pU;have c1a:=c1 da;have c1b:=c1 db;have c1c:=c1 dc;have c2a:=c2 da;clear c1 c2;generalize mW part da=ia at *;generalize mW part db=ib at *;generalize mW part dc=ic at *;have ZL:=hU.h.1;have MV:=ZL.1.one;have hU1a:=MV.1;have hU1b:=MV.2;have Kz:=Hide.mk hU.h;have wV:=Hide.mk ZL;clear hU ZL MV
    by_cases qg:d2=2
    .have tq:Hide (ql part ⟨d1,d2,d3,da,db,dc,⟨d4,d5⟩,d6⟩=max ia (max ib ic)):=⟨by rw [rV.h,if_pos qg];exact Int.max_assoc ..⟩
     clear rV;subst qg
     by_cases hc:max ia (max ib ic)=(k:Int)
     .by_cases hd:da∈zZ part
      .have AO:=Hide.mk (fun H4 u4 hx (h:aC aD 1 H4 u4 (L++[(i:Int)]))=>hAdd.h H4 u4 hx (by rw [pU.h,tq.h,decide_eq_true hc,decide_eq_true hd];exact h));clear pU tq hAdd;(repeat' first|simp [*,za,Fact.cells,Span.cells]|(apply zb<;>intro _ h<;>try simp [-Nat.le_zero_eq] at h)|(show wpE 0 (zk ..) ..;refine zA ?_)|(refine zq fun v2 H2 fQ aT aF aG aH aI=>?_))
       refine EY (f:=aD) (sz:=1) (l:=L) ((wV.h.lU _ _).alloc _) (fun _=>rfl) (by decide) (fun _=>rfl) (by unfold zl;omega) ⟨(i:Int),by simp [aD],?_⟩
       intro u4 H4 l6 ha;have QZ:Hide (aC aD 1 H4 u4 (fH p.facts.xs part k (i+1))/\∀ id,Names u4 id->H2.nx<=id):=⟨AO.h H4 u4 (by have:=ha.nx;simp at this;omega) l6,fun id hn=>by have:=ha.new id hn;simp at this;omega⟩
       have Il:Hide (∀ c,c < H2.nx->H4.get c=H2.get c):=⟨fun c hc=>by rw [ha.get c (by simp;omega) (fun hn=>by have:=Kz.h.2 c hn;omega),ze (by simp;omega),zh (by omega),ze (by omega)];exact ag.h c hc⟩
       have UF:H2.nx<=H4.nx:=by have:=ha.nx;simp at this;omega
       clear l6 ha ag AO Kz wV;(repeat' first|simp [*,za]|(apply zb<;>intro _ h<;>try simp [-Nat.le_zero_eq] at h)|(show wpE 0 (zk ..) ..;refine zA ?_)|(refine zq fun v2 H2 fQ aT aF aG aH aI=>?_));exact ⟨i+1,by omega,by omega,by omega,QZ⟩
      .have lT:Hide (∀ H4,aC aD 1 H4 u L->H3.nx<=H4.nx->aC aD 1 H4 u (fH p.facts.xs part k (i+1))):=⟨fun H4 h hx=>hAdd.h H4 u hx (by rw [pU.h,tq.h,decide_eq_false hd];simpa using h)⟩
       clear pU tq hAdd;(repeat' first|simp [*,za,Fact.cells,Span.cells]|(apply zb<;>intro _ h<;>try simp [-Nat.le_zero_eq] at h)|(show wpE 0 (zk ..) ..;refine zA ?_)|(refine zq fun v2 H2 fQ aT aF aG aH aI=>?_))
       refine ⟨i+1,by omega,by omega,by omega,by omega,⟨fun c hc=>?_⟩,⟨lT.h _ (wV.h.lU _ _) (by simp),Kz.h.2⟩⟩
       rw [zh (by omega),ze (by omega)];exact ag.h c hc
     .have lT:Hide (∀ H4,aC aD 1 H4 u L->H3.nx<=H4.nx->aC aD 1 H4 u (fH p.facts.xs part k (i+1))):=⟨fun H4 h hx=>hAdd.h H4 u hx (by rw [pU.h,tq.h,decide_eq_false hc];simpa using h)⟩
      clear pU tq hAdd;(repeat' first|simp [*,za,Fact.cells,Span.cells]|(apply zb<;>intro _ h<;>try simp [-Nat.le_zero_eq] at h)|(show wpE 0 (zk ..) ..;refine zA ?_)|(refine zq fun v2 H2 fQ aT aF aG aH aI=>?_))
      refine ⟨i+1,by omega,by omega,by omega,by omega,⟨fun c hc=>?_⟩,⟨lT.h _ (wV.h.lU _ _) (by simp),Kz.h.2⟩⟩
      rw [zh (by omega),ze (by omega)];exact ag.h c hc
    .have tq:Hide (ql part ⟨d1,d2,d3,da,db,dc,⟨d4,d5⟩,d6⟩=max ia ib):=⟨by rw [rV.h,if_neg qg]⟩
     clear rV
     by_cases hc:max ia ib=(k:Int)
     .by_cases hd:da∈zZ part
      .have AO:=Hide.mk (fun H4 u4 hx (h:aC aD 1 H4 u4 (L++[(i:Int)]))=>hAdd.h H4 u4 hx (by rw [pU.h,tq.h,decide_eq_true hc,decide_eq_true hd];exact h));clear pU tq hAdd;(repeat' first|simp [*,za,Fact.cells,Span.cells]|(apply zb<;>intro _ h<;>try simp [-Nat.le_zero_eq] at h)|(show wpE 0 (zk ..) ..;refine zA ?_)|(refine zq fun v2 H2 fQ aT aF aG aH aI=>?_))
       refine EY (f:=aD) (sz:=1) (l:=L) ((wV.h.lU _ _).alloc _) (fun _=>rfl) (by decide) (fun _=>rfl) (by unfold zl;omega) ⟨(i:Int),by simp [aD],?_⟩
       intro u4 H4 l6 ha;have QZ:Hide (aC aD 1 H4 u4 (fH p.facts.xs part k (i+1))/\∀ id,Names u4 id->H2.nx<=id):=⟨AO.h H4 u4 (by have:=ha.nx;simp at this;omega) l6,fun id hn=>by have:=ha.new id hn;simp at this;omega⟩
       have Il:Hide (∀ c,c < H2.nx->H4.get c=H2.get c):=⟨fun c hc=>by rw [ha.get c (by simp;omega) (fun hn=>by have:=Kz.h.2 c hn;omega),ze (by simp;omega),zh (by omega),ze (by omega)];exact ag.h c hc⟩
       have UF:H2.nx<=H4.nx:=by have:=ha.nx;simp at this;omega
       clear l6 ha ag AO Kz wV;(repeat' first|simp [*,za]|(apply zb<;>intro _ h<;>try simp [-Nat.le_zero_eq] at h)|(show wpE 0 (zk ..) ..;refine zA ?_)|(refine zq fun v2 H2 fQ aT aF aG aH aI=>?_));exact ⟨i+1,by omega,by omega,by omega,QZ⟩
      .have lT:Hide (∀ H4,aC aD 1 H4 u L->H3.nx<=H4.nx->aC aD 1 H4 u (fH p.facts.xs part k (i+1))):=⟨fun H4 h hx=>hAdd.h H4 u hx (by rw [pU.h,tq.h,decide_eq_false hd];simpa using h)⟩
       clear pU tq hAdd;(repeat' first|simp [*,za,Fact.cells,Span.cells]|(apply zb<;>intro _ h<;>try simp [-Nat.le_zero_eq] at h)|(show wpE 0 (zk ..) ..;refine zA ?_)|(refine zq fun v2 H2 fQ aT aF aG aH aI=>?_))
       refine ⟨i+1,by omega,by omega,by omega,by omega,⟨fun c hc=>?_⟩,⟨lT.h _ (wV.h.lU _ _) (by simp),Kz.h.2⟩⟩
       rw [zh (by omega),ze (by omega)];exact ag.h c hc
     .have lT:Hide (∀ H4,aC aD 1 H4 u L->H3.nx<=H4.nx->aC aD 1 H4 u (fH p.facts.xs part k (i+1))):=⟨fun H4 h hx=>hAdd.h H4 u hx (by rw [pU.h,tq.h,decide_eq_false hc];simpa using h)⟩
      clear pU tq hAdd;(repeat' first|simp [*,za,Fact.cells,Span.cells]|(apply zb<;>intro _ h<;>try simp [-Nat.le_zero_eq] at h)|(show wpE 0 (zk ..) ..;refine zA ?_)|(refine zq fun v2 H2 fQ aT aF aG aH aI=>?_))
      refine ⟨i+1,by omega,by omega,by omega,by omega,⟨fun c hc=>?_⟩,⟨lT.h _ (wV.h.lU _ _) (by simp),Kz.h.2⟩⟩
      rw [zh (by omega),ze (by omega)];exact ag.h c hc
   .have hie:i=p.facts.xs.length:=by omega
    subst hie;have C9:=hU.h;rw [znj] at C9;have ZM:=C9.1.1.one;have hUo1:=ZM.1;have hUo2:=ZM.2;have RH:H3.get (H1.nx+1)=.cells true [V]:=by rw [ag.h _ aT];exact U4
    have MW:=Hide.mk C9;have Fe:H1.nx+1 < H3.nx:=by omega
    clear ZM C9;(repeat' first|simp [*,za]|(apply zb<;>intro _ h<;>try simp [-Nat.le_zero_eq] at h)|(show wpE 0 (zk ..) ..;refine zA ?_)|(refine zq fun v2 H2 fQ aT aF aG aH aI=>?_))
    refine zkF (mb:=H1.nx+1) (k:=k) (u:=u) ((hM.h.keep (H':=H3) fun c _ hc=>ag.h c hc).keep fun c _ hc=>ze hc) ?_ (MW.h.1.alloc _).1 ?_ (by simp;omega) (by unfold zl;omega) ?_
    .simp
    .intro id hn;have:=MW.h.2 id hn;exact ⟨by omega,fun h=>by have:=hM.h.lt h;omega⟩
    intro v' H' hM' yz nQ o1 o2;have hmb':H'.get (H1.nx+1)=.cells true [V]:=by rw [nQ _ (Nat.le_refl _),ze Fe];exact RH
    have vZ:H1.nx+1 < H'.nx:=by simp at yz;omega
    have hM2:Hide (∀ o,l9 p.facts.xs part (H1.nx+1) (H'.set (H1.nx+1) o) v' (k+1)):=⟨fun o=>hM'.keep fun c hc _=>zh (by omega)⟩
    have Kq:Hide (∀ o,RG l part aj H1.nx (H'.set (H1.nx+1) o)):=⟨fun o=>hB.h.keep (mb:=H1.nx+1) ⟨by omega,by omega,by omega⟩ fun c hc=>by
     rw [zh (by omega),nQ c (by omega),ze (by omega),ag.h c (by omega)]⟩
    clear hM' nQ hB hM ag RH hU MW U4;(repeat' first|simp [*,za]|(apply zb<;>intro _ h<;>try simp [-Nat.le_zero_eq] at h)|(show wpE 0 (zk ..) ..;refine zA ?_)|(refine zq fun v2 H2 fQ aT aF aG aH aI=>?_));exact ⟨k+1,by omega,by omega,by omega,⟨Kq.h _⟩,⟨hM2.h _⟩⟩
  .have YP:k=part.length:=by omega
   subst YP;have QU:part.length*2<=zl/\part.length*16<=zl/\part.length<=zl:=by unfold zl;omega
   have key:∀ Hs:Heap,Hs.nx=H2.nx+3->(∀ j,j < H2.nx->Hs.get j=H2.get j)->Hs.get H2.nx=.cells true (zm Pt.cells (List.replicate part.length ⟨0,0⟩))->Hs.get (H2.nx+1)=.cells true [.row H2.nx 2 0 part.length] ->
     Hs.get (H2.nx+1+1)=.cells true [.func 114 (IK ⟨1,0,2,H2.nx,H2.nx+1,aj,H1.nx,0,H1.nx+1,H2.nx+1+1⟩ p l part)] ->
     ∃ H',Vm.call G (n+48+1) (.fn 114) ([.pure (.int .i64 0)]++IK ⟨1,0,2,H2.nx,H2.nx+1,aj,H1.nx,0,H1.nx+1,H2.nx+1+1⟩ p l part) Hs=some (.aM [],H') /\
      (H'.get 2=.cells true [.box 1 0]/\H'.get 1=.cells true (FE part 0 ((jk p.facts.xs l.xs part).foldl yh (Iq (4*part.length))))/\H'.get 0=.cells true (zm lI ((jk p.facts.xs l.xs part).foldl yh (Iq (4*part.length))).best)):=by
    intro Hs hn hg s1 s2 s3;have GI:=hH.h;obtain ⟨ml,sK,ZN⟩:=zus GI.ok GI.sub GI.wf GI.nodup GI.lt GI.pos GI.few GI.within;obtain ⟨xs,hra,Rl,Ae,U2⟩:=hM.h.ex;have OM:=hB.h;rcases hra with ⟨_,rfl⟩|⟨mid,rfl,hxne,IU⟩
    .simp at Rl;omega
    have ZO:=hM.h.low mid ⟨_,_,_,rfl⟩;have RI:=zu IU;have ML:xs.length=part.length:=Rl;have sp:1 < part.length:=by omega
    have hsf:=GI.ZI sp;obtain ⟨H',r1,r2,lJ,r3,_⟩:=zlR (I:=⟨1,0,2,H2.nx,H2.nx+1,aj,H1.nx,mid,H1.nx+1,H2.nx+1+1⟩) ZN part.length (n+41 - 3*part.length) 0 Hs (Iq (4*part.length)) (List.replicate part.length ⟨0,0⟩) l.xs (by omega)
     ⟨⟨(by decide:0 < 1),(by decide:1 < 2),qy,Ik,(by omega:H1.nx < H1.nx+1),ZO,RI,(by omega:H2.nx < H2.nx+1),(by omega:H2.nx+1 < H2.nx+1+1)⟩,by show Hs.get 2=_;rw [hg 2 (by omega)];exact OM.sb,s2,by show Hs.get H1.nx=_;rw [hg H1.nx (by omega)];exact OM.hb,by show Hs.get (H1.nx+1)=_;rw [hg _ aT];rw [U4,ML],⟨xs,by rw [hg _ RI];exact IU,ML,fun k hk=>by
      obtain ⟨a,b⟩:=U2 k hk;rw [sK k (by omega)];exact ⟨a.keep fun id ⟨n,hn⟩=>hg id (a.names_lt ⟨_,_,_,hn⟩),fun id aj=>⟨(b id aj).1,a.names_lt aj⟩⟩⟩,s3⟩
     ⟨by show Hs.get 1=_;rw [hg 1 (by omega)];exact OM.s,by show Hs.get 0=_;rw [hg 0 (by omega)];exact OM.e,s1,by show Hs.get aj=_;rw [hg aj (by omega)];exact OM.h,zqh _,⟨by simp,fun x hx=>by
      have:=List.eq_of_mem_replicate hx;subst this;exact ⟨⟨by decide,by decide⟩,⟨by decide,by decide⟩⟩⟩⟩
     (aL.refl _) GI.wf (fun j h _=>rfl) (by
      have:(tL (qD p.facts.xs part) l.xs (part.drop 0) 0 l.xs).length=(jk p.facts.xs l.xs part).length:=rfl;rw [this];show 0+_<=_;omega)
    refine ⟨H',?_,?_,?_,?_⟩
    .have e:n+41 - 3*part.length+8+3*part.length=n+48+1:=by omega
     rw [e] at r1;exact r1
    .rw [r2.get 2 (by omega) (show (2:Nat)≠1 by decide) (show (2:Nat)≠0 by decide) (by show 2≠H2.nx;omega) (by show 2≠aj;omega),hg _ (by omega)];exact OM.sb
    .have:=r3.s
     simpa [jk] using this
    .have:=r3.e
     simpa [jk] using this
   have hrp:=zrZ part.length;simp only [List.map] at hrp;have RL:=Hide.mk key;have hDl:Hide (((jk p.facts.xs l.xs part).foldl yh (Iq (4*part.length)))=⟨(jk p.facts.xs l.xs part).length,(jk p.facts.xs l.xs part).head?,(List.range (4*part.length)).map fun j=>QN (jE j) (jk p.facts.xs l.xs part)⟩):=⟨zp0 _ _⟩
   clear key hB hM;(repeat' first|simp [*,za]|(apply zb<;>intro _ h<;>try simp [-Nat.le_zero_eq] at h)|(show wpE 0 (zk ..) ..;refine zA ?_)|(refine zq fun v2 H2 fQ aT aF aG aH aI=>?_))
   refine yf (n:=n+48) zjM (vQ (RL.h _ ?_ ?_ ?_ ?_ ?_) ?_)
   .simp
   .intro j hj;rw [zh (by omega),ze (by rw [mE];simp;omega),zh (by omega),ze (by simp;omega),ze hj]
   .rw [zh (by omega),ze (by rw [mE];simp;omega),zh (by omega),ze (by simp),Ai]
   .simp
   .simp [IK]
   .rintro H' ⟨q1,q2,q3⟩;rw [hDl.h] at q2 q3;clear RL hDl;(repeat' first|simp [*,za]|(apply zb<;>intro _ h<;>try simp [-Nat.le_zero_eq] at h)|(show wpE 0 (zk ..) ..;refine zA ?_)|(refine zq fun v2 H2 fQ aT aF aG aH aI=>?_))
    refine zrd (ji:=0) (D:=IQ p.facts.xs l.xs part) ?_ ?_ ?_
    .exact q2
    .exact q3
    .simp [IQ]
end Go.Proofs.YtmmhnfghklppiaaGreat.Vm
