/- Narrowing: the plain facts that the walk of narrow uses. Narrowing: what the program's narrow computes. The leaf of choose (look$1): all points of a part are chosen; what is gathered. choose (look$1): what it gathers, by induction on the points that are left. What look is to return, and the lists of facts that it makes. Plain Lean. look: what the program sees of a part, walked. -/
import Derived.Test.YtmmhnfghklppiaaGreatUk17
import Derived.Test.YtmmhnfghklppiaaGreatUk19
import Derived.Test.YtmmhnfghklppiaaGreatUk22
import Derived.Test.YtmmhnfghklppiaaGreatUk23
import Derived.Test.YtmmhnfghklppiaaGreatUk21
namespace Go.Proofs.YtmmhnfghklppiaaGreat.Vm
open Go
set_option linter.unusedSimpArgs false
set_option linter.unusedVariables false
set_option maxHeartbeats 4000000
def jR (f:Fact) (l:List Box):Prop:=zD f l=true
theorem YV {f:Fact} {n:Nat} (h:qh f n=true):Named f n:=by
 have h':=(vR f n).1 h
 refine ⟨by omega,by omega,?_⟩
 by_cases hk:f.kind=2
 .have:=h'.2.2.2.2.2.1 hk;omega
 .have:=h'.2.2.2.2.2.2 hk;omega
theorem Kz {p:Problem} (ok:ak p):yZ jR p.facts.xs p.boxes.xs.length:=fun f hf l m hm hw hs hl h =>
 znv (by rw [hm];exact YV (ok.fact f hf)) hs hl hw h
theorem xX {p:Problem} (ok:ak p):Wf p.boxes.xs:=fun b hb=>by
 have:=aH.1 (ok.valid b hb);exact ⟨by omega,by omega⟩
theorem Ed {p:Problem} (ok:ak p) {l:List Box} (hs:aR l p.boxes.xs) (hw:Wf l):∀ b∈l,mJ b=true:=by
 intro b hb;obtain ⟨i,hi,rfl⟩:=List.mem_iff_getElem.1 hb;have bV:i < p.boxes.xs.length:=by rw [<- hs.1];exact hi
 have h1:=hs.2 i hi bV;have h2:=aH.1 (ok.valid _ (List.getElem_mem bV));have h3:=hw _ (List.getElem_mem hi);unfold fD fC at h1;unfold ja at h3;rw [aH];omega
theorem Qk {p:Problem} (ok:ak p) {l:List Box} (hs:aR l p.boxes.xs) (hw:Wf l) {f:Fact} (hf:f∈p.facts.xs):rT f l:=YF (ok.fine hs.1 (Ed ok hs hw) hf)
theorem YW {l:List Box} (hw:Wf l) {i:Nat} (hi:i < l.length) (k:Nat):Wf (jP l i k):=by
 rw [CX hi];exact hw.set (Sv (hw _ (List.getElem_mem hi)) k)
theorem YX {l:List Box} (hw:Wf l) {i:Nat} (hi:i < l.length) (k:Nat):aR (jP l i k) l:=by
 rw [CX hi];have:=(aR.refl l).set (i:=i) (zkq (hw _ (List.getElem_mem hi)) k);rwa [List.set_getElem_self] at this
theorem jv {n:Nat} {j:Int}:j∈jQ n↔∃ k:Nat,k < n/\j=k:=by
 simp only [jQ,List.mem_map,List.mem_range]
 constructor
 .rintro ⟨k,h,rfl⟩;exact ⟨k,h,rfl⟩
 .rintro ⟨k,h,rfl⟩;exact ⟨k,h,rfl⟩
theorem Oe (fs:List Fact):vS fs (jQ fs.length):=fun i hi=>by
 obtain ⟨k,h,rfl⟩:=jv.1 hi;omega
theorem zin (fs:List Fact) (i:Int):vS fs (sO fs (jQ fs.length) i):=fun j hj=>Oe fs j (List.mem_filter.1 hj).1
theorem zjY (fs:List Fact) (i:Int):(sO fs (jQ fs.length) i).length<=fs.length:=by
 have:=List.length_filter_le (fun k=>rU fs[k.toNat]! i) (jQ fs.length);rwa [Ku] at this
theorem ztq {fs:List Fact} {l:List Box}:0<=fI fs l (jQ fs.length)↔∃ f∈fs,zD f l=true:=by
 rw [Vo fun i hi=>(Oe fs i hi).1]
 constructor
 .rintro ⟨j,hj,h⟩;obtain ⟨k,hk,rfl⟩:=jv.1 hj;rw [show ((k:Int)).toNat=k by simp,getElem!_pos fs k hk] at h;exact ⟨_,List.getElem_mem hk,h⟩
 .rintro ⟨f,hf,h⟩;obtain ⟨k,hk,rfl⟩:=List.mem_iff_getElem.1 hf;exact ⟨k,jv.2 ⟨k,hk,rfl⟩,by rw [show ((k:Int)).toNat=k by simp,getElem!_pos fs k hk];exact h⟩
theorem sQ {fs:List Fact} {l:List Box} {i:Int}:0<=fI fs l (sO fs (jQ fs.length) i)↔∃ f∈fs,rU f i=true/\zD f l=true:=by
 rw [Vo fun j hj=>(zin fs i j hj).1];unfold sO;simp only [List.mem_filter]
 constructor
 .rintro ⟨j,⟨hj,hn⟩,h⟩;obtain ⟨k,hk,rfl⟩:=jv.1 hj;rw [show ((k:Int)).toNat=k by simp,getElem!_pos fs k hk] at h hn;exact ⟨_,List.getElem_mem hk,hn,h⟩
 .rintro ⟨f,hf,hn,h⟩;obtain ⟨k,hk,rfl⟩:=List.mem_iff_getElem.1 hf;exact ⟨k,⟨jv.2 ⟨k,hk,rfl⟩,by rw [show ((k:Int)).toNat=k by simp,getElem!_pos fs k hk];exact hn⟩,by rw [show ((k:Int)).toNat=k by simp,getElem!_pos fs k hk];exact h⟩
theorem zg7 {p:Problem} (ok:ak p) {f:Fact} (hf:f∈p.facts.xs) {i:Nat} (hn:rU f i=false) {l:List Box} (hi:i < l.length) (b:Box):zD f (l.set i b)=zD f l:=by
 have Db:=(vR f _).1 (ok.fact f hf);unfold rU at hn;simp only [Bool.or_eq_false_iff,Bool.and_eq_false_iff,decide_eq_false_iff_not] at hn;obtain ⟨ha,hb,hc⟩:=hn;have g:∀ j:Int,0<=j->j≠i->(l.set i b)[j.toNat]! = l[j.toNat]! := fun j h0 hj=>by
  rw [getElem!_def,getElem!_def,List.getElem?_set_ne (by omega)]
 refine LJ ⟨g _ (by omega) ha,g _ (by omega) hb,fun hk=>g _ ?_ ?_⟩
 .have:=Db.2.2.2.2.2.1 hk;omega
 .rcases hc with h|h
  .exact absurd hk h
  .exact h
section
variable {p:Problem} {L L0:List Box} {i k:Nat} {c:Bool}
structure Ee (p:Problem) (L:List Box):Prop where
 hold:Holds' jR p.facts.xs p.boxes.xs L
 none:∀ f∈p.facts.xs,zD f L=false
structure nJ (p:Problem) (i:Nat) (L:List Box):Prop where
 hold:Holds' jR p.facts.xs p.boxes.xs L
 others:∀ f∈p.facts.xs,rU f i=false->zD f L=false
theorem Ee.while (h:Ee p L) (i:Nat):nJ p i L:=⟨h.hold,fun f hf _=>h.none f hf⟩
theorem nJ.exit (ok:ak p) (h:nJ p i L) (hi:i < L.length) (hb:¬ ∃ f∈p.facts.xs,rU f i=true/\zD f (jP L i k)=true):Ee p L/\∀ f∈p.facts.xs,zD f (jP L i k)=false:=by
 have key:∀ f∈p.facts.xs,zD f (jP L i k)=false:=fun f hf=>by
  cases hn:rU f i with
  | true =>
   cases hs:zD f (jP L i k) with
   | true=>exact absurd ⟨f,hf,hn,hs⟩ hb
   | false=>rfl
  | false=>rw [CX hi,zg7 ok hf hn hi];exact h.others f hf hn
 refine ⟨⟨h.hold,fun f hf=>?_⟩,key⟩
 cases hs:zD f L with
 | false=>rfl
 | true =>
  have:=Kz ok f hf (jP L i k) L h.hold.sub.1 h.hold.wf (YX h.hold.wf hi k) (YW h.hold.wf hi k) hs;unfold jR at this;rw [key f hf] at this;simp at this
theorem nJ.step (ok:ak p) (h:nJ p i L) (hi:i < L.length) (hk:k < 4) (hb:∃ f∈p.facts.xs,rU f i=true/\zD f (jP L i k)=true) (ht:¬ mI L[i] k):nJ p i (rA L i k)/\ui (rA L i k) < ui L:=by
 obtain ⟨f,hf,_,hs⟩:=hb
 refine ⟨⟨h.hold.cut (Kz ok) hi hk hf hs ht,fun g hg hn=>?_⟩,Yq h.hold.wf hi hk ht⟩
 rw [I7 hi,zg7 ok hg hn hi];exact h.others g hg hn
theorem nJ.empty (ok:ak p) (h:nJ p i L) (hi:i < L.length) (hk:k < 4) (hb:∃ f∈p.facts.xs,rU f i=true/\zD f (jP L i k)=true) (ht:mI L[i] k):bM jR p.facts.xs p.boxes.xs none:=by
 obtain ⟨f,hf,_,hs⟩:=hb;exact h.hold.empty (Kz ok) hi hk hf hs ht
def znD (p:Problem) (L:List Box) (i k:Nat):Prop:=∀ i' k',k' < 4->(i' < i\/(i'=i/\k' < k))->i' < L.length->∀ f∈p.facts.xs,zD f (jP L i' k')=false
structure PJ (p:Problem) (L0 L:List Box) (c:Bool) (i k:Nat):Prop where
 BA:Ee p L
 same:c=false->L=L0/\znD p L i k
 less:c=true->ui L < ui L0
structure WJ (p:Problem) (L0 L:List Box) (c:Bool) (i k:Nat):Prop where
 wj:nJ p i L
 same:c=false->L=L0/\znD p L i k
 less:c=true->ui L < ui L0
theorem PJ.start (h:Ee p L):PJ p L L false 0 0:=⟨h,fun _=>⟨rfl,fun i' k' _ h=>by omega⟩,fun h=>by cases h⟩
theorem PJ.while (h:PJ p L0 L c i k):WJ p L0 L c i k:=⟨h.BA.while i,h.same,h.less⟩
theorem WJ.exit (ok:ak p) (h:WJ p L0 L c i k) (hi:i < L.length) (hk:k < 4) (hb:¬ ∃ f∈p.facts.xs,rU f i=true/\zD f (jP L i k)=true):PJ p L0 L c i (k+1):=by
 obtain ⟨h1,h2⟩:=h.wj.exit ok hi hb
 refine ⟨h1,fun hc=>?_,h.less⟩
 obtain ⟨h3,h4⟩:=h.same hc
 refine ⟨h3,fun i' k' xI aK bV f hf=>?_⟩
 rcases aK with hl|⟨rfl,hl⟩
 .exact h4 i' k' xI (.inl hl) bV f hf
 .rcases Nat.lt_succ_iff_lt_or_eq.1 hl with hl|rfl
  .exact h4 i' k' xI (.inr ⟨rfl,hl⟩) bV f hf
  .exact h2 f hf
theorem WJ.step (ok:ak p) (h:WJ p L0 L c i k) (hi:i < L.length) (hk:k < 4) (hb:∃ f∈p.facts.xs,rU f i=true/\zD f (jP L i k)=true) (ht:¬ mI L[i] k):WJ p L0 (rA L i k) true i k/\ui (rA L i k) < ui L:=by
 obtain ⟨h1,h2⟩:=h.wj.step ok hi hk hb ht
 refine ⟨⟨h1,fun hc=>(by cases hc),fun _=>?_⟩,h2⟩
 cases c with
 | false=>have:=(h.same rfl).1;subst this;exact h2
 | true=>have:=h.less rfl;omega
theorem PJ.Jm (h:PJ p L0 L c i 4):PJ p L0 L c (i+1) 0:=⟨h.BA,fun hc=>⟨(h.same hc).1,fun i' k' xI aK bV f hf=>(h.same hc).2 i' k' xI (by omega) bV f hf⟩,h.less⟩
theorem PJ.done (h:PJ p L0 L c L.length 0) (hc:c=false):Stable jR p.facts.xs L:=fun i hi k hk f hf hs=>by
 have:=(h.same hc).2 i k hk (.inl hi) hi f hf;unfold jR at hs;rw [this] at hs;simp at hs
theorem zo5 {M:Nat}:∀ {l:List Box},(∀ b∈l,Sz b<=M)->ui l<=M*l.length
 | [],_=>by simp [ui]
 | b::l,h=>by
  have h1:=h b (by simp);have h2:=zo5 (l:=l) fun x hx=>h x (by simp [hx]);unfold ui at h2 ⊢;simp only [List.map_cons,List.sum_cons,List.length_cons,Nat.mul_add,Nat.mul_one];omega
theorem Vz (ok:ak p) (hs:aR L p.boxes.xs):ui L<=24552:=by
 have h1:ui L<=2046*L.length:=zo5 fun b hb=>by
  obtain ⟨i,hi,rfl⟩:=List.mem_iff_getElem.1 hb;have bV:i < p.boxes.xs.length:=by rw [<- hs.1];exact hi
  have h1:=hs.2 i hi bV;have h2:=ok.box _ (List.getElem_mem bV);unfold jS at h2;simp only [Bool.and_eq_true,decide_eq_true_eq] at h2;unfold fD fC at h1;unfold Sz;omega
 have h2:L.length<=12:=by rw [hs.1];exact ok.nb
 have:2046*L.length<=2046*12:=Nat.mul_le_mul_left _ h2;omega
end
set_option maxRecDepth 4000
theorem VA {α:Type} {f:α->List PV} {sz:Nat} {H:Heap} {v:AV} {l:List α} {n:Nat} (hf:∀ a,(f a).length=sz) (h:bP f sz H v l):∃ s:Sl α,s.xs=l/\FrzK H true (n+2) v (s.pv f sz):=by
 rcases h with ⟨rfl,rfl⟩|⟨id,rfl,hg⟩
 .exact ⟨.nil,rfl,.pure _⟩
 .exact Ha hf hg rfl
theorem YY (l:List Box):((Sl.mk false l).pv Box.cells 4).cold=true:=by
 simp [Sl.pv,PV.cold,PV.iR,Box.cells,Span.cells]
theorem zpf (a:Nat):Int.tdiv (a:Int) 2=((a / 2:Nat):Int):=rfl
theorem zoK (a:Nat):Int.tmod (a:Int) 2=((a % 2:Nat):Int):=rfl
def FD (p:Problem):Option (List Box)->PV
 | none=>.nils
 | some l=>(if p.boxes.isNil=true then Sl.nil else Sl.mk false l).pv Box.cells 4
theorem sh62:G.shared 62=false:=by decide
theorem e62 (n:Nat) (p:Problem) (ok:ak p) (r:Option (List Box)) (hr:bM jR p.facts.xs p.boxes.xs r):zF G (n+7) 62 [.agg p.cells]=some (.aQ [FD p r,.bool r.isSome]):=by
 refine zy (zx _) rfl g62 rfl ?_
 obtain ⟨bs,fs⟩:=p;have nb:bs.xs.length<=12:=ok.nb;have nf:fs.xs.length<=60:=ok.nf;have Ql:=fun H=>zf (G:=G) (n:=n+6) (H:=H) (caps:=[]) (ps:=[fs.pv Fact.cells 9]) ztI (e105 (n+5) fs (by omega));simp only [List.map] at Ql;have Qm:Hide (∀ (is:Sl Int) (l:Sl Box),vS fs.xs is.xs->is.xs.length<=60->aR l.xs bs.xs->Wf l.xs->zF G (n+6) 74 [fs.pv Fact.cells 9,is.pv aF 1,l.pv Box.cells 4]=some (.int .i64 (fI fs.xs l.xs is.xs))) :=
  ⟨fun is l h1 h2 h3 h4=>e74 n fs is l h1 (by omega) (fun f hf=>Qk ok h3 h4 hf)⟩
 have ho:=Fq (n+5);have qD:=Hide.mk ok;have vV:=Hide.mk hr
 by_cases hN:bs.xs=[]
 .have BB:fs.xs=[]:=by
   cases hfx:fs.xs with
   | nil=>rfl
   | cons f l =>
    have:=(vR f _).1 (ok.fact f (by show f∈fs.xs;rw [hfx];simp));have e:((Problem.mk bs fs).boxes.xs.length:Int)=0:=by show (bs.xs.length:Int)=0;rw [hN];rfl
    omega
  have Au:r=some []:=vV.h.unique (s:=some []) (by
   show bM jR fs.xs bs.xs (some []);rw [hN];exact ⟨Holds'.init (fun b hb=>by simp at hb),fun i hi=>by simp at hi⟩)
  subst Au;have hB0:fI fs.xs [] (jQ fs.xs.length)=-1:=by rw [BB];rfl
  have LW:=Hide.mk (Qm.h (Sl.mk false (jQ fs.xs.length)));have ES:bs.xs.length=0:=by rw [hN];rfl
  have hNH:=Hide.mk hN;clear hr BB hN;(repeat' first|simp [*,zb,c62,Problem.cells]|(apply za<;>intro _ h<;>try simp [-Nat.le_zero_eq] at h))
  refine Gn (by omega) ?_
  intro v H1 hv KA bU ah aS;rw [hNH.h] at hv;obtain ⟨s0,nU,BB⟩:=VA (n:=10) (f:=Box.cells) (sz:=4) (fun _=>rfl) hv;have c0:=LW.h s0 (Oe _) (by simp [Ku];omega) (by rw [nU,hNH.h];exact aR.refl _) (by rw [nU];exact fun b hb=>by simp at hb);rw [nU,Sl.bL,hB0] at c0;have Z8:=hv.len;have bn:=hv.one;simp only [List.length_nil] at Z8;have bD:∃ ids,freeze H1 false 11 v=some (FD ⟨bs,fs⟩ (some []),ids):=by
   rcases hv with ⟨_,rfl⟩|⟨id,rfl,hg⟩
   .have e:bs.isNil=true:=by simpa [isNil] using KA.symm
    refine ⟨[],?_⟩
    unfold FD;rw [e];rfl
   .have e:bs.isNil=false:=by simpa [isNil] using KA.symm
    obtain ⟨ids,iw⟩:=sI (n:=9) (f:=Box.cells) (sz:=4) (fun _=>rfl) hg rfl
    refine ⟨ids,?_⟩
    unfold FD;rw [e];exact iw
  have VB:=Hide.mk bD;clear hv KA ah aS LW bD nU;(repeat' first|simp [*,zb]|(apply za<;>intro _ h<;>try simp [-Nat.le_zero_eq] at h))
  refine LC (caps:=[]) (ps:=[_,_,_]) (by decide) (.cons (.pure _) (.cons (.pure _) (.cons BB .nil))) c0 rfl ?_
  clear c0 BB;(repeat' first|simp [*,zb]|(apply za<;>intro _ h<;>try simp [-Nat.le_zero_eq] at h))
  refine zA [(2,3),(6,11),(24,85)] (fun (b:Bool) env H=>env 6=.pure (.bool b)/\H=H1) (fun b=>if b=true then 1 else 0) true ?_ ?_ ?_ ?_
  .decide
  .exact ⟨by simp,rfl⟩
  .simp only [zz];simp
  rintro b env H ⟨g6,rfl⟩
  cases b with
  | false =>
   obtain ⟨ids,iw⟩:=VB.h;simp [*,zb]
  | true =>
   (repeat' first|simp [*,zb]|(apply za<;>intro _ h<;>try simp [-Nat.le_zero_eq] at h))
   refine zA [(2,3),(6,11),(27,85)] (fun (u:Unit) env H2=>env 27=.pure (.int .i64 0)/\env 6=.pure (.bool false)/\H2=H) (fun u=>0) () ?_ ?_ ?_ ?_
   .decide
   .exact ⟨by simp,by simp,rfl⟩
   .simp only [zz];omega
   rintro u iB H2 ⟨g27,g6',rfl⟩;simp [*,zb]
 have YZ:0 < bs.xs.length:=List.length_pos_iff.2 hN;have IG:bs.isNil=false:=by
  cases bs with
  | nil=>exact absurd rfl hN
  | mk h l=>rfl
 have VC:Hide (∀ l,FD ⟨bs,fs⟩ (some l)=(Sl.mk false l).pv Box.cells 4):=⟨fun l=>by unfold FD;simp only [IG];rfl⟩
 have rF:FD ⟨bs,fs⟩ none=.nils:=rfl;clear hr;have LW:=Hide.mk (Qm.h (Sl.mk false (jQ fs.xs.length)));(repeat' first|simp [*,zb,c62,Problem.cells]|(apply za<;>intro _ h<;>try simp [-Nat.le_zero_eq] at h))
 refine Gn (by omega) ?_
 intro v H1 hv KA bU ah aS;obtain ⟨id,rfl,hg⟩:=hv.row hN;have aB:=zo hg;obtain ⟨s0,nU,BB⟩:=Ha (n:=10) (f:=Box.cells) (sz:=4) (fun _=>rfl) hg rfl;have c0:=LW.h s0 (Oe _) (by simp [Ku];omega) (by rw [nU];exact aR.refl _) (by rw [nU];exact xX qD.h);rw [nU] at c0;simp only [Sl.bL] at c0;clear hv KA ah aS LW;(repeat' first|simp [*,zb]|(apply za<;>intro _ h<;>try simp [-Nat.le_zero_eq] at h))
 refine LC (caps:=[]) (ps:=[_,_,_]) (by decide) (.cons (.pure _) (.cons (.pure _) (.cons BB .nil))) c0 rfl ?_
 have LY:=ztq (fs:=fs.xs) (l:=bs.xs)
 by_cases pg:0<=fI fs.xs bs.xs (jQ fs.xs.length)
 .have vW:r=none:=vV.h.unique (by
   obtain ⟨f,hf,hs⟩:=LY.1 pg;exact (Holds'.init (xX qD.h)).fail (Kz qD.h) YZ hf hs)
  subst vW;clear LY c0 BB nU vV;generalize fI fs.xs bs.xs (jQ fs.xs.length)=B at *;simp [*,zb]
 have Jn:∀ f∈fs.xs,zD f bs.xs=false:=fun f hf=>by
  cases hs:zD f bs.xs with
  | false=>rfl
  | true=>exact absurd (LY.2 ⟨f,hf,hs⟩) pg
 have E5:Ee ⟨bs,fs⟩ bs.xs:=⟨Holds'.init (xX qD.h),Jn⟩
 have E5:=Hide.mk E5;have hb0':¬ 0<=fI fs.xs bs.xs (jQ fs.xs.length):=pg;clear LY c0 BB nU Jn pg;generalize fI fs.xs bs.xs (jQ fs.xs.length)=B at *;(repeat' first|simp [*,zb]|(apply za<;>intro _ h<;>try simp [-Nat.le_zero_eq] at h))
 refine zA [(2,3),(6,11),(24,85)] (fun (s:List Box×Bool) env H=>env 6=.pure (.bool s.2)/\id < H.nx/\H.get id=.cells true (zq Box.cells s.1)/\Hide (Ee ⟨bs,fs⟩ s.1/\(s.2=false->Stable jR fs.xs s.1))) (fun s=>2*ui s.1+if s.2=true then 1 else 0) (bs.xs,true) ?_ ?_ ?_ ?_
 .decide
 .exact ⟨by simp,aB,hg,⟨E5.h,fun h=>by cases h⟩⟩
 .have:=Vz qD.h (L:=bs.xs) (aR.refl _);simp only [zz,if_true];omega
 clear E5 hg aB;rintro ⟨L0,b⟩ env H ⟨g6,aB,hg,hJ⟩;simp only at g6 hg;have hL0:Hide (L0.length=bs.xs.length):=⟨hJ.h.1.hold.sub.1⟩
 have rW:=Hide.mk hg
 cases b with
 | false =>
  have Au:r=some L0:=hJ.h.1.hold.stop (hJ.h.2 rfl) vV.h;subst Au;obtain ⟨ids,iw⟩:=sI (n:=9) (f:=Box.cells) (sz:=4) (fun _=>rfl) hg hL0.h;rw [VC.h];clear hJ vV;simp [*,zb]
 | true =>
  have Jj:=Hide.mk (PJ.start hJ.h.1);have fF:=Hide.mk (Vz qD.h (L:=L0) hJ.h.1.hold.sub);clear hJ hg;(repeat' first|simp [*,zb]|(apply za<;>intro _ h<;>try simp [-Nat.le_zero_eq] at h))
  refine zA [(2,3),(6,11),(27,85)] (fun (i:Nat) env H=>env 27=.pure (.int .i64 i)/\i<=bs.xs.length/\∃ c:Bool,env 6=.pure (.bool c)/\id < H.nx/\∃ L,H.get id=.cells true (zq Box.cells L)/\Hide (PJ ⟨bs,fs⟩ L0 L c i 0)) (fun i=>bs.xs.length - i) 0 ?_ ?_ ?_ ?_
  .decide
  .exact ⟨by simp,by omega,false,by simp,aB,L0,rW.h,Jj⟩
  .simp only [zz];omega
  clear Jj g6 aB rW;rintro i env H ⟨g27,hi,c,g6,aB,L,hg,hP⟩;have Qn:Hide (L.length=bs.xs.length):=⟨hP.h.BA.hold.sub.1⟩
  by_cases aK:i < bs.xs.length
  .have w0:IntKind.i64.wrap ((i:Int)+1)=(i+1:Nat):=by rw [wrap64 (by omega) (by omega)];omega
   have jM:(i:Int) < bs.xs.length:=by omega
   have hAb:=fun H=>zf (G:=G) (n:=n+6) (H:=H) (caps:=[]) (ps:=[fs.pv Fact.cells 9,(Sl.mk false (jQ fs.xs.length)).pv aF 1,.int .i64 i]) ztx (e106 (n+4) fs (Sl.mk false (jQ fs.xs.length)) i (Oe _) (by simp [Ku];omega));simp only [List.map] at hAb;(repeat' first|simp [*,zb]|(apply za<;>intro _ h<;>try simp [-Nat.le_zero_eq] at h))
   refine zA [(2,3),(6,6),(9,11),(35,84)] (fun (k:Nat) env H=>env 35=.pure (.int .i64 k)/\k<=4/\∃ c:Bool,env 6=.pure (.bool c)/\id < H.nx/\∃ L,H.get id=.cells true (zq Box.cells L)/\Hide (PJ ⟨bs,fs⟩ L0 L c i k)) (fun k=>4 - k) 0 ?_ ?_ ?_ ?_
   .decide
   .exact ⟨by simp,by omega,c,by simp [g6],aB,L,hg,hP⟩
   .simp only [zz];omega
   have g27':=g27;clear g27 g6 aB hg hP Qn;rintro k env H ⟨g35,hk,c,g6,aB,L,hg,hP⟩;have Qn:Hide (L.length=bs.xs.length):=⟨hP.h.BA.hold.sub.1⟩
   by_cases nE:k < 4
   .have w1:IntKind.i64.wrap ((k:Int)+1)=(k+1:Nat):=by rw [wrap64 (by omega) (by omega)];omega
    have Hu:(k:Int) < 4:=by omega
    have q1:=zpf k;have q2:=zoK k;have u1:IntKind.i64.wrap ((k / 2:Nat):Int)=(k / 2:Nat):=wrap64 (by omega) (by omega);obtain ⟨ax,DD⟩:∃ ax:Nat,ax=k / 2:=⟨_,rfl⟩
    obtain ⟨xS,LZ⟩:∃ m:Nat,m=k % 2:=⟨_,rfl⟩
    rw [<- DD] at q1 u1;rw [<- LZ] at q2;have Bt:Hide ((Fv i k).cells=[.int .i64 i,.int .i64 ax,.bool (decide (xS=1))]):=⟨by simp [Fv,Side.cells,DD,LZ]⟩
    have L6:=Hide.mk DD;have L8:=Hide.mk LZ;clear DD LZ;have hWJ:=Hide.mk hP.h.while;clear hP;(repeat' first|simp [*,zb]|(apply za<;>intro _ h<;>try simp [-Nat.le_zero_eq] at h));generalize VD:decide ((xS:Int)=1)=hb at *;have L9:=Hide.mk VD;have Bt:Hide ((Fv i k).cells=[.int .i64 i,.int .i64 ax,.bool hb]):=⟨by
     rw [Bt.h,<- VD];simp;omega⟩
    clear VD;have bC:id≠H.nx:=by omega
    refine zA [(2,3),(6,6),(11,11),(45,83)] (fun (s:List Box) env H2=>∃ c:Bool,env 6=.pure (.bool c)/\H.nx < H2.nx/\H2.get id=.cells true (zq Box.cells s)/\H2.get H.nx=.cells true [.pure (.int .i64 i),.pure (.int .i64 ax),.pure (.bool hb)]/\Hide (WJ ⟨bs,fs⟩ L0 s c i k)) ui L ?_ ?_ ?_ ?_
    .decide
    .exact ⟨c,by simp [g6],by simp,by rw [zg bC,zi aB];exact hg,by simp,hWJ⟩
    .have:=Vz qD.h (L:=L) hWJ.h.wj.hold.sub;simp only [zz];omega
    have g35':=g35;clear g35 g6 hg Qn hWJ q1 q2 u1;rintro s env H2 ⟨c,g6,aD,hg,wJ,hJ⟩;have xK:s.length=bs.xs.length:=hJ.h.wj.hold.sub.1;have nk:i < s.length:=by omega
    have jD:id < H2.nx:=zo hg;obtain ⟨s1,AP,Hw⟩:=Ha (n:=10) (f:=Box.cells) (sz:=4) (fun _=>rfl) hg xK;have c1:=e107 (n+4) s1 i k (by rw [AP];exact nk) nE (by rw [AP];omega);rw [AP,Bt.h] at c1;have Mc:=hJ.h.wj.hold.wf;have rP:=hJ.h.wj.hold.sub;have c2:=Qm.h (Sl.of (sO fs.xs (jQ fs.xs.length) i)) (Sl.mk false (jP s i k)) (by rw [Sl.fP];exact zin _ _) (by rw [Sl.fP];have:=zjY fs.xs i;omega) (by rw [Sl.bL];exact (YX Mc nk k).trans rP) (by rw [Sl.bL];exact YW Mc nk k);rw [Sl.fP,Sl.bL] at c2;have c3:=fun H=>zf (G:=G) (n:=n+6) (H:=H) (caps:=[]) (ps:=[fs.pv Fact.cells 9,(Sl.of (sO fs.xs (jQ fs.xs.length) i)).pv aF 1,(Sl.mk false (jP s i k)).pv Box.cells 4]) sh74 c2;simp only [List.map] at c3;have wG:=aH.1 (Ed qD.h rP Mc _ (List.getElem_mem nk));have VE:=Hide.mk xK;have p1:=Vp nk;have p2:=Vq nk;have p3:=Vr nk;have p4:=Vs nk;have r3:=zC (own:=true) (f:=Box.cells) (sz:=4) (l:=s) (i:=i) (size:=1) (off:=3) (fun _=>rfl) nk (by decide);have e3:i*4+2+1=i*4+3:=rfl;have v1:IntKind.i64.wrap (s[i].x.lo+1)=s[i].x.lo+1:=wrap64 (by omega) (by omega);have v2:IntKind.i64.wrap (s[i].x.hi - 1)=s[i].x.hi - 1:=wrap64 (by omega) (by omega);have v3:IntKind.i64.wrap (s[i].y.lo+1)=s[i].y.lo+1:=wrap64 (by omega) (by omega);have v4:IntKind.i64.wrap (s[i].y.hi - 1)=s[i].y.hi - 1:=wrap64 (by omega) (by omega);clear c2 Mc rP wG xK AP;have LY:=Hide.mk (sQ (fs:=fs.xs) (l:=jP s i k) (i:=i));generalize hBv:fI fs.xs (jP s i k) (sO fs.xs (jQ fs.xs.length) i)=B2 at *;clear hBv;(repeat' first|simp [*,zb]|(apply za<;>intro _ h<;>try simp [-Nat.le_zero_eq] at h))
    refine LC (caps:=[]) (ps:=[_,_]) (by decide) (.cons Hw (.cons (.pure _) .nil)) c1 (YY _) ?_
    clear c1 Hw
    by_cases Og:0<=B2
    case neg =>
     have hPx:=Hide.mk (hJ.h.exit qD.h nk nE (fun h=>Og (LY.h.2 h)));clear LY hJ p1 p2 p3 p4 r3;(repeat' first|simp [*,zb]|(apply za<;>intro _ h<;>try simp [-Nat.le_zero_eq] at h))
     refine ⟨k+1,by omega,by omega,by omega,?_⟩
     cases c with
     | false=>exact .inl ⟨rfl,s,rfl,hPx⟩
     | true=>exact .inr ⟨rfl,s,rfl,hPx⟩
    case pos =>
     have qd:=LY.h.1 Og;clear LY;have Qo:k=0\/k=1\/k=2\/k=3:=by omega
     rcases Qo with rfl|rfl|rfl|rfl
     .have Jo:ax=0:=L6.h;have pg:hb=false:=by rw [<- L9.h,L8.h];rfl
      subst Jo;subst pg;have hW:=fun ht:¬ s[i].x.lo=s[i].x.hi=>hJ.h.step qD.h nk (show 0 < 4 by omega) qd (fun e=>ht (by simpa [mI] using e));have hE:=fun ht:s[i].x.lo=s[i].x.hi=>hJ.h.wj.empty qD.h nk (show 0 < 4 by omega) qd (by simpa [mI] using ht);rw [I7 nk] at hW;have hW:=Hide.mk hW;have hE:=Hide.mk hE;have Jp:=Hide.mk hJ.h.wj.hold.sub.1;clear hJ qd
      by_cases Jq:s[i].x.lo=s[i].x.hi
      .have vW:r=none:=vV.h.unique (hE.h Jq);subst vW;clear hW hE vV;simp [*,zb]
      .obtain ⟨Ef,Eg⟩:=hW.h Jq;have Ef:=Hide.mk Ef;have Eg:=Hide.mk Eg;clear hW hE;(repeat' first|simp [*,zb]|(apply za<;>intro _ h<;>try simp [-Nat.le_zero_eq] at h))
       refine ⟨_,Eg.h,rfl,?_,Ef⟩
       rw [zg (Ne.symm bC)]
       simpa using wJ
     .have Jo:ax=0:=L6.h;have pg:hb=true:=by rw [<- L9.h,L8.h];rfl
      subst Jo;subst pg;have hW:=fun ht:¬ s[i].x.lo=s[i].x.hi=>hJ.h.step qD.h nk (show 1 < 4 by omega) qd (fun e=>ht (by simpa [mI] using e));have hE:=fun ht:s[i].x.lo=s[i].x.hi=>hJ.h.wj.empty qD.h nk (show 1 < 4 by omega) qd (by simpa [mI] using ht);rw [I7 nk] at hW;have hW:=Hide.mk hW;have hE:=Hide.mk hE;have Jp:=Hide.mk hJ.h.wj.hold.sub.1;clear hJ qd
      by_cases Jq:s[i].x.lo=s[i].x.hi
      .have vW:r=none:=vV.h.unique (hE.h Jq);subst vW;clear hW hE vV;simp [*,zb]
      .obtain ⟨Ef,Eg⟩:=hW.h Jq;have Ef:=Hide.mk Ef;have Eg:=Hide.mk Eg;clear hW hE;(repeat' first|simp [*,zb]|(apply za<;>intro _ h<;>try simp [-Nat.le_zero_eq] at h))
       refine ⟨_,Eg.h,rfl,?_,Ef⟩
       rw [zg (Ne.symm bC)]
       simpa using wJ
     .have Jo:ax=1:=L6.h;have pg:hb=false:=by rw [<- L9.h,L8.h];rfl
      subst Jo;subst pg;have hW:=fun ht:¬ s[i].y.lo=s[i].y.hi=>hJ.h.step qD.h nk (show 2 < 4 by omega) qd (fun e=>ht (by simpa [mI] using e));have hE:=fun ht:s[i].y.lo=s[i].y.hi=>hJ.h.wj.empty qD.h nk (show 2 < 4 by omega) qd (by simpa [mI] using ht);rw [I7 nk] at hW;have hW:=Hide.mk hW;have hE:=Hide.mk hE;have Jp:=Hide.mk hJ.h.wj.hold.sub.1;clear hJ qd
      by_cases Jq:s[i].y.lo=s[i].y.hi
      .have vW:r=none:=vV.h.unique (hE.h Jq);subst vW;clear hW hE vV;simp [*,zb]
      .obtain ⟨Ef,Eg⟩:=hW.h Jq;have Ef:=Hide.mk Ef;have Eg:=Hide.mk Eg;clear hW hE;(repeat' first|simp [*,zb]|(apply za<;>intro _ h<;>try simp [-Nat.le_zero_eq] at h))
       refine ⟨_,Eg.h,rfl,?_,Ef⟩
       rw [zg (Ne.symm bC)]
       simpa using wJ
     .have Jo:ax=1:=L6.h;have pg:hb=true:=by rw [<- L9.h,L8.h];rfl
      subst Jo;subst pg;have hW:=fun ht:¬ s[i].y.lo=s[i].y.hi=>hJ.h.step qD.h nk (show 3 < 4 by omega) qd (fun e=>ht (by simpa [mI] using e));have hE:=fun ht:s[i].y.lo=s[i].y.hi=>hJ.h.wj.empty qD.h nk (show 3 < 4 by omega) qd (by simpa [mI] using ht);rw [I7 nk] at hW;have hW:=Hide.mk hW;have hE:=Hide.mk hE;have Jp:=Hide.mk hJ.h.wj.hold.sub.1;clear hJ qd
      by_cases Jq:s[i].y.lo=s[i].y.hi
      .have vW:r=none:=vV.h.unique (hE.h Jq);subst vW;clear hW hE vV;simp [*,zb]
      .obtain ⟨Ef,Eg⟩:=hW.h Jq;have Ef:=Hide.mk Ef;have Eg:=Hide.mk Eg;clear hW hE;(repeat' first|simp [*,zb]|(apply za<;>intro _ h<;>try simp [-Nat.le_zero_eq] at h))
       refine ⟨_,Eg.h,rfl,?_,Ef⟩
       rw [zg (Ne.symm bC)]
       simpa using wJ
   .have wR:k=4:=by omega
    subst wR;have rV:=Hide.mk hP.h.Jm;clear hP;(repeat' first|simp [*,zb]|(apply za<;>intro _ h<;>try simp [-Nat.le_zero_eq] at h))
    refine ⟨i+1,by omega,rfl,by omega,?_⟩
    cases c with
    | false=>exact .inl ⟨rfl,L,rfl,rV⟩
    | true=>exact .inr ⟨rfl,L,rfl,rV⟩
  .have qy:i=bs.xs.length:=by omega
   subst qy;have rV:=hP.h;rw [<- Qn.h] at rV;have bu:=Hide.mk rV.done;have IA:=Hide.mk rV.BA;have hle:=Hide.mk rV.less;have Ag:=Hide.mk rV.same;clear hP rV;(repeat' first|simp [*,zb]|(apply za<;>intro _ h<;>try simp [-Nat.le_zero_eq] at h))
   refine ⟨L,?_⟩
   cases c with
   | false=>exact .inl ⟨by rw [(Ag.h rfl).1];omega,rfl,rfl,⟨IA.h,bu.h rfl⟩⟩
   | true=>exact .inr ⟨hle.h rfl,rfl,rfl,⟨IA.h⟩⟩
def iN:Option (List Pt)->PV
 | none=>.nils
 | some c=>(Sl.mk false c).pv Pt.cells 2
def mV (o:Option (List Pt)):List PV:=[iN o]
@[simp] theorem zvR (o:Option (List Pt)):AV.one (.pure (iN o))=true:=by cases o<;>rfl
theorem zth (o:Option (List Pt)):PV.one (iN o)=true:=by cases o<;>rfl
theorem zmR (o:Option (List Pt)):(mV o).length=1:=rfl
theorem zrv (o:Option (List Pt)):(mV o).all PV.one=true:=by simp [mV,zth]
theorem zpT {l:List (Option (List Pt))} {i:Nat} {a:Option (List Pt)} (h:i < l.length):vK (.cells true (zq mV l)) 1 i [.pure (iN a)]=some (.cells true (zq mV (l.set i a))):=by
 have:=Fj (f:=mV) (sz:=1) (a:=a) zmR zrv (by decide) h;rwa [Nat.mul_one] at this
theorem znj {own:Bool} {l:List (Option (List Pt))} {i:Nat} (h:i < l.length):Fh (.cells own (zq mV l)) 1 i=some [.pure (iN l[i])]:=Lx zmR h
def qi (sz len:Nat) (v i:AV):Option Eff:=match i with
 | .pure (.int _ n)=>if 0<=n then (if n < len then match v with
    | .pure (.ptr k cs o)=>some (.val (.pure (.ptr k cs (o+n.toNat*sz))))
    | .box id o=>some (.val (.box id (o+n.toNat*sz)))
    | _=>none else none)
   else none
 | _=>none
theorem zU {cl:Callee} {env:Env} {H:Heap} (sz len:Nat) (x i:ag):step cl env H (.indexAddr sz (some len) x i)=qi sz len (x.eval env) (i.eval env):=by
 simp only [step,qi];rfl
theorem zqe {k:IntKind} {sz len n id o:Nat} (h:n < len):qi sz len (.box id o) (.pure (.int k n))=some (.val (.box id (o+n*sz))):=by
 simp only [qi];rw [if_pos (by omega),if_pos (by omega)];simp
theorem zh7 (c:List Pt):((Sl.mk false c).pv Pt.cells 2).cold=true:=by
 simp [Sl.pv,PV.cold,PV.iR,Pt.cells]
theorem ziy {H:Heap} {pid m:Nat} {c:List Pt} (hp:H.get pid=.cells true (zq Pt.cells c)) (hc:c.length=m):FrzL H true qP ([.row pid 2 0 m]++([]:List PV).map .pure) [(Sl.mk true c).pv Pt.cells 2]:=by
 subst hc;have qg:∀ l:List Pt,chunks 2 l.length ((l.map Pt.cells).flatten)=l.map Pt.cells:=by
  intro l
  induction l with
  | nil=>rfl
  | cons a l ih=>simp only [List.length_cons,chunks,List.map_cons,List.flatten_cons];rw [List.take_left' (by rfl),List.drop_left' (by rfl),ih]
 refine .cons ?_ .nil
 obtain ⟨s,hs,hf⟩:=Ha (n:=10) (f:=Pt.cells) (sz:=2) (fun _=>rfl) hp rfl;obtain ⟨ids,iw⟩:=hf
 refine ⟨ids,iw.trans ?_⟩
 cases s with
 | nil =>
  exfalso;have h0:c=[]:=hs.symm;subst h0;unfold freeze at iw;simp [hp,Su,zX,Sl.pv] at iw
 | mk h xs =>
  have hx:xs=c:=hs;subst hx
  cases h with
  | true=>rfl
  | false =>
   exfalso;unfold freeze at iw;simp only [hp] at iw
   split at iw
   .split at iw
    .simp [Sl.pv] at iw
    .simp at iw
   .simp at iw
def Jr (part:List Nat) (jV:Nat) (A:Acc):List AV:=[.pure (lD part),.pure (.int .i64 A.n),.row jV 4 0 part.length,.pure (iN A.first)]
def VF (m:Nat) (c:List Pt):Prop:=c.length=m/\∀ x∈c,mO x
def okB (m:Nat) (B:List (Option (List Pt))):Prop:=B.length=4*m/\∀ o∈B,∀ d,o=some d->VF m d
theorem zuQ {m:Nat} {B:List (Option (List Pt))} {c:List Pt} (h:okB m B) (hc:VF m c) (t:Nat):okB m (qC B c t):=by
 refine ⟨by rw [Qj];exact h.1,fun o ho d hd=>?_⟩
 obtain ⟨j,hj,e⟩:=List.mem_iff_getElem.1 ho;have o8:j < B.length:=by rw [Qj] at hj;exact hj
 simp only [qC,List.getElem_mapIdx] at e;subst hd
 split at e
 .unfold Gl at e
  split at e
  .rename_i h0;simp only [Option.some.injEq] at e;subst e;exact hc
  .rename_i d' h0
   split at e
   .simp only [Option.some.injEq] at e;subst e;exact hc
   .exact h.2 _ (List.getElem_mem o8) d (h0.trans e)
 .exact h.2 _ (List.getElem_mem o8) d e
theorem zm0 {n:Nat} {H:Heap} {jV oz sb pid pb:Nat} {c1 c2 c3 c4 c5:AV} {part:List Nat} {A:Acc} {c:List Pt} {k:AV->Heap->Prop}
  (o:jV < oz/\oz < sb/\sb < pid/\pid < pb) (Iz:0 < part.length) (hm:part.length<=12) (hc:VF part.length c) (hA:okB part.length A.best) (hn:A.n < 4000000000000000000)
  (S9:H.get sb=.cells true [.box oz 0]) (U6:H.get pb=.cells true [.row pid 2 0 part.length])
  (hs:H.get oz=.cells true (Jr part jV A)) (he:H.get jV=.cells true (zq mV A.best)) (hp:H.get pid=.cells true (zq Pt.cells c))
  (hk:∀ H',H.nx<=H'.nx->(∀ j,j < H.nx->j≠oz->j≠jV->H'.get j=H.get j)->H'.get oz=.cells true (Jr part jV (Dc A c))->H'.get jV=.cells true (zq mV (Dc A c).best)->k (.aQ []) H') :
  ∃ v H',Vm.call G (n+2) (.fn 114) ([.pure (.int .i64 part.length),.pure (.ptr false [lD part] 0),.box sb 0,.box pb 0,c1,c2,c3,c4,c5]) H=some (v,H')/\k v H':=by
 refine F8 rfl g114 rfl ?_
 obtain ⟨m,VG⟩:∃ m,m=part.length:=⟨_,rfl⟩
 have bW:c.length=m:=by rw [VG];exact hc.1
 have hkH:=Hide.mk hk;have KC:=Hide.mk hc;have hAH:=Hide.mk hA;clear hk hc hA;have jy:Hide (c≠[]):=⟨by intro h;rw [h] at bW;simp at bW;omega⟩
 have cl:=fun (H:Heap)=>(e115 n true c jy.h (by omega))
 have KD:=Hide.mk VG;have hAn:=Hide.mk hn;have d1:sb≠oz:=by omega
 have d2:pb≠oz:=by omega
 have d3:pid≠oz:=by omega
 have d4:jV≠oz:=by omega
 have e1:sb≠jV:=by omega
 have e2:pb≠jV:=by omega
 have e3:pid≠jV:=by omega
 have e4:oz≠jV:=by omega
 have lt1:=zo hs;have lt2:=zo he;have lt3:=zo S9;have lt4:=zo U6;have lt5:=zo hp;have o9:((part.map fun (k:Nat)=>[PV.int .i64 (k:Int)]).length)=part.length:=by simp
 obtain ⟨S,hS⟩:∃ S,S=aP.cells true (Jr part jV (Dc A c)):=⟨_,rfl⟩
 have hS2:Fh S 1 2=some [.row jV 4 0 part.length]:=by rw [hS];rfl
 have Y0:Dc A c=⟨A.n+1,if A.n=0 then some c else A.first,A.best.mapIdx fun j o=>Gl (lG j) o c⟩:=rfl;have Ta:=Hide.mk hS;have VH:=Hide.mk Y0;unfold Jr at hs;obtain ⟨pp,AQ⟩:∃ pp,pp=lD part:=⟨_,rfl⟩
 have hpe:Hide (pp=lD part):=⟨AQ⟩
 have hlp:J6 (.pure pp)=some (.val (.pure (.int .i64 part.length))):=by rw [AQ];simp [lD]
 have aA:AV.cells (.pure pp)=[.pure pp]:=by rw [AQ];rfl
 have G8:AV.one (.pure pp)=true:=by rw [AQ];rfl
 have hbT:=Hide.mk (fun i j (hi:i < part.length) (hj:j < 4)=>((by rw [hAH.h.1];omega:i*4+j < A.best.length)));rw [<- AQ] at hs ⊢;clear AQ VG hS Y0;have bzH:=Hide.mk (zm5 A.best c)
 by_cases h1:A.n=0
 case' neg =>
  obtain ⟨N1,VI⟩:∃ N1:Int,N1=(A.n:Int)+1:=⟨_,rfl⟩
  have hI:¬ N1=1:=by omega
  have w1:IntKind.i64.wrap ((A.n:Int)+1)=N1:=by rw [wrap64 (by omega) (by omega)];omega
  have Tc:Hide (aP.cells true [.pure pp,.pure (.int .i64 N1),.row jV 4 0 part.length,.pure (iN A.first)]=S):=⟨by
   rw [Ta.h,VH.h,hpe.h,VI];simp [Jr,h1]⟩
  clear VI hn h1;generalize (A.n:Int)=N at *;(repeat' first|simp [*,zb,c114,zH]|(apply za<;>intro _ h<;>try simp [-Nat.le_zero_eq] at h))
  refine zA [(10,13),(38,80)] (fun (i:Nat) env H2=>env 38=.pure (.int .i64 i)/\i<=part.length/\H.nx<=H2.nx/\Hide (∀ j,j < H.nx->j≠oz->j≠jV->H2.get j=H.get j)/\H2.get oz=S/\H2.get jV=.cells true (zq mV (qC A.best c (i*4)))) (fun i=>part.length - i) 0 ?_ ?_ ?_ ?_
  .decide
  .refine ⟨by simp,by omega,by simp,⟨fun j h1 h2 h3=>by simp [*]⟩,?_,?_⟩
   .rw [zn (by simp [*]),Tc.h]
   .rw [Nat.zero_mul,bzH.h];simp [*]
  .simp only [zz];omega
 case' pos =>
  have w1:IntKind.i64.wrap ((A.n:Int)+1)=1:=by rw [h1];rfl
  have Tc:Hide (aP.cells true [.pure pp,.pure (.int .i64 1),.row jV 4 0 part.length,.pure ((Sl.mk false c).pv Pt.cells 2)]=S):=⟨by
   rw [Ta.h,VH.h,hpe.h];simp [Jr,h1,iN]⟩
  have BC:∀ H2:Heap,H2.get pid=H.get pid->FrzL H2 true qP ([.row pid 2 0 part.length]++([]:List PV).map .pure) [(Sl.mk true c).pv Pt.cells 2]:=fun H2 h=>ziy (h.trans hp) KC.h.1;have hpcH:=Hide.mk BC;clear hn h1 BC;generalize (A.n:Int)=N at *;(repeat' first|simp [*,zb,c114,zH]|(apply za<;>intro _ h<;>try simp [-Nat.le_zero_eq] at h))
  refine LC (caps:=[]) zrR (hpcH.h _ ?_) (cl H) (zh7 c) ?_
  .simp [*]
  (repeat' first|simp [*,zb,zH]|(apply za<;>intro _ h<;>try simp [-Nat.le_zero_eq] at h))
  refine zA [(10,13),(38,80)] (fun (i:Nat) env H2=>env 38=.pure (.int .i64 i)/\i<=part.length/\H.nx<=H2.nx/\Hide (∀ j,j < H.nx->j≠oz->j≠jV->H2.get j=H.get j)/\H2.get oz=S/\H2.get jV=.cells true (zq mV (qC A.best c (i*4)))) (fun i=>part.length - i) 0 ?_ ?_ ?_ ?_
  .decide
  .refine ⟨by simp,by omega,by simp,⟨fun j h1 h2 h3=>by simp [*]⟩,?_,?_⟩
   .rw [zn (by simp [*]),Tc.h]
   .rw [Nat.zero_mul,bzH.h];simp [*]
  .simp only [zz];omega
 all_goals
  clear Tc hs he o9 hlp aA G8;rintro i env H2 ⟨g38,hi,bU,ah,sN,rQ⟩;have hsb2:H2.get sb=.cells true [.box oz 0]:=by rw [ah.h sb (by omega) (by omega) (by omega)];exact S9
  have hpb2:H2.get pb=.cells true [.row pid 2 0 part.length]:=by rw [ah.h pb (by omega) (by omega) (by omega)];exact U6
  have hp2:H2.get pid=.cells true (zq Pt.cells c):=by rw [ah.h pid (by omega) (by omega) (by omega)];exact hp
  by_cases aK:i < part.length
  .have w2:IntKind.i64.wrap ((i:Int)+1)=(i+1:Nat):=by rw [wrap64 (by omega) (by omega)];omega
   have jM:(i:Int) < part.length:=by omega
   have Oh:i < c.length:=by have:=KD.h;omega
   have Uf:=Hide.mk (KC.h.2 c[i] (List.getElem_mem Oh));obtain ⟨x,y,Pm⟩:∃ x y,c[i]=⟨x,y⟩:=⟨c[i].x,c[i].y,rfl⟩
   have rp:=zn0 (own:=true) (f:=Pt.cells) (sz:=2) (l:=c) (i:=i) (size:=2) (fun _=>rfl) Oh (Nat.le_refl _);rw [Pm] at rp;simp only [Pt.cells,List.take,List.map] at rp;have VJ:=Hide.mk Pm;clear Pm;have lt6:=zo rQ;have hbnd:=hbT.h i;(repeat' first|simp [*,zb]|(apply za<;>intro _ h<;>try simp [-Nat.le_zero_eq] at h))
   refine zA [(12,13),(43,79)] (fun (t:Nat) env H3=>env 43=.pure (.int .i64 t)/\t<=4/\H2.nx < H3.nx/\Hide (∀ j,j < H.nx->j≠oz->j≠jV->H3.get j=H.get j)/\H3.get oz=S/\H3.get jV=.cells true (zq mV (qC A.best c (i*4+t)))/\H3.get H2.nx=.cells true [.pure (.int .i64 x),.pure (.int .i64 y)]) (fun t=>4 - t) 0 ?_ ?_ ?_ ?_
   .decide
   .refine ⟨by simp,by omega,by simp,⟨fun j h1 h2 h3=>?_⟩,?_,?_,?_⟩
    .rw [zg (by omega),zi (by omega)];exact ah.h j h1 h2 h3
    .rw [zg (by omega),zi (by omega)];exact sN
    .rw [zg (by omega),zi (by omega)];exact rQ
    .rw [zn (by simp)]
   .simp only [zz];omega
   have g38':=g38;clear g38 ah sN rQ hsb2 hpb2 hp2;rintro t env H3 ⟨g43,ht,Ad,ah,hs3,he3,R5⟩;have hsb3:H3.get sb=.cells true [.box oz 0]:=by rw [ah.h sb (by omega) (by omega) (by omega)];exact S9
   have hpb3:H3.get pb=.cells true [.row pid 2 0 part.length]:=by rw [ah.h pb (by omega) (by omega) (by omega)];exact U6
   have hp3:H3.get pid=.cells true (zq Pt.cells c):=by rw [ah.h pid (by omega) (by omega) (by omega)];exact hp
   by_cases h4:t < 4
   .have w3:IntKind.i64.wrap ((t:Int)+1)=(t+1:Nat):=by rw [wrap64 (by omega) (by omega)];omega
    have h4I:(t:Int) < 4:=by omega
    have VK:=hbT.h i t aK h4;have Y1:i*4+t < (qC A.best c (i*4+t)).length:=by rw [Qj];exact VK
    have ra:=znj (own:=true) Y1;rw [zov] at ra;have lS:=zpT (a:=some c) Y1;have Eh:=zqe (k:=.i64) (sz:=1) (len:=4) (n:=t) (id:=jV) (o:=i*4) h4;rw [Nat.mul_one] at Eh;have AL:lG (i*4+t) c=lU ⟨x,y⟩ t:=by
     unfold lG;rw [show (i*4+t) / 4=i by omega,show (i*4+t) % 4=t by omega,getElem!_pos c i Oh,VJ.h]
    have bu:=Hide.mk (znr A.best c (i*4+t) VK);have Bt:=Hide.mk (zl5 A.best c (i*4+t) VK);have Qp:=Hide.mk (hAH.h.2 _ (List.getElem_mem VK));have Qq:=Hide.mk AL;have Hz:i*4+(t+1)=i*4+t+1:=rfl;have d5:jV≠H2.nx:=by omega
    have d6:H2.nx≠jV:=by omega
    have hnxe:jV < H3.nx:=by omega
    generalize hO:A.best[i*4+t]'VK=O at *
    cases O with
    | none =>
     have ug:Hide ((qC A.best c (i*4+t)).set (i*4+t) (some c)=qC A.best c (i*4+(t+1))):=⟨by rw [Hz];exact bu.h (by rfl)⟩
     have hb:iE .eql .slice (.pure (iN none)) (.pure .nils)=some (.pure (.bool true)):=rfl;clear bu Bt Qp AL Qq hO Y1 Hz;(repeat' first|simp [*,zb,zH,zU]|(apply za<;>intro _ h<;>try simp [-Nat.le_zero_eq] at h))
     refine LC (caps:=[]) zrR (ziy hp3 KC.h.1) (cl H3) (zh7 c) ?_
     have wF:AV.cells (.pure ((Sl.mk false c).pv Pt.cells 2))=[.pure (iN (some c))]:=rfl;have xY:=lS;rw [ug.h] at xY;clear lS;(repeat' first|simp [*,zb,zH,zU]|(apply za<;>intro _ h<;>try simp [-Nat.le_zero_eq] at h))
     refine ⟨t+1,by omega,by omega,by omega,⟨fun j h1 h2 h3=>?_⟩,rfl⟩
     rw [zg h3];exact ah.h j h1 h2 h3
    | some d =>
     obtain ⟨VL,Md⟩:=Qp.h d rfl;have aB:i < d.length:=by omega
     have R3:=Md d[i] (List.getElem_mem aB);obtain ⟨u,v,Y2⟩:∃ u v,d[i]=⟨u,v⟩:=⟨d[i].x,d[i].y,rfl⟩
     have hkd:lG (i*4+t) d=lU ⟨u,v⟩ t:=by
      unfold lG;rw [show (i*4+t) / 4=i by omega,show (i*4+t) % 4=t by omega,getElem!_pos d i aB,Y2]
     have Me:=Uf.h;rw [VJ.h] at Me;rw [Y2] at R3;have k1:=fun H=>zf (G:=G) (n:=n+1) (H:=H) (caps:=[]) (ps:=[.agg (Pt.mk x y).cells,.int .i64 t]) ztD (e116 n ⟨x,y⟩ t h4 Me.1 Me.2);have k2:=fun H=>zf (G:=G) (n:=n+1) (H:=H) (caps:=[]) (ps:=[.agg (Pt.mk u v).cells,.int .i64 t]) ztD (e116 n ⟨u,v⟩ t h4 R3.1 R3.2);have Js:yV 2 (.pure (iN (some d))) (.pure (.int .i64 i))=some (.val (.pure (.ptr false [.int .i64 u,.int .i64 v] 0))):=by
      have:=pR (k:=.i64) (f:=Pt.cells) (sz:=2) (s:=Sl.mk false d) (n:=i) (by simpa using aB)
      simpa [Y2,iN,Sl.uZ] using this
     have hb:iE .eql .slice (.pure (iN (some d))) (.pure .nils)=some (.pure (.bool false)):=zf2 rfl;simp only [Pt.cells,List.map] at k1 k2;have MB:Hide (Gl (lG (i*4+t)) (some d) c=if lU ⟨x,y⟩ t < lU ⟨u,v⟩ t then some c else some d):=⟨by unfold Gl;simp only [hkd,Qq.h]⟩
     generalize lU ⟨x,y⟩ t=K1 at *;generalize lU ⟨u,v⟩ t=K2 at *;clear AL Qq hO Y1 Hz Qp Md VL R3 Me hkd Y2
     by_cases hK:K1 < K2
     .have ug:Hide ((qC A.best c (i*4+t)).set (i*4+t) (some c)=qC A.best c (i*4+(t+1))):=⟨bu.h (by rw [MB.h,if_pos hK])⟩
      clear bu Bt MB;(repeat' first|simp [*,zb,zH,zU]|(apply za<;>intro _ h<;>try simp [-Nat.le_zero_eq] at h))
      refine LC (caps:=[]) zrR (ziy hp3 KC.h.1) (cl H3) (zh7 c) ?_
      have wF:AV.cells (.pure ((Sl.mk false c).pv Pt.cells 2))=[.pure (iN (some c))]:=rfl;have xY:=lS;rw [ug.h] at xY;clear lS;(repeat' first|simp [*,zb,zH,zU]|(apply za<;>intro _ h<;>try simp [-Nat.le_zero_eq] at h))
      refine ⟨t+1,by omega,by omega,by omega,⟨fun j h1 h2 h3=>?_⟩,rfl⟩
      rw [zg h3];exact ah.h j h1 h2 h3
     .have hsk2:Hide (qC A.best c (i*4+(t+1))=qC A.best c (i*4+t)):=⟨Bt.h (by rw [MB.h,if_neg hK])⟩
      clear bu Bt MB lS;(repeat' first|simp [*,zb,zH,zU]|(apply za<;>intro _ h<;>try simp [-Nat.le_zero_eq] at h));exact ⟨t+1,by omega,by omega,by omega,by rw [hsk2.h]⟩
   .have uk:t=4:=by omega
    subst uk;rw [show i*4+4=(i+1)*4 by omega] at he3;(repeat' first|simp [*,zb]|(apply za<;>intro _ h<;>try simp [-Nat.le_zero_eq] at h));exact ⟨i+1,by omega,by omega,by omega,by omega,rfl⟩
  .have aT:i=part.length:=by omega
   subst aT;have nM:=hkH.h H2 bU ah.h (by rw [sN,Ta.h]) (by rw [rQ,ziz _ _ _ (by have:=hAH.h.1;omega)];rfl);clear hkH ah;(repeat' simp [*,zb])
theorem ztN:G.shared 117=false:=by decide
theorem e117 (n:Nat) (b:Box):zF G (n+1) 117 [.agg b.cells]=some (.func 138 [.ptr false b.cells 0]):=by
 refine zy (zx _) rfl g117 rfl ?_
 simp [*,zb,c117,Box.cells,Span.cells]
theorem zjI:G.shared 114=true:=by decide
structure MC where
 oz:Nat
 jV:Nat
 sb:Nat
 pid:Nat
 pb:Nat
 aB:Nat
 hb:Nat
 mid:Nat
 mb:Nat
 cb:Nat
def ME (I:MC) (p:Problem) (l:Sl Box) (part:List Nat):List AV:=[.pure (.ptr false [lD part] 0),.box I.sb 0,.box I.pb 0,.pure (.ptr false [l.pv Box.cells 4] 0),.box I.hb 0,.pure (.ptr false p.cells 0),.box I.mb 0,.box I.cb 0]
structure xZ (I:MC) (p:Problem) (l:Sl Box) (part:List Nat) (ml:List (List Int)) (H:Heap):Prop where
 ord:I.jV < I.oz/\I.oz < I.sb/\I.sb < I.aB/\I.aB < I.hb/\I.hb < I.mb/\I.mb < I.mid/\I.mid < I.pid/\I.pid < I.pb/\I.pb < I.cb
 sb:H.get I.sb=.cells true [.box I.oz 0]
 pb:H.get I.pb=.cells true [.row I.pid 2 0 part.length]
 hb:H.get I.hb=.cells true [.row I.aB 4 0 l.xs.length]
 mb:H.get I.mb=.cells true [.row I.mid 1 0 part.length]
 mid:∃ xs:List AV,H.get I.mid=.cells true xs/\xs.length=part.length/\∀ k (h:k < xs.length),bP aF 1 H xs[k] ml[k]! /\ ∀ id,Names xs[k] id->I.mb < id/\id < I.pid
 cb:H.get I.cb=.cells true [.func 114 (ME I p l part)]
structure oO (I:MC) (H H':Heap):Prop where
 nx:H.nx<=H'.nx
 get:∀ j,j < H.nx->j≠I.oz->j≠I.jV->j≠I.pid->j≠I.aB->H'.get j=H.get j
theorem oO.refl (I:MC) (H:Heap):oO I H H:=⟨Nat.le_refl _,fun _ _ _ _ _ _=>rfl⟩
theorem oO.trans {I:MC} {H H1 H2:Heap} (h:oO I H H1) (h':oO I H1 H2):oO I H H2 :=
 ⟨Nat.le_trans h.nx h'.nx,fun j a b c d e=>(h'.get j (by have:=h.nx;omega) b c d e).trans (h.get j a b c d e)⟩
section
variable {I:MC} {p:Problem} {l:Sl Box} {part:List Nat} {ml:List (List Int)} {H H':Heap}
theorem xZ.lt (h:xZ I p l part ml H):I.cb < H.nx:=zo h.cb
theorem xZ.keep (h:xZ I p l part ml H) (k:oO I H H'):xZ I p l part ml H':=by
 have aK:=h.lt;have o:=h.ord;have g:∀ j,j < H.nx->j≠I.oz->j≠I.jV->j≠I.pid->j≠I.aB->H'.get j=H.get j:=k.get
 refine ⟨o,?_,?_,?_,?_,?_,?_⟩
 .rw [g _ (by omega) (by omega) (by omega) (by omega) (by omega)];exact h.sb
 .rw [g _ (by omega) (by omega) (by omega) (by omega) (by omega)];exact h.pb
 .rw [g _ (by omega) (by omega) (by omega) (by omega) (by omega)];exact h.hb
 .rw [g _ (by omega) (by omega) (by omega) (by omega) (by omega)];exact h.mb
 .obtain ⟨xs,h1,h2,h3⟩:=h.mid
  refine ⟨xs,?_,h2,fun k hk=>?_⟩
  .rw [g _ (by omega) (by omega) (by omega) (by omega) (by omega)];exact h1
  .obtain ⟨a,b⟩:=h3 k hk
   refine ⟨a.keep fun id ⟨m,hm⟩=>?_,b⟩
   have:=b id ⟨_,_,_,hm⟩;exact g _ (by omega) (by omega) (by omega) (by omega) (by omega)
 .rw [g _ (by omega) (by omega) (by omega) (by omega) (by omega)];exact h.cb
end
structure Jt (I:MC) (part:List Nat) (A:Acc) (pts:List Pt) (here:List Box) (H:Heap):Prop where
 s:H.get I.oz=.cells true (Jr part I.jV A)
 e:H.get I.jV=.cells true (zq mV A.best)
 p:H.get I.pid=.cells true (zq Pt.cells pts)
 h:H.get I.aB=.cells true (zq Box.cells here)
 best:okB part.length A.best
 pts:VF part.length pts
structure ChP (p:Problem) (l:Sl Box) (part:List Nat) (ml:List (List Int)):Prop where
 ok:ak p
 sub:aR l.xs p.boxes.xs
 wf:Wf l.xs
 nodup:part.Nodup
 lt:∀ i∈part,i < l.xs.length
 pos:0 < part.length
 few:part.length<=12
 ml:∀ k,k < part.length->vS p.facts.xs ml[k]! /\ (ml[k]!).length<=60/\∀ here,(fI p.facts.xs here ml[k]! < 0↔uj p.facts.xs part k here=true)
theorem zuj {p:Problem} {l:Sl Box} {part:List Nat} {ml:List (List Int)} (h:ChP p l part ml) {i:Nat} (hi:i < l.xs.length) {x:Pt} (hx:x∈uU l.xs[i]):mO x:=by
 have hv:=aH.1 (Ed h.ok h.sub h.wf _ (List.getElem_mem hi));have:=mem_places.1 hx;unfold bF at this;unfold mO;omega
theorem zpZ {n:Nat} {b:Box} (hb:mJ b=true) {env:Env} {H:Heap} {f:ag} {params:List Nat} {assign body:aX} {Q:fO->Env->Heap->Prop} {u} (hf:f.eval env=.pure (.func 138 [.ptr false b.cells 0])) (hp:params.length=1)
  (J:Nat->Nat->Heap->Prop)
  (Oi:∀ i k H1 H2,J i k H1->H.nx < H1.nx->H2.nx=H1.nx->(∀ j,j≠H.nx->H2.get j=H1.get j)->J i k H2)
  (h0:∀ H1,H1.nx=H.nx+1->(∀ j,j < H.nx->H1.get j=H.get j)->J 0 0 H1)
  (tY:∀ i H1,J i (b.y.hi - b.y.lo+1).toNat H1->J (i+1) 0 H1)
  (Bz:∀ i k H1,i < (b.x.hi - b.x.lo+1).toNat->k < (b.y.hi - b.y.lo+1).toNat->J i k H1->H.nx < H1.nx ->
   wp (zt G n) assign ((params.zip [.pure (.agg [.int .i64 (b.x.lo+i),.int .i64 (b.y.lo+k)])]).foldl (fun e x=>upd e x.1 x.2) env) H1 (fun x iB H2=>x=.normal/\H1.nx<=H2.nx/\(∀ j,j < H1.nx->H2.get j=H1.get j) /\
    ∀ Hb,Hb.nx=H2.nx->(∀ j,j≠H.nx->Hb.get j=H2.get j) ->
     wp (zt G n) body iB Hb (fun x _ H3=>x=.normal/\H3.get H.nx=Hb.get H.nx/\Hb.nx<=H3.nx/\J i (k+1) H3) .mk) .mk)
  (DW:∀ H',J (b.x.hi - b.x.lo+1).toNat 0 H'->Q .normal env H') :
  wp (zt G (n+2)) (.rangeFunc f params assign body) env H Q u:=by
 refine zk5 hf ?_
 obtain ⟨v,H2,h1,h2,h3⟩:=zlF n b hb (H.alloc (.loop { env,params,assign,body,state:=.ready,pending:=.normal })) H.nx { env,params,assign,body,state:=.ready,pending:=.normal } rfl rfl hp (F7 _) (fun i k H1=>H.nx < H1.nx/\J i k H1)
  ⟨by simp,h0 _ (by simp) fun j hj=>zi hj⟩ (fun i H1 h=>⟨h.1,tY i H1 h.2⟩)
  (fun i k H1 hi hk hJ ou=>by
   refine (Bz i k H1 hi hk hJ.2 hJ.1).mono ?_
   rintro x iB H2 ⟨rfl,rz,sN,hw⟩;have VM:H2.get H.nx=_:=(sN _ hJ.1).trans ou
   refine ⟨rfl,VM,?_⟩
   have aB:=TQ (H:=H2) (i:=H.nx) (by rw [VM];simp)
   refine (hw (H2.set H.nx (.loop { env,params,assign,body,state:=.busy,pending:=.normal })) rfl (fun j hj=>zg hj)).mono ?_
   rintro x Ll H3 ⟨rfl,g1,g3,g4⟩;have aK:H.nx < H3.nx:=by simp at g3;omega
   exact ⟨rfl,by rw [g1,zn aB],by simpa using aK,Oi _ _ _ _ g4 aK (by simp) fun j hj=>zg hj⟩)
 exact ⟨v,H2,h1,h2,DW _ (Oi _ _ _ _ h3.2 h3.1 (by simp) fun j hj=>zg hj)⟩
def zqZ (I:MC) (p:Problem) (l:Sl Box) (part:List Nat) (kk:Nat) (A:Acc) (pts:List Pt) (here:List Box) (H H':Heap):Prop :=
 oO I H H'/\∃ mW,Jt I part (((wZ (uj p.facts.xs part) l.xs (part.drop kk) kk here).map (pts.take kk ++ ·)).foldl Dc A) mW here H'/\mW.take kk=pts.take kk
theorem zmh {I:MC} {p:Problem} {l:Sl Box} {part:List Nat} {ml:List (List Int)} (hp:ChP p l part ml) :
  ∀ (d n kk:Nat) (H:Heap) (A:Acc) (pts:List Pt) (here:List Box),kk+d=part.length->xZ I p l part ml H->Jt I part A pts here H->aR here l.xs->Wf here ->
   (∀ j (h:j < part.length),kk<=j->here[part[j]]! = l.xs[part[j]]!)->A.n+(wZ (uj p.facts.xs part) l.xs (part.drop kk) kk here).length<=4000000000000000000 ->
   ∃ H',Vm.call G (n+8+3*d) (.fn 114) ([.pure (.int .i64 kk)]++ME I p l part) H=some (.aQ [],H')/\zqZ I p l part kk A pts here H H':=by
 intro d
 induction d with
 | zero =>
  intro n kk H A pts here wR fx st hs hw hl hn;have ek:kk=part.length:=by omega
  subst ek;rw [List.drop_length] at hn;simp only [wZ,List.length_cons,List.length_nil] at hn;have o:=fx.ord;have key:=zm0 (n:=n+6) (H:=H) (jV:=I.jV) (oz:=I.oz) (sb:=I.sb) (pid:=I.pid) (pb:=I.pb) (c1:=.pure (.ptr false [l.pv Box.cells 4] 0)) (c2:=.box I.hb 0) (c3:=.pure (.ptr false p.cells 0)) (c4:=.box I.mb 0) (c5:=.box I.cb 0) (part:=part) (A:=A) (c:=pts)
   (k:=fun v H'=>v=.aQ []/\zqZ I p l part part.length A pts here H H') ⟨by omega,by omega,by omega,by omega⟩ hp.pos hp.few st.pts st.best (by omega) fx.sb fx.pb st.s st.e st.p ?_
  .obtain ⟨v,H',h1,rfl,h2⟩:=key;exact ⟨H',h1,h2⟩
  .intro H' h1 h2 h3 h4;have aK:=fx.lt
   refine ⟨rfl,⟨h1,fun j a b c _ _=>h2 j a b c⟩,pts,?_,rfl⟩
   have e1:pts.take part.length=pts:=List.take_of_length_le (by rw [st.pts.1];exact Nat.le_refl _);rw [List.drop_length];simp only [wZ,List.map_cons,List.map_nil,List.append_nil,e1,List.foldl_cons,List.foldl_nil];have hpx:I.pid < H.nx:=by omega
   have hhx:I.aB < H.nx:=by omega
   refine ⟨h3,h4,?_,?_,?_,st.pts⟩
   .rw [h2 _ hpx (by omega) (by omega)];exact st.p
   .rw [h2 _ hhx (by omega) (by omega)];exact st.h
   .have:=zuQ st.best st.pts (A.best.length);rwa [ziz _ _ _ (Nat.le_refl _)] at this
 | succ d ih =>
  intro n kk H A pts here wR fx st hs hw hl hn;have hk:kk < part.length:=by omega
  have fu:n+8+3*(d+1)=n+8+3*d+2+1:=by omega
  rw [fu];obtain ⟨F,hF⟩:∃ F,F=n+8+3*d:=⟨_,rfl⟩
  have hF6:∃ F6,F=F6+6:=⟨n+2+3*d,by omega⟩
  have main:∃ v H',Vm.call G (F+2+1) (.fn 114) ([.pure (.int .i64 kk)]++ME I p l part) H=some (v,H')/\(v=.aQ []/\zqZ I p l part kk A pts here H H'):=by
   refine F8 rfl g114 rfl ?_
   have CW:yV 1 (.pure (lD part)) (.pure (.int .i64 kk))=some (.val (.pure (.ptr false [.int .i64 (part[kk]:Nat)] 0))):=Yg (by simp [hk]);have hlp:J6 (.pure (lD part))=some (.val (.pure (.int .i64 part.length))):=by simp [lD]
   have bC:¬ (kk:Int)=part.length:=by omega
   obtain ⟨q,hq⟩:∃ q,q=part[kk]:=⟨_,rfl⟩
   have VN:q < l.xs.length:=by rw [hq];exact hp.lt _ (List.getElem_mem hk)
   rw [<- hq] at CW;have Oj:(q:Int) < l.xs.length:=by omega
   have VC:=ztN;have hB:=fun H=>zf (G:=G) (n:=F+2) (H:=H) (caps:=[]) (ps:=[.agg l.xs[q].cells]) ztN (e117 (F+1) l.xs[q]);simp only [Box.cells,Span.cells,List.map] at hB;have FE:part.drop kk=q::part.drop (kk+1):=by rw [List.drop_eq_getElem_cons hk,hq]
   rw [FE] at hn;have hhq:here[q]! = l.xs[q]:=by
    have:=hl kk hk (Nat.le_refl _);rw [<- hq] at this;rw [this,getElem!_pos l.xs q VN]
   have hlen:here.length=l.xs.length:=hs.1;have hqh:q < here.length:=by omega
   have wQ:here.set q l.xs[q]=here:=by
    rw [<- hhq,getElem!_pos here q hqh];exact List.set_getElem_self ..
   have aK:=fx.lt;have o:=fx.ord;obtain ⟨hN,Td⟩:∃ hN,hN=(l.xs[q].y.hi - l.xs[q].y.lo+1).toNat:=⟨_,rfl⟩
   obtain ⟨wN,VO⟩:∃ wN,wN=(l.xs[q].x.hi - l.xs[q].x.lo+1).toNat:=⟨_,rfl⟩
   have o9:(uU l.xs[q]!).length=wN*hN:=by rw [getElem!_pos l.xs q VN,zfJ,<- Td,<- VO]
   obtain ⟨E,hE⟩:∃ E:Nat->Acc,E=fun t=>((Kw (uj p.facts.xs part) l.xs q (part.drop (kk+1)) kk here t).map (pts.take kk ++ ·)).foldl Dc A:=⟨_,rfl⟩
   have hE0:E 0=A:=by rw [hE];simp [zlK]
   have hEw:Hide (E (wN*hN)=((wZ (uj p.facts.xs part) l.xs (part.drop kk) kk here).map (pts.take kk ++ ·)).foldl Dc A):=⟨by
    rw [hE,FE];simp only;rw [znN _ _ _ _ _ _ (by rw [o9];exact Nat.le_refl _)]⟩
   have hEn:Hide (∀ t X,(uU l.xs[q]!)[t]?=some X->E (t+1)=if uj p.facts.xs part kk (here.set q (bf X))=true then ((wZ (uj p.facts.xs part) l.xs (part.drop (kk+1)) (kk+1) (here.set q (bf X))).map ((pts.take kk++[X]) ++ ·)).foldl Dc (E t) else E t):=⟨fun t X hX=>by
    rw [hE];simp only;rw [zhq _ _ _ _ _ _ hX]
    by_cases hc:uj p.facts.xs part kk (here.set q (bf X))=true
    .rw [if_pos hc,if_pos hc,List.map_append,List.foldl_append,List.map_map]
     congr 2
     funext c
     simp
    .rw [if_neg hc,if_neg hc];simp⟩
   have Y3:Hide (∀ t X,(uU l.xs[q]!)[t]?=some X->uj p.facts.xs part kk (here.set q (bf X))=true->(E t).n+(wZ (uj p.facts.xs part) l.xs (part.drop (kk+1)) (kk+1) (here.set q (bf X))).length<=4000000000000000000):=⟨fun t X hX hc=>by
    have h1:=zhq (uj p.facts.xs part) l.xs q (part.drop (kk+1)) kk here hX;have h2:=zpE (uj p.facts.xs part) l.xs q (part.drop (kk+1)) kk here (t+1);rw [h1,if_pos hc,List.length_append,List.length_map] at h2;rw [hE];simp only;rw [zuM,List.length_map];omega⟩
   have hEH:=Hide.mk hE;have MF:=Hide.mk hn;have Ju:=Hide.mk hl;have hhNH:=Hide.mk Td;have hwNH:=Hide.mk VO;have SI:=Hide.mk hq;have hrestH:=Hide.mk FE;have ihH:=Hide.mk ih;have hFH:=Hide.mk hF;clear hE hn hl hq FE ih hF;(repeat' first|simp [*,zb,c114,ME]|(apply za<;>intro _ h<;>try simp [-Nat.le_zero_eq] at h))
   refine zpZ (n:=F) (b:=l.xs[q]) (Ed hp.ok hp.sub hp.wf _ (List.getElem_mem VN)) ?_ rfl
    (fun i k H1=>oO I H H1/\∃ y mW,Jt I part (E (i*hN+k)) mW (here.set q y) H1/\mW.take kk=pts.take kk) ?_ ?_ ?_ ?_ ?_
   .simp
   .rintro i k H1 H2 ⟨a1,y,mW,a2,a3⟩ hx bU hg
    refine ⟨⟨by rw [bU];exact a1.nx,fun j h1 h2 h3 h4 h5=>by rw [hg j (by omega)];exact a1.get j h1 h2 h3 h4 h5⟩,y,mW,⟨?_,?_,?_,?_,a2.best,a2.pts⟩,a3⟩
    .rw [hg _ (by omega)];exact a2.s
    .rw [hg _ (by omega)];exact a2.e
    .rw [hg _ (by omega)];exact a2.p
    .rw [hg _ (by omega)];exact a2.h
   .intro H1 bU hg
    refine ⟨⟨by omega,fun j h1 _ _ _ _=>hg j h1⟩,l.xs[q],pts,?_,rfl⟩
    rw [wQ,Nat.zero_mul,Nat.zero_add,hE0]
    refine ⟨?_,?_,?_,?_,st.best,st.pts⟩
    .rw [hg _ (by omega)];exact st.s
    .rw [hg _ (by omega)];exact st.e
    .rw [hg _ (by omega)];exact st.p
    .rw [hg _ (by omega)];exact st.h
   .intro i H1 h;rw [<- Td] at h;rwa [show (i+1)*hN+0=i*hN+hN by rw [Nat.add_mul];omega]
   .rw [<- Td,<- VO];rintro i k H1 hi hkk' ⟨kp,y,mW,st1,AR⟩ hx;obtain ⟨hT,hXe⟩:=zom (b:=l.xs[q]) (i:=i) (k:=k) (by rw [<- VO];exact hi) (by rw [<- Td];exact hkk');have LK:(uU l.xs[q]!)[i*hN+k]?=some ⟨l.xs[q].x.lo+i,l.xs[q].y.lo+k⟩:=by
     rw [getElem!_pos l.xs q VN,Td,List.getElem?_eq_getElem hT,hXe]
    have Ol:bF ⟨l.xs[q].x.lo+i,l.xs[q].y.lo+k⟩ l.xs[q]:=mem_places.1 (by rw [<- hXe];exact List.getElem_mem _);have hXo:mO ⟨l.xs[q].x.lo+i,l.xs[q].y.lo+k⟩:=zuj hp VN (mem_places.2 Ol);obtain ⟨u,hu⟩:∃ u,u=l.xs[q].x.lo+(i:Int):=⟨_,rfl⟩
    obtain ⟨v,hv⟩:∃ v,v=l.xs[q].y.lo+(k:Int):=⟨_,rfl⟩
    rw [<- hu,<- hv] at LK Ol hXo ⊢;obtain ⟨t,ht⟩:∃ t,t=i*hN+k:=⟨_,rfl⟩
    have ht1:i*hN+(k+1)=t+1:=by omega
    rw [ht1];rw [<- ht] at st1 LK;have hEt:=Hide.mk (hEn.h t _ LK);have Y3:=Hide.mk (Y3.h t _ LK);clear hT hXe LK hu hv ht ht1 hEn;have hpl1:=st1.p;have hlh1:=st1.h;have Gs:=Hide.mk st1;have Jh:=Hide.mk kp;have MG:=Hide.mk AR;clear st1 AR o9 hE0;(repeat' first|simp [*,zb]|(apply za<;>intro _ h<;>try simp [-Nat.le_zero_eq] at h))
    refine ⟨fun j hj=>(zg (show j≠H1.nx by omega)).trans (zi hj),?_⟩
    intro Hb hbn Y4;have uR:∀ j,j < H.nx->Hb.get j=H1.get j:=fun j hj=>by rw [Y4 j (by omega),zg (by omega),zi (by omega)]
    have aS:Hb.get H1.nx=.cells true [.pure (.int .i64 u),.pure (.int .i64 v)]:=by rw [Y4 _ (by omega),zn (by simp)]
    have hbn':Hb.nx=H1.nx+1:=by simpa using hbn
    have hkx:H.nx<=H1.nx:=Jh.h.nx;have kpb:oO I H Hb:=⟨by omega,fun j a b c e f=>by rw [uR j a];exact Jh.h.get j a b c e f⟩
    have Tf:=fx.keep kpb;have sF:=Tf.hb;have pb1:=Tf.pb;have mb1:=Tf.mb;have cb1:=Tf.cb;obtain ⟨xs,Bd,VP,MH⟩:=Tf.mid;have Qr:kk < xs.length:=by omega
    have VQ:=MH kk Qr;have hh1:Hb.get I.aB=.cells true (zq Box.cells (here.set q y)):=by rw [uR _ (by omega)];exact hlh1
    have VR:Hb.get I.pid=.cells true (zq Pt.cells mW):=by rw [uR _ (by omega)];exact hpl1
    have Ah:q < (here.set q y).length:=by simpa using hqh
    have rP:(here.set q y).set q (bf ⟨u,v⟩)=here.set q (bf ⟨u,v⟩):=by rw [List.set_set]
    have lS:=Fj (f:=Box.cells) (sz:=4) (a:=bf ⟨u,v⟩) (fun _=>rfl) (fun _=>rfl) (by decide) Ah;rw [rP] at lS;have VS:kk < mW.length:=by rw [Gs.h.pts.1];exact hk
    have xY:=Fj (f:=Pt.cells) (sz:=2) (a:=(⟨u,v⟩:Pt)) (fun _=>rfl) (fun _=>rfl) (by decide) VS;simp only [Box.cells,Span.cells,Pt.cells,bf,List.map] at lS xY;have sw:=fun H=>zf (G:=G) (n:=F) (H:=H) (caps:=[]) (ps:=[.agg (Pt.mk u v).cells]) ztK (by
     obtain ⟨F6,rfl⟩:=hF6;exact e103 (F6+5) ⟨u,v⟩)
    simp only [Box.cells,Span.cells,Pt.cells,bf,List.map] at sw;have CU:Fh (.cells true xs) 1 kk=some [xs[kk]]:=by
     simp only [Fh];rw [if_pos (by omega),List.drop_eq_getElem_cons Qr];rfl
    have q1:I.pb≠I.aB:=by omega
    have q2:H1.nx≠I.aB:=by omega
    have q3:I.hb≠I.aB:=by omega
    have q4:I.hb≠I.pid:=by omega
    have q5:I.mb≠I.aB:=by omega
    have q6:I.mb≠I.pid:=by omega
    have q7:I.mid≠I.aB:=by omega
    have q8:I.mid≠I.pid:=by omega
    have q9:I.pid≠I.aB:=by omega
    have q10:I.cb≠I.aB:=by omega
    have q11:I.cb≠I.pid:=by omega
    have q12:I.aB≠I.pid:=by omega
    have r1:I.aB < Hb.nx:=by omega
    have r2:I.pid < Hb.nx:=by omega
    have Hu:(kk:Int) < part.length:=by omega
    have hxoH:=Hide.mk VQ;have hbgH:=Hide.mk Y4;have Gt:=Hide.mk uR;clear MH VQ Y4 uR Ah rP;(repeat' first|simp [*,zb,beside]|(apply za<;>intro _ h<;>try simp [-Nat.le_zero_eq] at h));obtain ⟨jN,Gu⟩:∃ h1,h1=here.set q (bf ⟨u,v⟩):=⟨_,rfl⟩
    obtain ⟨BD,Jv⟩:∃ p1,p1=mW.set kk ⟨u,v⟩:=⟨_,rfl⟩
    have VT:here.set q ⟨⟨u,u⟩,⟨v,v⟩⟩=jN:=Gu.symm;rw [VT,<- Jv];obtain ⟨Hc,Ti⟩:∃ Hc,Hc=(Hb.set I.aB (.cells true (zq Box.cells jN))).set I.pid (.cells true (zq Pt.cells BD)):=⟨_,rfl⟩
    rw [<- Ti];have hcn:Hc.nx=Hb.nx:=by rw [Ti];simp
    have Tj:∀ j,j≠I.aB->j≠I.pid->Hc.get j=Hb.get j:=fun j h1 h2=>by rw [Ti,zg h2,zg h1]
    have qg:Hc.get I.aB=.cells true (zq Box.cells jN):=by rw [Ti,zg (by omega),zn (by omega)]
    have NB:Hc.get I.pid=.cells true (zq Pt.cells BD):=by rw [Ti,zn (by simpa using r2)]
    have kpc:oO I H Hc:=⟨by omega,fun j a b c e f=>by rw [Tj j f e];exact kpb.get j a b c e f⟩
    have Y5:=fx.keep kpc;obtain ⟨xs',Qs,Qt,VU⟩:=Y5.mid;have exs:xs'=xs:=by
     rw [Tj _ (by omega) (by omega),Bd] at Qs
     simpa using Qs.symm
    subst exs;have hox:=(VU kk Qr).1;have AP:aR jN l.xs:=by
     have:=hs.set (i:=q) (a:=bf ⟨u,v⟩) (b:=l.xs[q]) (by
      unfold bF at Ol;simp only at Ol;exact ⟨⟨Ol.1,Ol.2.1⟩,⟨Ol.2.2.1,Ol.2.2.2⟩⟩)
     rw [List.set_getElem_self] at this;rw [Gu];exact this
    have YU:Wf jN:=by
     rw [Gu];exact hw.set ⟨Int.le_refl _,Int.le_refl _⟩
    have VV:aR jN p.boxes.xs:=AP.trans hp.sub;obtain ⟨is,nk,nV⟩:=VA (n:=10) (f:=aF) (sz:=1) (fun _=>rfl) hox;have hl1:jN.length=l.xs.length:=AP.1;obtain ⟨s1,VW,Hw⟩:=Ha (n:=10) (f:=Box.cells) (sz:=4) (fun _=>rfl) qg hl1;obtain ⟨m1,m2,m3⟩:=hp.ml kk hk;have mD:zF G F 74 [p.facts.pv Fact.cells 9,is.pv aF 1,s1.pv Box.cells 4]=some (.int .i64 (fI p.facts.xs jN ml[kk]!)):=by
     obtain ⟨F6,rfl⟩:=hF6;have:=e74 F6 p.facts is s1 (by rw [nk];exact m1) (by rw [nk];omega) (fun f hf=>by rw [VW];exact Qk hp.ok VV YU hf);rw [nk,VW] at this;exact this
    refine LC (caps:=[]) (ps:=[_,_,_]) sh74 (.cons (.pure _) (.cons nV (.cons Hw .nil))) mD rfl ?_
    have uW:=m3 jN;have Om:VF part.length BD:=by
     rw [Jv]
     refine ⟨by rw [List.length_set];exact Gs.h.pts.1,fun x hx=>?_⟩
     rcases List.mem_or_eq_of_mem_set hx with h|rfl
     .exact Gs.h.pts.2 x h
     .exact hXo
    have htk:BD.take kk=pts.take kk:=by
     rw [Jv,List.take_set_of_le (Nat.le_refl _)];exact MG.h
    have VX:BD.take (kk+1)=pts.take kk++[⟨u,v⟩]:=by
     rw [<- htk,List.take_add_one,Jv];simp [VS]
    have stc:Jt I part (E t) BD jN Hc:=⟨by
      rw [Tj _ (by omega) (by omega),Gt.h _ (by omega)];exact Gs.h.s,by
      rw [Tj _ (by omega) (by omega),Gt.h _ (by omega)];exact Gs.h.e,NB,qg,Gs.h.best,Om⟩
    have Qu:=hEt.h;have Qv:=Y3.h;rw [<- Gu] at Qu Qv;have hcbc:=Y5.cb;have Oo:=Hide.mk stc;have hfxc:=Hide.mk Y5;have VY:=Hide.mk kpc;have VZ:=Hide.mk Qu;have hEcH:=Hide.mk Qv;have V3:Hc.get H.nx=Hb.get H.nx:=Tj _ (by omega) (by omega);have Bv:=Hide.mk V3;have Qw:=Hide.mk hcn;have Jw:=Hide.mk Gu;have htkH:=Hide.mk htk;have Oq:=Hide.mk VX;have hqH2:=Hide.mk AP;have hwH2:=Hide.mk YU;clear stc Y5 kpc Qu Qv hEt Y3 V3 hcn Tj qg NB Qs VU hox VV AP YU nV Hw mD m1 m2 m3 Ti hh1 VR lS xY CU Bd htk VX Om Gu Jv sw aS sF pb1 mb1 cb1 Tf kpb
    by_cases bQ:uj p.facts.xs part kk jN=true
    ·have K5:=uW.2 bQ;have hEc3:=Hide.mk (hEcH.h bQ);have Qx:Hide (E (t+1)=((wZ (uj p.facts.xs part) l.xs (part.drop (kk+1)) (kk+1) jN).map ((pts.take kk++[⟨u,v⟩]) ++ ·)).foldl Dc (E t)):=⟨by rw [VZ.h,if_pos bQ]⟩
     clear uW;generalize fI p.facts.xs jN ml[kk]! = B at *;have w1:IntKind.i64.wrap ((kk:Int)+1)=(kk+1:Nat):=by rw [wrap64 (by have:=hp.few;omega) (by have:=hp.few;omega)];omega
     have hFx:=hFH.h;have xL:∀ j (h:j < part.length),kk+1<=j->jN[part[j]]! = l.xs[part[j]]! := fun j h hj=>by
      have h1:=Ju.h j h (by omega);have Tm:=SI.h;have hnq:q≠part[j]:=by
       rw [Tm];intro e;have:=(List.getElem_inj hp.nodup).1 e;omega
      rw [<- h1,Jw.h];simp [List.getElem?_set,hnq]
     obtain ⟨H',r1,r2,Qy,r3,r4⟩:=ihH.h n (kk+1) Hc (E t) BD jN (by omega) hfxc.h Oo.h hqH2.h hwH2.h xL hEc3.h;rw [<- hFx] at r1;have hl2H:=Hide.mk xL;have hFxH:=Hide.mk hFx;clear xL hFx;(repeat' first|simp [*,zb,ME]|(apply za<;>intro _ h<;>try simp [-Nat.le_zero_eq] at h));obtain ⟨F1,rfl⟩:∃ F1,F=F1+1:=⟨n+7+3*d,by have:=hFxH.h;omega⟩
     refine Da (n:=F1) zjI ⟨.aQ [],H',by simpa [ME] using r1,?_⟩
     have aD:=r2.nx;have jD:H'.get H.nx=Hb.get H.nx:=(r2.get _ (by have:=Qw.h;omega) (by omega) (by omega) (by omega) (by omega)).trans Bv.h;have kpf:=Hide.mk (VY.h.trans r2);rw [Oq.h] at r4;have htf:Qy.take kk=pts.take kk:=by
      have h2:=congrArg (List.take kk) r4;rw [List.take_take,Nat.min_eq_left (by omega)] at h2;rw [h2,List.take_append_of_le_length (by rw [List.length_take];have:=st.pts.1;omega),List.take_take,Nat.min_self]
     have V7:Jt I part (E (t+1)) Qy (here.set q (bf ⟨u,v⟩)) H':=by
      rw [Qx.h,<- Jw.h];rw [Oq.h] at r3;exact r3
     have V8:=Hide.mk V7;have htfH:=Hide.mk htf;have Uf:=Qw.h;clear r1 r2 r3 r4 V7 htf;(repeat' first|simp [*,zb]|(apply za<;>intro _ h<;>try simp [-Nat.le_zero_eq] at h));exact ⟨by omega,kpf.h,_,Qy,V8.h,htfH.h⟩
    .have K5:¬ fI p.facts.xs jN ml[kk]! < 0:=fun h=>bQ (uW.1 h);have Qx:Hide (E (t+1)=E t):=⟨by rw [VZ.h,if_neg bQ]⟩
     clear uW;generalize fI p.facts.xs jN ml[kk]! = B at *;(repeat' first|simp [*,zb]|(apply za<;>intro _ h<;>try simp [-Nat.le_zero_eq] at h))
     refine ⟨Bv.h,by have:=Qw.h;omega,VY.h,bf ⟨u,v⟩,BD,?_,htkH.h⟩
     rw [Qx.h,<- Jw.h];exact Oo.h
   .rw [<- VO];rintro H1 ⟨kp,y,mW,st1,AR⟩;rw [Nat.add_zero,hEw.h] at st1;have fx1:=fx.keep kp;have sF:=fx1.hb;have h1h:=st1.h;have Ah:q < (here.set q y).length:=by simpa using hqh
    have rP:(here.set q y).set q l.xs[q]=here:=by rw [List.set_set,wQ]
    have lS:=Fj (f:=Box.cells) (sz:=4) (a:=l.xs[q]) (fun _=>rfl) (fun _=>rfl) (by decide) Ah;rw [rP] at lS;simp only [Box.cells,Span.cells,List.map] at lS;have BF:=Hide.mk st1;have Bl:=zo h1h;clear fx1;(repeat' first|simp [*,zb]|(apply za<;>intro _ h<;>try simp [-Nat.le_zero_eq] at h))
    refine ⟨⟨by simpa using kp.nx,fun j a b c e f=>by rw [zg f];exact kp.get j a b c e f⟩,mW,⟨?_,?_,?_,?_,BF.h.best,BF.h.pts⟩,AR⟩
    .rw [zg (by omega)];exact BF.h.s
    .rw [zg (by omega)];exact BF.h.e
    .rw [zg (by omega)];exact BF.h.p
    .rw [zn Bl]
  obtain ⟨v,H',h1,rfl,h2⟩:=main;rw [<- hF];exact ⟨H',h1,h2⟩
theorem zf7 {α:Type} [BEq α] [LawfulBEq α] {x:α}:∀ {l:List α} {j:Nat} (h:j < l.length),j < l.idxOf x->l[j]≠x
 | a::l,j,h,hj=>by
  rw [List.idxOf_cons] at hj
  by_cases e:a=x
  .subst e;simp at hj
  .have e':(a == x)=false:=by simpa using e
   rw [e'] at hj;simp only [cond_false] at hj
   cases j with
   | zero=>simpa using e
   | succ j=>simpa using zf7 (l:=l) (by simpa using h) (by omega)
open Classical in
noncomputable def nK (part:List Nat) (x:Int):Int:=if x∈zL part then ((zL part).idxOf x:Nat) else -1
theorem Y6 (part:List Nat) (x:Int):tH (zL part) x (nK part x):=by
 unfold nK
 split
 .rename_i h;have hl:=List.idxOf_lt_length_of_mem h
  refine .inl ⟨(zL part).idxOf x,hl,rfl,List.getElem_idxOf hl,fun j hj aK e=>?_⟩
  exact zf7 hj aK e
 .rename_i h;exact .inr ⟨rfl,h⟩
theorem zmK {part:List Nat} {x:Int} (h0:0<=x):x∈zL part↔x.toNat∈part:=by
 unfold zL;rw [List.mem_map]
 constructor
 .rintro ⟨k,hk,rfl⟩;simpa using hk
 .intro h;exact ⟨x.toNat,h,by omega⟩
theorem Y7 {part:List Nat} {x:Int} (h0:0<=x) (h:x.toNat∈part):nK part x=(part.idxOf x.toNat:Nat):=by
 have hl:=List.idxOf_lt_length_of_mem h
 refine (Y6 part x).unique (.inl ⟨part.idxOf x.toNat,by rw [z8];exact hl,rfl,?_,fun j hj aK e=>?_⟩)
 .simp only [zL,List.getElem_map];rw [List.getElem_idxOf hl];omega
 .simp only [zL,List.getElem_map] at e;have o8:j < part.length:=by rw [z8] at hj;exact hj
  exact zf7 o8 aK (by omega)
noncomputable def tJ (part:List Nat) (f:Fact):Int:=if f.kind=2 then max (max (nK part f.a) (nK part f.b)) (nK part f.c) else max (nK part f.a) (nK part f.b)
theorem zmp {part:List Nat} {f:Fact} (ha:0<=f.a) (hb:0<=f.b) (hc:f.kind=2->0<=f.c) (hw:Within part f):tJ part f=(Hg part f:Nat):=by
 unfold tJ Hg;rw [Y7 ha hw.a,Y7 hb hw.b]
 split
 .rename_i h;rw [Y7 (hc h) (hw.c h)];omega
 .omega
open Classical in
noncomputable def nQ (part:List Nat) (k:Nat) (f:Fact):Bool:=decide (tJ part f=k)&&decide (f.a∈zL part)
noncomputable def mX (fs:List Fact) (part:List Nat) (k:Nat):List Int:=(jQ fs.length).filter fun i=>nQ part k fs[i.toNat]!
theorem zo7 (fs:List Fact) (part:List Nat) (k:Nat):vS fs (mX fs part k):=fun i hi=>Oe fs i (List.mem_filter.1 hi).1
theorem zrq (fs:List Fact) (part:List Nat) (k:Nat):(mX fs part k).length<=fs.length:=by
 have:=List.length_filter_le (fun i:Int=>nQ part k fs[i.toNat]!) (jQ fs.length);rwa [Ku] at this
theorem zsg {fs:List Fact} {part:List Nat} {k:Nat} (hn:∀ f∈fs,0<=f.a/\0<=f.b/\(f.kind=2->0<=f.c)) (hw:∀ f∈fs,f.a.toNat∈part->Within part f) (here:List Box):fI fs here (mX fs part k) < 0↔uj fs part k here=true:=by
 have h1:=Vo (fs:=fs) (l:=here) (is:=mX fs part k) fun i hi=>(zo7 fs part k i hi).1;have h2:(fI fs here (mX fs part k) < 0)↔¬ ∃ i∈mX fs part k,zD fs[i.toNat]! here=true:=by rw [<- h1];omega
 rw [h2];have aM:∀ f∈fs,(nQ part k f=true↔(part.contains f.a.toNat&&decide (Hg part f=k))=true):=fun f hf=>by
  obtain ⟨a1,a2,a3⟩:=hn f hf;unfold nQ;simp only [Bool.and_eq_true,decide_eq_true_eq,List.contains_iff_mem,List.elem_eq_mem,zmK a1]
  constructor
  .rintro ⟨b1,b2⟩;rw [zmp a1 a2 a3 (hw f hf b2)] at b1;exact ⟨b2,by omega⟩
  .rintro ⟨b1,b2⟩;rw [zmp a1 a2 a3 (hw f hf b1)];exact ⟨by omega,b1⟩
 unfold uj;rw [List.all_eq_true]
 constructor
 .intro h f hf
  by_cases hc:(part.contains f.a.toNat&&decide (Hg part f=k))=true
  .rw [hc];simp only [Bool.not_true,Bool.false_or]
   cases hs:zD f here with
   | false=>rfl
   | true =>
    exfalso;obtain ⟨j,hj,rfl⟩:=List.mem_iff_getElem.1 hf
    refine h ⟨(j:Nat),List.mem_filter.2 ⟨jv.2 ⟨j,hj,rfl⟩,?_⟩,?_⟩
    .rw [show ((j:Int)).toNat=j by simp,getElem!_pos fs j hj];exact (aM _ hf).2 hc
    .rw [show ((j:Int)).toNat=j by simp,getElem!_pos fs j hj];exact hs
  .simp only [Bool.not_eq_true] at hc;rw [hc];rfl
 .rintro h ⟨i,hi,hs⟩;obtain ⟨wK,G6⟩:=List.mem_filter.1 hi;obtain ⟨j,hj,rfl⟩:=jv.1 wK;rw [show ((j:Int)).toNat=j by simp,getElem!_pos fs j hj] at G6 hs;have:=h _ (List.getElem_mem hj);rw [(aM _ (List.getElem_mem hj)).1 G6,hs] at this;simp at this
structure fB where
 part:List Nat
 n:Nat
 ends:List (Option (List Pt))
 first:Option (List Pt)
def fB.cells (s:fB):List PV:=[lD s.part,.int .i64 s.n,.slice false 4 (chunks 4 s.part.length (s.ends.map iN)),iN s.first]
def fB.pv (s:fB):PV:=.ptr false s.cells 0
def Jy (b:Box) (part:List Nat):fB:=⟨part,(oq b).toNat,[some [⟨b.x.lo,b.y.lo⟩],some [⟨b.x.hi,b.y.lo⟩],some [⟨b.x.lo,b.y.lo⟩],some [⟨b.x.lo,b.y.hi⟩]],some [⟨b.x.lo,b.y.lo⟩]⟩
def MI (facts:List Fact) (l:List Box) (part:List Nat):fB:=⟨part,(jd facts l part).length,(List.range (4*part.length)).map fun j=>Vg (lG j) (jd facts l part),(jd facts l part).head?⟩
def zW (facts:List Fact) (l:List Box) (part:List Nat):fB:=if part.length=1 then Jy l[part[0]!]! part else MI facts l part
structure sS (facts:List Fact) (l:List Box) (part:List Nat) (s:fB):Prop where
 same:s.part=part
 n:s.n=(jd facts l part).length
 len:s.ends.length=4*part.length
 none:s.n=0->s.first=Option.none
 first:s.n≠0->∃ c∈jd facts l part,s.first=some c
 ends:s.n≠0->∀ j (h:j < s.ends.length),∃ c∈jd facts l part,s.ends[j]=some c/\∀ c'∈jd facts l part,lG j c<=lG j c'
theorem zsz (facts:List Fact) (l:List Box) (part:List Nat):sS facts l part (MI facts l part):=by
 refine ⟨rfl,rfl,by simp [MI],fun h=>?_,fun h=>?_,fun h j hj=>?_⟩
 .have:jd facts l part=[]:=List.eq_nil_of_length_eq_zero h;simp [MI,this]
 .show ∃ c∈jd facts l part,(jd facts l part).head?=some c;have h':(jd facts l part).length≠0:=h
  cases hs:jd facts l part with
  | nil=>rw [hs] at h';simp at h'
  | cons c cs=>exact ⟨c,by simp,rfl⟩
 .have h':jd facts l part≠[]:=fun e=>h (by simp [MI,e]);obtain ⟨e,h1,h2,h3⟩:=zsW (lG j) h';exact ⟨e,h2,by simp [MI,h1],h3⟩
theorem Qz {facts:List Fact} {l:List Box} {i:Nat} (hn:∀ f∈facts,f.a.toNat≠i):∀ c,c∈jd facts l [i]↔∃ x,c=[x]/\bF x l[i]! := by
 intro c;rw [Kq (by simp) (fun f hf h=>absurd (by simpa using h) (hn f hf))]
 constructor
 .rintro ⟨⟨h1,h2⟩,_⟩
  match c,h1 with
  | [x],_=>exact ⟨x,rfl,by simpa using h2 0 (by simp) (by simp)⟩
 .rintro ⟨x,rfl,h⟩
  refine ⟨⟨rfl,fun k h1 h2=>?_⟩,fun f hf ha=>absurd (by simpa using ha) (hn f hf)⟩
  have:k=0:=by simpa using h1
  subst this
  simpa using h
theorem zpi {facts:List Fact} {l:List Box} {i:Nat} (hn:∀ f∈facts,f.a.toNat≠i):(jd facts l [i]).length=(uU l[i]!).length:=by
 have h1:(jd facts l [i]).Nodup:=zi6 ..;have h2:((uU l[i]!).map fun x=>[x]).Nodup:=SK (fun a b h=>by simpa using h) (zgt _);have:=ziE h1 h2 fun c=>by
  rw [Qz hn,List.mem_map]
  constructor
  .rintro ⟨x,rfl,h⟩;exact ⟨x,mem_places.2 h,rfl⟩
  .rintro ⟨x,h,rfl⟩;exact ⟨x,rfl,mem_places.1 h⟩
 simpa using this
theorem zuO {facts:List Fact} {l:List Box} {i:Nat} (hi:i < l.length) (hw:Wf l) (hn:∀ f∈facts,f.a.toNat≠i):sS facts l [i] (Jy l[i]! [i]):=by
 have hb:ja l[i]! := by rw [getElem!_pos l i hi];exact hw _ (List.getElem_mem hi)
 have ha:=Qb hb;have hpa:=zfj hb;generalize hB:l[i]! = b at *
 refine ⟨rfl,?_,rfl,fun h=>?_,fun h=>?_,fun h j hj=>?_⟩
 .rw [zpi hn,hB];show (oq b).toNat=_;omega
 .exfalso;have:(oq b).toNat=0:=h;omega
 .refine ⟨_,(Qz hn _).2 ⟨⟨b.x.lo,b.y.lo⟩,rfl,?_⟩,rfl⟩
  rw [hB];exact ⟨Int.le_refl _,hb.1,Int.le_refl _,hb.2⟩
 .have hj4:j < 4:=hj;have h5:j=0\/j=1\/j=2\/j=3:=by omega
  have key:∀ c'∈jd facts l [i],∃ x,c'=[x]/\bF x b:=fun c' h=>by rw [<- hB];exact (Qz hn c').1 h
  rcases h5 with rfl|rfl|rfl|rfl
  .refine ⟨[⟨b.x.lo,b.y.lo⟩],(Qz hn _).2 ⟨_,rfl,by rw [hB];exact ⟨Int.le_refl _,hb.1,Int.le_refl _,hb.2⟩⟩,rfl,fun c' hc=>?_⟩
   obtain ⟨x,rfl,hx⟩:=key c' hc;unfold bF at hx;simp [lG,lU];omega
  .refine ⟨[⟨b.x.hi,b.y.lo⟩],(Qz hn _).2 ⟨_,rfl,by rw [hB];exact ⟨hb.1,Int.le_refl _,Int.le_refl _,hb.2⟩⟩,rfl,fun c' hc=>?_⟩
   obtain ⟨x,rfl,hx⟩:=key c' hc;unfold bF at hx;simp [lG,lU];omega
  .refine ⟨[⟨b.x.lo,b.y.lo⟩],(Qz hn _).2 ⟨_,rfl,by rw [hB];exact ⟨Int.le_refl _,hb.1,Int.le_refl _,hb.2⟩⟩,rfl,fun c' hc=>?_⟩
   obtain ⟨x,rfl,hx⟩:=key c' hc;unfold bF at hx;simp [lG,lU];omega
  .refine ⟨[⟨b.x.lo,b.y.hi⟩],(Qz hn _).2 ⟨_,rfl,by rw [hB];exact ⟨Int.le_refl _,hb.1,hb.2,Int.le_refl _⟩⟩,rfl,fun c' hc=>?_⟩
   obtain ⟨x,rfl,hx⟩:=key c' hc;unfold bF at hx;simp [lG,lU];omega
theorem Y8 {facts:List Fact} {l:List Box} {part:List Nat} (hp:∀ k∈part,k < l.length) (hw:Wf l) (hn:∀ f∈facts,f.a.toNat∈part->Within part f) (hd:∀ f∈facts,0<=f.a/\0<=f.b/\f.a≠f.b):sS facts l part (zW facts l part):=by
 unfold zW
 split
 .rename_i h
  match part,h with
  | [i],_ =>
   refine zuO (hp i (by simp)) hw fun f hf e=>?_
   have w:=hn f hf (by simp [e]);have h1:=w.b;simp only [List.mem_singleton] at h1;have:=hd f hf;omega
 .exact zsz ..
theorem zg1 {α:Type}:∀ (m:Nat) (L:List α) (k:Nat),k < m->(chunks 4 m L)[k]?=some ((L.drop (4*k)).take 4)
 | 0,_,_,h=>by omega
 | m+1,L,0,_=>by simp [chunks]
 | m+1,L,k+1,h=>by
  simp only [chunks,List.getElem?_cons_succ];rw [zg1 m (L.drop 4) k (by omega),List.drop_drop]
  congr 3
  omega
noncomputable def iA (fs:List Fact) (part:List Nat) (k i:Nat):List Int:=(jQ i).filter fun j:Int=>nQ part k fs[j.toNat]!
theorem zmY (fs:List Fact) (part:List Nat) (k:Nat):iA fs part k 0=[]:=by simp [iA,jQ]
theorem zoh (fs:List Fact) (part:List Nat) (k:Nat):iA fs part k fs.length=mX fs part k:=rfl
theorem zoc (fs:List Fact) (part:List Nat) (k i:Nat):(iA fs part k i).length<=i:=by
 have:=List.length_filter_le (fun j:Int=>nQ part k fs[j.toNat]!) (jQ i);rwa [Ku] at this
theorem zp0 {fs:List Fact} {part:List Nat} {k i:Nat} (h:i < fs.length):iA fs part k i++(if nQ part k fs[i]=true then [(i:Int)] else [])=iA fs part k (i+1):=by
 unfold iA jQ;rw [List.range_succ,List.map_append,List.filter_append]
 congr 1
 simp [h,List.filter_cons]
theorem zl4 {H:Heap} {jV m n:Nat} {cs:List AV} {ps:List PV} (h:H.get jV=.cells true cs) (hl:cs.length=4*m) (hf:FrzL H false n cs ps):FrzK H false (n+1) (.row jV 4 0 m) (.slice false 4 (chunks 4 m ps)):=by
 obtain ⟨ids,h1⟩:=hf;have hp:=zfx h1;have h2:(cs.drop (0*4)).take (m*4)=cs:=by
  rw [Nat.zero_mul,List.drop_zero];exact List.take_of_length_le (by omega)
 refine ⟨jV::ids,?_⟩
 unfold freeze;simp only [h,h2,h1];rw [if_pos (by omega)]
theorem zks (B:List (Option (List Pt))):zq mV B=(B.map iN).map .pure:=by
 induction B with
 | nil=>rfl
 | cons b B ih=>rw [PX,ih];rfl
theorem zqC {H:Heap} {jV m n:Nat} {B:List (Option (List Pt))} (h:H.get jV=.cells true (zq mV B)) (hl:B.length=4*m):FrzK H false (n+2) (.row jV 4 0 m) (.slice false 4 (chunks 4 m (B.map iN))) :=
 zl4 h (by rw [zks];simpa using hl) (by rw [zks];exact FrzL.p8 _)
theorem zlO {H:Heap} {jV oz:Nat} {D:fB} (hs:H.get oz=.cells true [.pure (lD D.part),.pure (.int .i64 D.n),.row jV 4 0 D.part.length,.pure (iN D.first)]) (he:FrzK H false 11 (.row jV 4 0 D.part.length) (.slice false 4 (chunks 4 D.part.length (D.ends.map iN)))):∃ ids,freeze H false qP (.box oz 0)=some (D.pv,ids):=by
 obtain ⟨ids,h1⟩:=FrzL.cons (FrzK.pure (H:=H) (k:=false) (n:=10) (lD D.part)) (.cons (FrzK.pure (.int .i64 D.n)) (.cons he (.cons (FrzK.pure (iN D.first)) .nil)))
 refine ⟨oz::ids,?_⟩
 show freeze H false 12 (.box oz 0)=_;unfold freeze;simp only [hs,h1];rfl
theorem zrk {H:Heap} {jV oz:Nat} {D:fB} (hs:H.get oz=.cells true [.pure (lD D.part),.pure (.int .i64 D.n),.row jV 4 0 D.part.length,.pure (iN D.first)]) (he:H.get jV=.cells true (zq mV D.ends)) (hl:D.ends.length=4*D.part.length):∃ ids,freeze H false qP (.box oz 0)=some (D.pv,ids):=zlO hs (zqC (n:=9) he hl)
structure nR (fs:List Fact) (part:List Nat) (mb:Nat) (H:Heap) (V:AV) (k:Nat):Prop where
 low:∀ id,Names V id->mb < id
 ex:∃ xs:List AV,RowA H V xs/\xs.length=k/\xs.all AV.one=true/\∀ j (h:j < xs.length),bP aF 1 H xs[j] (mX fs part j)/\∀ id,Names xs[j] id->mb < id/\¬ Names V id
theorem nR.nil (fs:List Fact) (part:List Nat) (mb:Nat) (H:Heap):nR fs part mb H (.pure .nils) 0 :=
 ⟨fun id ⟨_,_,_,h⟩=>by simp at h,[],RowA.nil,rfl,rfl,fun j h=>by simp at h⟩
theorem nR.keep {fs:List Fact} {part:List Nat} {mb:Nat} {H H':Heap} {V:AV} {k:Nat} (h:nR fs part mb H V k) (hg:∀ id,mb < id->id < H.nx->H'.get id=H.get id):nR fs part mb H' V k:=by
 obtain ⟨xs,h1,h2,h3,h4⟩:=h.ex
 refine ⟨h.low,xs,h1.keep fun id hn=>hg id (h.low id hn) (h1.names_lt hn),h2,h3,fun j hj=>?_⟩
 obtain ⟨a,b⟩:=h4 j hj;exact ⟨a.keep fun id ⟨n,hn⟩=>hg id (b id ⟨_,_,_,hn⟩).1 (a.names_lt ⟨_,_,_,hn⟩),b⟩
theorem nR.lt {fs:List Fact} {part:List Nat} {mb:Nat} {H:Heap} {V:AV} {k:Nat} (h:nR fs part mb H V k) {id:Nat} (hn:Names V id):id < H.nx:=by
 obtain ⟨xs,h1,_⟩:=h.ex;exact h1.names_lt hn
theorem zk4 {fs:List Fact} {part:List Nat} {mb:Nat} {H:Heap} {V u:AV} {k bytes:Nat} {b:AV} {K:AV->Heap->Prop} {u'} (hJ:nR fs part mb H V k) (hb:zM H 1 b=some ([u],1)) (hu:bP aF 1 H u (mX fs part k))
  (hn:∀ id,Names u id->mb < id/\¬ Names V id) (Y9:mb < H.nx) (hm:k+1<=zu/\(k+1)*bytes<=zu)
  (hk:∀ v' H',nR fs part mb H' v' (k+1)->H.nx<=H'.nx->(∀ c,c<=mb->H'.get c=H.get c)->AV.one v'=true->AV.cells v'=[v']->K v' H'):wpE 0 (zh H 1 bytes V b) H K u':=by
 obtain ⟨xs,h1,h2,h3,h4⟩:=hJ.ex
 refine zhg h1 hb hu.one.1 h3 (by rw [h2];exact hm) ?_
 intro v' H' hr bU ah aS o1 o2
 refine hk v' H' ⟨fun id h=>by have:=aS id h;omega,xs++[u],hr,by simp [h2],by simp [h3,hu.one.1],fun j hj=>?_⟩ bU (fun c hc=>ah c (by omega) fun h=>by have:=hJ.low c h;omega) o1 o2
 rw [List.getElem_append]
 split
 .rename_i o8;obtain ⟨a,b⟩:=h4 j o8
  refine ⟨a.keep fun id ⟨n,hn⟩=>?_,fun id aB=>⟨(b id aB).1,fun h=>?_⟩⟩
  .exact ah id (a.names_lt ⟨_,_,_,hn⟩) (b id ⟨_,_,_,hn⟩).2
  .have:=aS id h;have:=a.names_lt aB;omega
 .rename_i o8;have ej:j=k:=by simp at hj;omega
  subst ej;simp only [List.getElem_singleton]
  refine ⟨hu.keep fun id ⟨n,jc⟩=>?_,fun id aB=>⟨(hn id aB).1,fun h=>?_⟩⟩
  .exact ah id (hu.names_lt ⟨_,_,_,jc⟩) (hn id ⟨_,_,_,jc⟩).2
  .have:=aS id h;have:=hu.names_lt aB;omega
theorem zvV {p:Problem} {l:Sl Box} {part:List Nat} (ok:ak p) (sub:aR l.xs p.boxes.xs) (wf:Wf l.xs) (nodup:part.Nodup) (lt:∀ i∈part,i < l.xs.length) (pos:0 < part.length) (few:part.length<=12) (within:∀ f∈p.facts.xs,f.a.toNat∈part->Within part f) :
  ∃ ml:List (List Int),(∀ k,k < part.length->ml[k]! = mX p.facts.xs part k)/\ChP p l part ml:=by
 have hm:∀ k,k < part.length->((List.range part.length).map (mX p.facts.xs part))[k]! = mX p.facts.xs part k:=fun k hk=>by
  rw [getElem!_pos _ k (by simpa using hk)];simp
 refine ⟨(List.range part.length).map (mX p.facts.xs part),hm,⟨ok,sub,wf,nodup,lt,pos,few,fun k hk=>?_⟩⟩
 rw [hm k hk]
 refine ⟨zo7 p.facts.xs part k,Nat.le_trans (zrq ..) ok.nf,zsg (fun f hf=>?_) within⟩
 have h:=(vR f _).1 (ok.fact f hf)
 refine ⟨by omega,by omega,fun h2=>?_⟩
 have:=h.2.2.2.2.2.1 h2;omega
theorem zse (m:Nat):okB m (List.replicate (4*m) none):=⟨by simp,fun o ho d hd=>by have:=List.eq_of_mem_replicate ho;rw [this] at hd;cases hd⟩
structure V9 (l:Sl Box) (part:List Nat) (aB hb:Nat) (H:Heap):Prop where
 e:H.get 0=.cells true (zq mV (List.replicate (4*part.length) none))
 s:H.get 1=.cells true (Jr part 0 (LX (4*part.length)))
 sb:H.get 2=.cells true [.box 1 0]
 h:H.get aB=.cells true (zq Box.cells l.xs)
 hb:H.get hb=.cells true [.row aB 4 0 l.xs.length]
theorem V9.keep {l:Sl Box} {part:List Nat} {aB hb mb:Nat} {H H':Heap} (h:V9 l part aB hb H) (o:2 < aB/\aB < hb/\hb < mb) (hg:∀ c,c < mb->H'.get c=H.get c):V9 l part aB hb H' :=
 ⟨by rw [hg _ (by omega)];exact h.e,by rw [hg _ (by omega)];exact h.s,by rw [hg _ (by omega)];exact h.sb,by rw [hg _ (by omega)];exact h.h,by rw [hg _ (by omega)];exact h.hb⟩
theorem zs8 (m:Nat):(List.replicate m (([PV.nils,PV.nils,PV.nils,PV.nils]:List PV).map AV.pure)).flatten=zq mV (List.replicate (4*m) none):=by
 induction m with
 | zero=>rfl
 | succ m ih =>
  rw [List.replicate_succ,List.flatten_cons,ih,show 4*(m+1)=4*m+1+1+1+1 by omega];simp only [List.replicate_succ,PX];rfl
@[simp] theorem zvb (f:Nat) (a:PV) (i o:Nat) (l:List AV):KR f (.pure a::.box i o::l)=.func f (.pure a::.box i o::l):=rfl
@[simp] theorem ztV (f:Nat) (l:List AV):AV.cells (.func f l)=[.func f l]:=rfl
@[simp] theorem zur (f:Nat) (l:List AV):AV.one (.func f l)=true:=rfl
theorem zsX (m:Nat):(List.replicate m (([PV.int .i64 0,PV.int .i64 0]:List PV).map AV.pure)).flatten=zq Pt.cells (List.replicate m ⟨0,0⟩):=by
 simp [zq]
theorem AU {X:Option (AV×Heap)} {v:AV} {P:Heap->Prop} {k:AV->Heap->Prop} (h:∃ H',X=some (v,H')/\P H') (h2:∀ H',P H'->k v H'):∃ v H',X=some (v,H')/\k v H':=by
 obtain ⟨H',a,b⟩:=h;exact ⟨v,H',a,h2 H' b⟩
structure Ei (p:Problem) (l:Sl Box) (part:List Nat):Prop where
 ok:ak p
 sub:aR l.xs p.boxes.xs
 wf:Wf l.xs
 nodup:part.Nodup
 lt:∀ i∈part,i < l.xs.length
 pos:0 < part.length
 few:part.length<=12
 within:∀ f∈p.facts.xs,f.a.toNat∈part->Within part f
 sols:1 < part.length->(jd p.facts.xs l.xs part).length<=1000000000000000000
theorem sh97:G.shared 97=false:=by decide
theorem e97 (n:Nat) (p:Problem) (l:Sl Box) (part:List Nat) (h:Ei p l part):zF G (n+50) 97 [.agg p.cells,l.pv Box.cells 4,lD part]=some ((zW p.facts.xs l.xs part).pv):=by
 refine zy (zx _) rfl g97 rfl ?_
 by_cases h1:part.length=1
 case pos =>
  obtain ⟨i,rfl⟩:∃ i,part=[i]:=by
   match part,h1 with
   | [i],_=>exact ⟨i,rfl⟩
  have hi:=h.lt i (by simp);have hv:=aH.1 (Ed h.ok h.sub h.wf _ (List.getElem_mem hi));have hD:zW p.facts.xs l.xs [i]=Jy l.xs[i] [i]:=by
   simp [zW,hi]
  rw [hD];have hb:=h.wf _ (List.getElem_mem hi);have ha:=Qb hb;have hz1:=fun H=>zf (G:=G) (n:=n+49) (H:=H) (caps:=[]) (ps:=[.agg l.xs[i].x.cells]) sh92 (e92 (n+48) l.xs[i].x (by omega) (by omega));have hz2:=fun H=>zf (G:=G) (n:=n+49) (H:=H) (caps:=[]) (ps:=[.agg l.xs[i].y.cells]) sh92 (e92 (n+48) l.xs[i].y (by omega) (by omega));have hw:=zkG (u:=l.xs[i].x.hi - l.xs[i].x.lo+1) (v:=l.xs[i].y.hi - l.xs[i].y.lo+1) (by have:=hb.1;omega) (by omega) (by have:=hb.2;omega) (by omega);have hiI:(i:Int) < l.xs.length:=by omega
  have Vn:=zp4 (sz:=4) (bytes:=96) (zero:=[.nils,.nils,.nils,.nils]) (k:=.i64) (k':=.i64) (n:=1) (by decide);have hmk1:U1 4 96 [.nils,.nils,.nils,.nils] (.pure (.int .i64 1)) (.pure (.int .i64 1))=some (.new (.cells true [.pure .nils,.pure .nils,.pure .nils,.pure .nils]) fun id=>.row id 4 0 1):=Vn;have hA:Hide (((oq l.xs[i]).toNat:Int)=(l.xs[i].x.hi - l.xs[i].x.lo+1)*(l.xs[i].y.hi - l.xs[i].y.lo+1)):=⟨by
   rw [Int.toNat_of_nonneg (by omega)];rfl⟩
  simp only [Span.cells,List.map] at hz1 hz2;have hpk0:yV 1 (.pure (.slice false 1 [[.int .i64 (i:Int)]])) (.pure (.int .i64 0))=some (.val (.pure (.ptr false [.int .i64 (i:Int)] 0))):=by simp [yV]
  have QA:∀ id:Nat,yV 4 (.row id 4 0 1) (.pure (.int .i64 0))=some (.val (.box id 0)):=fun id=>by simp [yV]
  clear hv hb ha Vn hD h1;(repeat' first|simp [*,zb,c97,lD,Box.cells,Span.cells,zH,TP,chunks,beside]|(apply za<;>intro _ h<;>try simp [-Nat.le_zero_eq] at h)|(show wpE 0 (zh ..) ..;refine zm ?_)|(refine ze fun v2 H2 aV aD ae af ai aj=>?_))
  refine zlO (jV:=0) (D:=Jy l.xs[i] [i]) ?_ ?_
  .simp [Jy,hA.h,lD,iN,Sl.pv,Pt.cells]
  .refine zl4 (n:=10) (m:=1) (cs:=[.pure (iN (some [⟨l.xs[i].x.lo,l.xs[i].y.lo⟩])),.row 4 2 0 1,.pure (iN (some [⟨l.xs[i].x.lo,l.xs[i].y.lo⟩])),.row 5 2 0 1]) ?_ rfl ?_
   .simp [iN,Sl.pv,Pt.cells]
   .refine .cons (.pure _) (.cons (sI (n:=8) (f:=Pt.cells) (sz:=2) (l:=[⟨l.xs[i].x.hi,l.xs[i].y.lo⟩]) (fun _=>rfl) ?_ rfl) (.cons (.pure _) (.cons (sI (n:=8) (f:=Pt.cells) (sz:=2) (l:=[⟨l.xs[i].x.lo,l.xs[i].y.hi⟩]) (fun _=>rfl) ?_ rfl) .nil)))
    .simp [zq]
    .simp [zq]
 case neg =>
  have hD:zW p.facts.xs l.xs part=MI p.facts.xs l.xs part:=by unfold zW;rw [if_neg h1]
  rw [hD];have hmp:=h.pos;have hmf:=h.few;have YT:¬ (part.length:Int)=1:=by omega
  have hlp:J6 (.pure (lD part))=some (.val (.pure (.int .i64 part.length))):=by simp [lD]
  have NB:AV.cells (.pure (lD part))=[.pure (lD part)]:=rfl;have Vu:part.length*4<=zu/\part.length*96<=zu/\part.length<=zu:=by unfold zu;omega
  have GY:l.xs≠[]:=by
   intro e;have:=h.lt part[0] (List.getElem_mem hmp);rw [e] at this;simp at this
  have hl12:l.xs.length<=12:=by have:=h.sub.1;have:=h.ok.nb;omega
  have DI:=zs8 part.length;simp only [List.map] at DI;have hH:=Hide.mk h;have hl0H:=Hide.mk GY;clear h hD h1 GY;(repeat' first|simp [*,zb,c97,zH]|(apply za<;>intro _ h<;>try simp [-Nat.le_zero_eq] at h)|(show wpE 0 (zh ..) ..;refine zm ?_)|(refine ze fun v2 H2 aV aD ae af ai aj=>?_))
  refine Gn (by omega) ?_
  intro v H1 hv KA bU ah aS;obtain ⟨aB,rfl,hg⟩:=hv.row hl0H.h;have uh:2 < aB:=by have:=aS aB ⟨_,_,_,rfl⟩;simp at this;omega
  have LU:=zo hg;have b0:H1.get 0=.cells true (zq mV (List.replicate (4*part.length) none)):=by
   rw [ah 0 (by simp)];simp [DI]
  have b1:H1.get 1=.cells true (Jr part 0 (LX (4*part.length))):=by
   rw [ah 1 (by simp)];simp [Jr,LX,iN]
  have b2:H1.get 2=.cells true [.box 1 0]:=by
   rw [ah 2 (by simp)];simp
  clear hv KA bU ah aS DI Vu;(repeat' first|simp [*,zb]|(apply za<;>intro _ h<;>try simp [-Nat.le_zero_eq] at h)|(show wpE 0 (zh ..) ..;refine zm ?_)|(refine ze fun v2 H2 aV aD ae af ai aj=>?_))
  refine zA [(11,15),(89,136)] (fun (k:Nat) env H2=>env 89=.pure (.int .i64 k)/\k<=part.length/\H1.nx+1 < H2.nx/\Hide (V9 l part aB H1.nx H2)/\∃ V,H2.get (H1.nx+1)=.cells true [V]/\Hide (nR p.facts.xs part (H1.nx+1) H2 V k)) (fun k=>part.length - k) 0 ?_ ?_ ?_ ?_
  .decide
  .refine ⟨by simp,by omega,by simp,⟨?_⟩,.pure .nils,?_,⟨nR.nil _ _ _ _⟩⟩
   .refine ⟨?_,?_,?_,?_,?_⟩
    .rw [zi (by simp<;>omega),zg (by omega),zi (by omega)];exact b0
    .rw [zi (by simp<;>omega),zg (by omega),zi (by omega)];exact b1
    .rw [zi (by simp<;>omega),zg (by omega),zi (by omega)];exact b2
    .rw [zi (by simp<;>omega),zg (by omega),zi (by omega)];exact hg
    .rw [zi (by simp),zn (by simp)]
   .simp
  .simp only [zz];omega
  clear b0 b1 b2 hg;have nf:=hH.h.ok.nf;rintro k env H2 ⟨g89,hk,aD,hB,V,Y9,hM⟩
  by_cases aK:k < part.length
  .have w1:IntKind.i64.wrap ((k:Int)+1)=(k+1:Nat):=by rw [wrap64 (by omega) (by omega)];omega
   have jM:(k:Int) < part.length:=by omega
   have HV:aC aF 1 H2 (.pure .nils) ([]:List Int):=aC.nil;have HV:=Hide.mk HV;(repeat' first|simp [*,zb]|(apply za<;>intro _ h<;>try simp [-Nat.le_zero_eq] at h)|(show wpE 0 (zh ..) ..;refine zm ?_)|(refine ze fun v2 H2 aV aD ae af ai aj=>?_))
   refine zA [(12,15),(95,131)] (fun (i:Nat) env H3=>env 95=.pure (.int .i64 i)/\i<=p.facts.xs.length/\H2.nx<=H3.nx/\Hide (∀ c,c < H2.nx->H3.get c=H2.get c)/\∃ u,env 12=u/\Hide (aC aF 1 H3 u (iA p.facts.xs part k i)/\∀ id,Names u id->H2.nx<=id)) (fun i=>p.facts.xs.length - i) 0 ?_ ?_ ?_ ?_
   .decide
   .exact ⟨by simp,by omega,Nat.le_refl _,⟨fun _ _=>rfl⟩,_,rfl,⟨by rw [zmY];exact HV.h,fun id ⟨_,_,_,h⟩=>by simp at h⟩⟩
   .simp only [zz];omega
   have g89':=g89;clear g89 HV;rintro i env H3 ⟨g95,hi,Ad,ah,u,g12,hU⟩
   by_cases aT:i < p.facts.xs.length
   .have w2:IntKind.i64.wrap ((i:Int)+1)=(i+1:Nat):=by rw [wrap64 (by omega) (by omega)];omega
    have hilI:(i:Int) < p.facts.xs.length:=by omega
    have c1:=fun (x:Int) H=>zf (G:=G) (n:=n+49) (H:=H) (caps:=[]) (ps:=[(Sl.mk false (zL part)).pv aF 1,.int .i64 x]) sh99 (e99 (n+48) (Sl.mk false (zL part)) x (nK part x) (by rw [Sl.bL,z8];omega) (Y6 part x));have c2:=fun (x:Int) H=>zf (G:=G) (n:=n+49) (H:=H) (caps:=[]) (ps:=[(Sl.mk false (zL part)).pv aF 1,.int .i64 x]) sh70 (e70 (n+47) (Sl.mk false (zL part)) x (by rw [Sl.bL,z8];omega));rw [<- Kv] at c1 c2;simp only [List.map_cons,List.map_nil,Sl.bL] at c1 c2;have CV:=Hide.mk (zp0 (part:=part) (k:=k) aT);obtain ⟨f,hf⟩:∃ f,f=p.facts.xs[i]:=⟨_,rfl⟩
    have hmB:Hide (nQ part k p.facts.xs[i]=(decide (tJ part f=k)&&decide (f.a∈zL part))):=⟨by rw [hf];unfold nQ;congr⟩
    have vM:Hide (tJ part f=if f.kind=2 then max (max (nK part f.a) (nK part f.b)) (nK part f.c) else max (nK part f.a) (nK part f.b)):=⟨rfl⟩
    rw [<- hf] at hmB CV;have tO:=hf.symm;have hAdd:Hide (∀ (H4:Heap) (u4:AV),H3.nx<=H4.nx->aC aF 1 H4 u4 ((iA p.facts.xs part k i)++(if nQ part k f=true then [(i:Int)] else []))->aC aF 1 H4 u4 (iA p.facts.xs part k (i+1))):=⟨fun H4 u4 _ h=>h.cast CV.h⟩
    have hmlen:(iA p.facts.xs part k i).length<=60:=by have:=zoc p.facts.xs part k i;omega
    generalize (iA p.facts.xs part k i)=L at *;have sU:Hide (nQ part k f=(decide (tJ part f=k)&&decide (f.a∈zL part))):=⟨by unfold nQ;congr⟩
    clear CV hf hmB;obtain ⟨d1,d2,d3,da,db,dc,⟨d4,d5⟩,d6⟩:=f;simp only at vM sU;have c1a:=c1 da;have c1b:=c1 db;have c1c:=c1 dc;have c2a:=c2 da;clear c1 c2;generalize nK part da=ia at *;generalize nK part db=ib at *;generalize nK part dc=ic at *;have hU1:=hU.h.1;have QB:=hU1.1.one;have hU1a:=QB.1;have hU1b:=QB.2;have Ot:=Hide.mk hU.h;have BG:=Hide.mk hU1;clear hU hU1 QB
    by_cases nM:d2=2
    .have xL:Hide (tJ part ⟨d1,d2,d3,da,db,dc,⟨d4,d5⟩,d6⟩=max ia (max ib ic)):=⟨by rw [vM.h,if_pos nM];exact Int.max_assoc ..⟩
     clear vM;subst nM
     by_cases hc:max ia (max ib ic)=(k:Int)
     .by_cases hd:da∈zL part
      .have Eh:=Hide.mk (fun H4 u4 hx (h:aC aF 1 H4 u4 (L++[(i:Int)]))=>hAdd.h H4 u4 hx (by rw [sU.h,xL.h,decide_eq_true hc,decide_eq_true hd];exact h));clear sU xL hAdd;(repeat' first|simp [*,zb,Fact.cells,Span.cells]|(apply za<;>intro _ h<;>try simp [-Nat.le_zero_eq] at h)|(show wpE 0 (zh ..) ..;refine zm ?_)|(refine ze fun v2 H2 aV aD ae af ai aj=>?_))
       refine Fp (f:=aF) (sz:=1) (l:=L) ((BG.h.mi _ _).alloc _) (fun _=>rfl) (by decide) (fun _=>rfl) (by unfold zu;omega) ⟨(i:Int),by simp [aF],?_⟩
       intro u4 H4 j5 ha;have Qg:Hide (aC aF 1 H4 u4 (iA p.facts.xs part k (i+1))/\∀ id,Names u4 id->H2.nx<=id):=⟨Eh.h H4 u4 (by have:=ha.nx;simp at this;omega) j5,fun id hn=>by have:=ha.new id hn;simp at this;omega⟩
       have hs4:Hide (∀ c,c < H2.nx->H4.get c=H2.get c):=⟨fun c hc=>by rw [ha.get c (by simp;omega) (fun hn=>by have:=Ot.h.2 c hn;omega),zi (by simp;omega),zg (by omega),zi (by omega)];exact ah.h c hc⟩
       have Vi:H2.nx<=H4.nx:=by have:=ha.nx;simp at this;omega
       clear j5 ha ah Eh Ot BG;(repeat' first|simp [*,zb]|(apply za<;>intro _ h<;>try simp [-Nat.le_zero_eq] at h)|(show wpE 0 (zh ..) ..;refine zm ?_)|(refine ze fun v2 H2 aV aD ae af ai aj=>?_));exact ⟨i+1,by omega,by omega,by omega,Qg⟩
      .have vE:Hide (∀ H4,aC aF 1 H4 u L->H3.nx<=H4.nx->aC aF 1 H4 u (iA p.facts.xs part k (i+1))):=⟨fun H4 h hx=>hAdd.h H4 u hx (by rw [sU.h,xL.h,decide_eq_false hd];simpa using h)⟩
       clear sU xL hAdd;(repeat' first|simp [*,zb,Fact.cells,Span.cells]|(apply za<;>intro _ h<;>try simp [-Nat.le_zero_eq] at h)|(show wpE 0 (zh ..) ..;refine zm ?_)|(refine ze fun v2 H2 aV aD ae af ai aj=>?_))
       refine ⟨i+1,by omega,by omega,by omega,by omega,⟨fun c hc=>?_⟩,⟨vE.h _ (BG.h.mi _ _) (by simp),Ot.h.2⟩⟩
       rw [zg (by omega),zi (by omega)];exact ah.h c hc
     .have vE:Hide (∀ H4,aC aF 1 H4 u L->H3.nx<=H4.nx->aC aF 1 H4 u (iA p.facts.xs part k (i+1))):=⟨fun H4 h hx=>hAdd.h H4 u hx (by rw [sU.h,xL.h,decide_eq_false hc];simpa using h)⟩
      clear sU xL hAdd;(repeat' first|simp [*,zb,Fact.cells,Span.cells]|(apply za<;>intro _ h<;>try simp [-Nat.le_zero_eq] at h)|(show wpE 0 (zh ..) ..;refine zm ?_)|(refine ze fun v2 H2 aV aD ae af ai aj=>?_))
      refine ⟨i+1,by omega,by omega,by omega,by omega,⟨fun c hc=>?_⟩,⟨vE.h _ (BG.h.mi _ _) (by simp),Ot.h.2⟩⟩
      rw [zg (by omega),zi (by omega)];exact ah.h c hc
    .have xL:Hide (tJ part ⟨d1,d2,d3,da,db,dc,⟨d4,d5⟩,d6⟩=max ia ib):=⟨by rw [vM.h,if_neg nM]⟩
     clear vM
     by_cases hc:max ia ib=(k:Int)
     .by_cases hd:da∈zL part
      .have Eh:=Hide.mk (fun H4 u4 hx (h:aC aF 1 H4 u4 (L++[(i:Int)]))=>hAdd.h H4 u4 hx (by rw [sU.h,xL.h,decide_eq_true hc,decide_eq_true hd];exact h));clear sU xL hAdd;(repeat' first|simp [*,zb,Fact.cells,Span.cells]|(apply za<;>intro _ h<;>try simp [-Nat.le_zero_eq] at h)|(show wpE 0 (zh ..) ..;refine zm ?_)|(refine ze fun v2 H2 aV aD ae af ai aj=>?_))
       refine Fp (f:=aF) (sz:=1) (l:=L) ((BG.h.mi _ _).alloc _) (fun _=>rfl) (by decide) (fun _=>rfl) (by unfold zu;omega) ⟨(i:Int),by simp [aF],?_⟩
       intro u4 H4 j5 ha;have Qg:Hide (aC aF 1 H4 u4 (iA p.facts.xs part k (i+1))/\∀ id,Names u4 id->H2.nx<=id):=⟨Eh.h H4 u4 (by have:=ha.nx;simp at this;omega) j5,fun id hn=>by have:=ha.new id hn;simp at this;omega⟩
       have hs4:Hide (∀ c,c < H2.nx->H4.get c=H2.get c):=⟨fun c hc=>by rw [ha.get c (by simp;omega) (fun hn=>by have:=Ot.h.2 c hn;omega),zi (by simp;omega),zg (by omega),zi (by omega)];exact ah.h c hc⟩
       have Vi:H2.nx<=H4.nx:=by have:=ha.nx;simp at this;omega
       clear j5 ha ah Eh Ot BG;(repeat' first|simp [*,zb]|(apply za<;>intro _ h<;>try simp [-Nat.le_zero_eq] at h)|(show wpE 0 (zh ..) ..;refine zm ?_)|(refine ze fun v2 H2 aV aD ae af ai aj=>?_));exact ⟨i+1,by omega,by omega,by omega,Qg⟩
      .have vE:Hide (∀ H4,aC aF 1 H4 u L->H3.nx<=H4.nx->aC aF 1 H4 u (iA p.facts.xs part k (i+1))):=⟨fun H4 h hx=>hAdd.h H4 u hx (by rw [sU.h,xL.h,decide_eq_false hd];simpa using h)⟩
       clear sU xL hAdd;(repeat' first|simp [*,zb,Fact.cells,Span.cells]|(apply za<;>intro _ h<;>try simp [-Nat.le_zero_eq] at h)|(show wpE 0 (zh ..) ..;refine zm ?_)|(refine ze fun v2 H2 aV aD ae af ai aj=>?_))
       refine ⟨i+1,by omega,by omega,by omega,by omega,⟨fun c hc=>?_⟩,⟨vE.h _ (BG.h.mi _ _) (by simp),Ot.h.2⟩⟩
       rw [zg (by omega),zi (by omega)];exact ah.h c hc
     .have vE:Hide (∀ H4,aC aF 1 H4 u L->H3.nx<=H4.nx->aC aF 1 H4 u (iA p.facts.xs part k (i+1))):=⟨fun H4 h hx=>hAdd.h H4 u hx (by rw [sU.h,xL.h,decide_eq_false hc];simpa using h)⟩
      clear sU xL hAdd;(repeat' first|simp [*,zb,Fact.cells,Span.cells]|(apply za<;>intro _ h<;>try simp [-Nat.le_zero_eq] at h)|(show wpE 0 (zh ..) ..;refine zm ?_)|(refine ze fun v2 H2 aV aD ae af ai aj=>?_))
      refine ⟨i+1,by omega,by omega,by omega,by omega,⟨fun c hc=>?_⟩,⟨vE.h _ (BG.h.mi _ _) (by simp),Ot.h.2⟩⟩
      rw [zg (by omega),zi (by omega)];exact ah.h c hc
   .have hie:i=p.facts.xs.length:=by omega
    subst hie;have vU:=hU.h;rw [zoh] at vU;have hUo:=vU.1.1.one;have hUo1:=hUo.1;have hUo2:=hUo.2;have We:H3.get (H1.nx+1)=.cells true [V]:=by rw [ah.h _ aD];exact Y9
    have QC:=Hide.mk vU;have Je:H1.nx+1 < H3.nx:=by omega
    clear hUo vU;(repeat' first|simp [*,zb]|(apply za<;>intro _ h<;>try simp [-Nat.le_zero_eq] at h)|(show wpE 0 (zh ..) ..;refine zm ?_)|(refine ze fun v2 H2 aV aD ae af ai aj=>?_))
    refine zk4 (mb:=H1.nx+1) (k:=k) (u:=u) ((hM.h.keep (H':=H3) fun c _ hc=>ah.h c hc).keep fun c _ hc=>zi hc) ?_ (QC.h.1.alloc _).1 ?_ (by simp;omega) (by unfold zu;omega) ?_
    .simp
    .intro id hn;have:=QC.h.2 id hn;exact ⟨by omega,fun h=>by have:=hM.h.lt h;omega⟩
    intro v' H' hM' Dq oH o1 o2;have hmb':H'.get (H1.nx+1)=.cells true [V]:=by rw [oH _ (Nat.le_refl _),zi Je];exact We
    have tQ:H1.nx+1 < H'.nx:=by simp at Dq;omega
    have hM2:Hide (∀ o,nR p.facts.xs part (H1.nx+1) (H'.set (H1.nx+1) o) v' (k+1)):=⟨fun o=>hM'.keep fun c hc _=>zg (by omega)⟩
    have Og:Hide (∀ o,V9 l part aB H1.nx (H'.set (H1.nx+1) o)):=⟨fun o=>hB.h.keep (mb:=H1.nx+1) ⟨by omega,by omega,by omega⟩ fun c hc=>by
     rw [zg (by omega),oH c (by omega),zi (by omega),ah.h c (by omega)]⟩
    clear hM' oH hB hM ah We hU QC Y9;(repeat' first|simp [*,zb]|(apply za<;>intro _ h<;>try simp [-Nat.le_zero_eq] at h)|(show wpE 0 (zh ..) ..;refine zm ?_)|(refine ze fun v2 H2 aV aD ae af ai aj=>?_));exact ⟨k+1,by omega,by omega,by omega,⟨Og.h _⟩,⟨hM2.h _⟩⟩
  .have Vw:k=part.length:=by omega
   subst Vw;have Vu:part.length*2<=zu/\part.length*16<=zu/\part.length<=zu:=by unfold zu;omega
   have key:∀ Hs:Heap,Hs.nx=H2.nx+3->(∀ j,j < H2.nx->Hs.get j=H2.get j)->Hs.get H2.nx=.cells true (zq Pt.cells (List.replicate part.length ⟨0,0⟩))->Hs.get (H2.nx+1)=.cells true [.row H2.nx 2 0 part.length] ->
     Hs.get (H2.nx+1+1)=.cells true [.func 114 (ME ⟨1,0,2,H2.nx,H2.nx+1,aB,H1.nx,0,H1.nx+1,H2.nx+1+1⟩ p l part)] ->
     ∃ H',Vm.call G (n+48+1) (.fn 114) ([.pure (.int .i64 0)]++ME ⟨1,0,2,H2.nx,H2.nx+1,aB,H1.nx,0,H1.nx+1,H2.nx+1+1⟩ p l part) Hs=some (.aQ [],H') /\
      (H'.get 2=.cells true [.box 1 0]/\H'.get 1=.cells true (Jr part 0 ((jd p.facts.xs l.xs part).foldl Dc (LX (4*part.length))))/\H'.get 0=.cells true (zq mV ((jd p.facts.xs l.xs part).foldl Dc (LX (4*part.length))).best)):=by
    intro Hs hn hg s1 s2 s3;have KE:=hH.h;obtain ⟨ml,wH,hcp'⟩:=zvV KE.ok KE.sub KE.wf KE.nodup KE.lt KE.pos KE.few KE.within;obtain ⟨xs,hra,VP,wX,MH⟩:=hM.h.ex;have MJ:=hB.h;rcases hra with ⟨_,rfl⟩|⟨mid,rfl,hxne,MK⟩
    .simp at VP;omega
    have hmlo:=hM.h.low mid ⟨_,_,_,rfl⟩;have Wh:=zo MK;have Qt:xs.length=part.length:=VP;have sp:1 < part.length:=by omega
    have hsf:=KE.sols sp;obtain ⟨H',r1,r2,mW,r3,_⟩:=zmh (I:=⟨1,0,2,H2.nx,H2.nx+1,aB,H1.nx,mid,H1.nx+1,H2.nx+1+1⟩) hcp' part.length (n+41 - 3*part.length) 0 Hs (LX (4*part.length)) (List.replicate part.length ⟨0,0⟩) l.xs (by omega)
     ⟨⟨(by decide:0 < 1),(by decide:1 < 2),uh,LU,(by omega:H1.nx < H1.nx+1),hmlo,Wh,(by omega:H2.nx < H2.nx+1),(by omega:H2.nx+1 < H2.nx+1+1)⟩,by show Hs.get 2=_;rw [hg 2 (by omega)];exact MJ.sb,s2,by show Hs.get H1.nx=_;rw [hg H1.nx (by omega)];exact MJ.hb,by show Hs.get (H1.nx+1)=_;rw [hg _ aD];rw [Y9,Qt],⟨xs,by rw [hg _ Wh];exact MK,Qt,fun k hk=>by
      obtain ⟨a,b⟩:=MH k hk;rw [wH k (by omega)];exact ⟨a.keep fun id ⟨n,hn⟩=>hg id (a.names_lt ⟨_,_,_,hn⟩),fun id aB=>⟨(b id aB).1,a.names_lt aB⟩⟩⟩,s3⟩
     ⟨by show Hs.get 1=_;rw [hg 1 (by omega)];exact MJ.s,by show Hs.get 0=_;rw [hg 0 (by omega)];exact MJ.e,s1,by show Hs.get aB=_;rw [hg aB (by omega)];exact MJ.h,zse _,⟨by simp,fun x hx=>by
      have:=List.eq_of_mem_replicate hx;subst this;exact ⟨⟨by decide,by decide⟩,⟨by decide,by decide⟩⟩⟩⟩
     (aR.refl _) KE.wf (fun j h _=>rfl) (by
      have:(wZ (uj p.facts.xs part) l.xs (part.drop 0) 0 l.xs).length=(jd p.facts.xs l.xs part).length:=rfl;rw [this];show 0+_<=_;omega)
    refine ⟨H',?_,?_,?_,?_⟩
    .have e:n+41 - 3*part.length+8+3*part.length=n+48+1:=by omega
     rw [e] at r1;exact r1
    .rw [r2.get 2 (by omega) (show (2:Nat)≠1 by decide) (show (2:Nat)≠0 by decide) (by show 2≠H2.nx;omega) (by show 2≠aB;omega),hg _ (by omega)];exact MJ.sb
    .have:=r3.s
     simpa [jd] using this
    .have:=r3.e
     simpa [jd] using this
   have hrp:=zsX part.length;simp only [List.map] at hrp;have Wi:=Hide.mk key;have hDl:Hide (((jd p.facts.xs l.xs part).foldl Dc (LX (4*part.length)))=⟨(jd p.facts.xs l.xs part).length,(jd p.facts.xs l.xs part).head?,(List.range (4*part.length)).map fun j=>Vg (lG j) (jd p.facts.xs l.xs part)⟩):=⟨zrh _ _⟩
   clear key hB hM;(repeat' first|simp [*,zb]|(apply za<;>intro _ h<;>try simp [-Nat.le_zero_eq] at h)|(show wpE 0 (zh ..) ..;refine zm ?_)|(refine ze fun v2 H2 aV aD ae af ai aj=>?_))
   refine Da (n:=n+48) zjI (AU (Wi.h _ ?_ ?_ ?_ ?_ ?_) ?_)
   .simp
   .intro j hj;rw [zg (by omega),zi (by rw [lM];simp;omega),zg (by omega),zi (by simp;omega),zi hj]
   .rw [zg (by omega),zi (by rw [lM];simp;omega),zg (by omega),zi (by simp),F7]
   .simp
   .simp [ME]
   .rintro H' ⟨q1,q2,q3⟩;rw [hDl.h] at q2 q3;clear Wi hDl;(repeat' first|simp [*,zb]|(apply za<;>intro _ h<;>try simp [-Nat.le_zero_eq] at h)|(show wpE 0 (zh ..) ..;refine zm ?_)|(refine ze fun v2 H2 aV aD ae af ai aj=>?_))
    refine zrk (jV:=0) (D:=MI p.facts.xs l.xs part) ?_ ?_ ?_
    .exact q2
    .exact q3
    .simp [MI]
end Go.Proofs.YtmmhnfghklppiaaGreat.Vm
