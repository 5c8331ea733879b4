/- Narrowing: what the specification's Boxes computes. Narrow and Volume: the specification's, walked. -/
import Derived.Test.YtmmhnfghklppiaaGreatUk24
import Derived.Test.YtmmhnfghklppiaaGreatUk27
import Derived.Test.YtmmhnfghklppiaaGreatUk8
import Derived.Test.YtmmhnfghklppiaaGreatUk33
import Derived.Test.YtmmhnfghklppiaaGreatUk25
namespace Go.Proofs.YtmmhnfghklppiaaGreat.Vm
open Go
set_option linter.unusedSimpArgs false
set_option linter.unusedVariables false
set_option maxHeartbeats 4000000
set_option maxRecDepth 4000
def xw (fs:List Fact) (l:List Box):Bool:=fs.any fun f=>zD f l
theorem oQ {fs:List Fact} {l:List Box}:xw fs l=true↔∃ f∈fs,zD f l=true:=by simp [xw]
def zrd (fs:List Fact) (l:List Box) (i:Nat):Prop:=∀ j (h:j < fs.length),j < i->zD fs[j] l=false
theorem e81 (n:Nat) (p:Problem) (l:Sl Box) (hl:p.facts.xs.length<=60) (hr:∀ f∈p.facts.xs,rT f l.xs/\(f.kind=3->0<=f.quarter/\f.quarter<=3)):zF G (n+8) 81 [.agg p.cells,l.pv Box.cells 4]=some (.bool (xw p.facts.xs l.xs)):=by
 refine zy (zx _) rfl g81 rfl ?_
 obtain ⟨bs,fs⟩:=p;have tF:=Hide.mk fun (f:Fact) (hf:f∈fs.xs) H=>zf (G:=G) (n:=n+7) (H:=H) (caps:=[]) (ps:=[.agg f.cells,l.pv Box.cells 4]) zr4 (e102 n f l (hr f hf).1 (hr f hf).2);generalize hR:xw fs.xs l.xs=R;have hR:=Hide.mk hR;have hl:fs.xs.length<=60:=hl;clear hr;(repeat' first|simp [*,zb,c81,Problem.cells]|(apply za<;>intro _ h<;>try simp [-Nat.le_zero_eq] at h))
 refine zA [(4,21)] (fun (i:Nat) env H=>env 5=.pure (.int .i64 i)/\i<=fs.xs.length/\Hide (zrd fs.xs l.xs i)) (fun i=>fs.xs.length - i) 0 ?_ ?_ ?_ ?_
 .decide
 .exact ⟨by simp,by omega,⟨fun _ _ h=>by omega⟩⟩
 .simp only [zz];omega
 rintro i env H ⟨g0,hi,hn⟩
 by_cases aK:i < fs.xs.length
 .have w1:IntKind.i64.wrap ((i:Int)+1)=(i+1:Nat):=by rw [wrap64 (by omega) (by omega)];omega
  have jM:(i:Int) < fs.xs.length:=by omega
  have hv:=tF.h fs.xs[i] (List.getElem_mem aK);simp only [Fact.cells,List.map] at hv
  cases hf:zD fs.xs[i] l.xs with
  | true =>
   have Ea:R=true:=by rw [<- hR.h,oQ];exact ⟨_,List.getElem_mem aK,hf⟩
   rw [hf] at hv;clear hf hn tF hR;subst Ea;simp [*,zb,Fact.cells]
  | false =>
   have jc:Hide (zrd fs.xs l.xs (i+1)):=⟨fun j h hj=>by
    by_cases e:j=i
    .subst e;exact hf
    .exact hn.h j h (by omega)⟩
   rw [hf] at hv;clear hf hn tF hR;(repeat' first|simp [*,zb,Fact.cells]|(apply za<;>intro _ h<;>try simp [-Nat.le_zero_eq] at h));exact ⟨i+1,by omega,rfl,by omega,jc⟩
 .have aT:i=fs.xs.length:=by omega
  subst aT;have Ea:R=false:=by
   rw [<- hR.h,<- Bool.not_eq_true,oQ];rintro ⟨f,hf,h⟩;obtain ⟨j,hj,rfl⟩:=List.mem_iff_getElem.1 hf;rw [hn.h j hj hj] at h;simp at h
  subst Ea;clear hn tF hR;simp [*,zb]
theorem sh80:G.shared 80=false:=by decide
theorem e80 (n:Nat) (b:Box) (k:Nat) (hk:k < 4):zF G (n+2) 80 [.agg b.cells,.int .i64 k]=some (.agg (qw b k).cells):=by
 refine zy (zx _) rfl g80 rfl ?_
 have h1:=fun H=>zf (G:=G) (n:=n+1) (H:=H) (caps:=[]) (ps:=[.agg b.x.cells,.int .i64 k]) sh57 (e57 n b.x k);have h2:=fun H=>zf (G:=G) (n:=n+1) (H:=H) (caps:=[]) (ps:=[.agg b.y.cells,.int .i64 k]) sh57 (e57 n b.y k);simp only [Span.cells,List.map] at h1 h2;have nE:k=0\/k=1\/k=2\/k=3:=by omega
 rcases nE with rfl|rfl|rfl|rfl
 .have e1:bE b.x 0=b.x.lo:=rfl;have e2:((0:Nat):Int)=0:=rfl;simp only [e1,e2] at h1;clear h2 e2;simp [*,zb,c80,Box.cells,Span.cells,qw]
 .have e1:bE b.x 1=b.x.hi:=rfl;have e2:((1:Nat):Int)=1:=rfl;simp only [e1,e2] at h1;clear h2 e2;simp [*,zb,c80,Box.cells,Span.cells,qw]
 .have e1:bE b.y 2=b.y.lo:=rfl;have e2:((2:Nat):Int)=2:=rfl;simp only [e1,e2] at h2;clear h1 e2;simp [*,zb,c80,Box.cells,Span.cells,qw]
 .have e1:bE b.y 3=b.y.hi:=rfl;have e2:((3:Nat):Int)=3:=rfl;simp only [e1,e2] at h2;clear h1 e2;simp [*,zb,c80,Box.cells,Span.cells,qw]
theorem zrH {b:Box} (h:ja b) {k:Nat} (hk:k < 4):(decide ((jK b k).x.lo<=(jK b k).x.hi)&&decide ((jK b k).y.lo<=(jK b k).y.hi))=!decide (mI b k):=by
 unfold ja at h;have nE:k=0\/k=1\/k=2\/k=3:=by omega
 rw [Bool.eq_iff_iff,Bool.and_eq_true,Bool.not_eq_true',decide_eq_true_eq,decide_eq_true_eq,decide_eq_false_iff_not];rcases nE with rfl|rfl|rfl|rfl<;>simp only [jK,mI]<;>simp<;>omega
theorem sh82:G.shared 82=false:=by decide
theorem e82 (n:Nat) (b:Box) (k:Nat) (hk:k < 4) (hv:mJ b=true):zF G (n+1) 82 [.agg b.cells,.int .i64 k]=some (.aQ [.agg (jK b k).cells,.bool (!decide (mI b k))]):=by
 refine zy (zx _) rfl g82 rfl ?_
 have wG:=aH.1 hv;rw [<- zrH ⟨by omega,by omega⟩ hk];have v1:IntKind.i64.wrap (b.x.lo+1)=b.x.lo+1:=wrap64 (by omega) (by omega);have v2:IntKind.i64.wrap (b.x.hi - 1)=b.x.hi - 1:=wrap64 (by omega) (by omega);have v3:IntKind.i64.wrap (b.y.lo+1)=b.y.lo+1:=wrap64 (by omega) (by omega);have v4:IntKind.i64.wrap (b.y.hi - 1)=b.y.hi - 1:=wrap64 (by omega) (by omega);clear wG hv;have nE:k=0\/k=1\/k=2\/k=3:=by omega
 rcases nE with rfl|rfl|rfl|rfl
 ·(repeat' first|simp [*,zb,c82,Box.cells,Span.cells,jK]|(apply za<;>intro _ h<;>try simp [-Nat.le_zero_eq] at h))
 ·(repeat' first|simp [*,zb,c82,Box.cells,Span.cells,jK]|(apply za<;>intro _ h<;>try simp [-Nat.le_zero_eq] at h))
 ·(repeat' first|simp [*,zb,c82,Box.cells,Span.cells,jK]|(apply za<;>intro _ h<;>try simp [-Nat.le_zero_eq] at h))
 ·(repeat' first|simp [*,zb,c82,Box.cells,Span.cells,jK]|(apply za<;>intro _ h<;>try simp [-Nat.le_zero_eq] at h))
section
variable {p:Problem} {L L0:List Box} {i k:Nat} {c:Bool}
structure RJ (p:Problem) (L0 L:List Box) (c:Bool) (i k:Nat):Prop where
 hold:Holds' jR p.facts.xs p.boxes.xs L
 same:c=false->L=L0/\znD p L i k
 less:c=true->ui L < ui L0
theorem RJ.start (h:Holds' jR p.facts.xs p.boxes.xs L):RJ p L L false 0 0:=⟨h,fun _=>⟨rfl,fun i' k' _ h=>by omega⟩,fun h=>by cases h⟩
theorem RJ.exit (h:RJ p L0 L c i k) (hb:xw p.facts.xs (jP L i k)=false):RJ p L0 L c i (k+1):=by
 refine ⟨h.hold,fun hc=>?_,h.less⟩
 obtain ⟨h3,h4⟩:=h.same hc
 refine ⟨h3,fun i' k' xI aK bV f hf=>?_⟩
 rcases aK with hl|⟨rfl,hl⟩
 .exact h4 i' k' xI (.inl hl) bV f hf
 .rcases Nat.lt_succ_iff_lt_or_eq.1 hl with hl|rfl
  .exact h4 i' k' xI (.inr ⟨rfl,hl⟩) bV f hf
  .cases hs:zD f (jP L i' k') with
   | false=>rfl
   | true=>rw [oQ.2 ⟨f,hf,hs⟩] at hb;simp at hb
theorem RJ.step (ok:ak p) (h:RJ p L0 L c i k) (hi:i < L.length) (hk:k < 4) (hb:xw p.facts.xs (jP L i k)=true) (ht:¬ mI L[i] k):RJ p L0 (rA L i k) true i k/\ui (rA L i k) < ui L:=by
 obtain ⟨f,hf,hs⟩:=oQ.1 hb;have h2:=Yq h.hold.wf hi hk ht
 refine ⟨⟨h.hold.cut (Kz ok) hi hk hf hs ht,fun hc=>(by cases hc),fun _=>?_⟩,h2⟩
 cases c with
 | false=>have:=(h.same rfl).1;subst this;exact h2
 | true=>have:=h.less rfl;omega
theorem RJ.empty (ok:ak p) (h:RJ p L0 L c i k) (hi:i < L.length) (hk:k < 4) (hb:xw p.facts.xs (jP L i k)=true) (ht:mI L[i] k):bM jR p.facts.xs p.boxes.xs none:=by
 obtain ⟨f,hf,hs⟩:=oQ.1 hb;exact h.hold.empty (Kz ok) hi hk hf hs ht
theorem RJ.Jm (h:RJ p L0 L c i 4):RJ p L0 L c (i+1) 0:=⟨h.hold,fun hc=>⟨(h.same hc).1,fun i' k' xI aK bV f hf=>(h.same hc).2 i' k' xI (by omega) bV f hf⟩,h.less⟩
theorem RJ.done (h:RJ p L0 L c L.length 0) (hc:c=false):Stable jR p.facts.xs L:=fun i hi k hk f hf hs=>by
 have:=(h.same hc).2 i k hk (.inl hi) hi f hf;unfold jR at hs;rw [this] at hs;simp at hs
end
theorem zkC {l:List Box} {i:Nat} (h:i < l.length) (b:Box):vK (.cells true (zq Box.cells l)) 4 (i*4) [.pure (.int .i64 b.x.lo),.pure (.int .i64 b.x.hi),.pure (.int .i64 b.y.lo),.pure (.int .i64 b.y.hi)]=some (.cells true (zq Box.cells (l.set i b))) :=
 Fj (f:=Box.cells) (sz:=4) (a:=b) (fun _=>rfl) (fun _=>rfl) (by decide) h
def QM:Option (List Box)->PV
 | none=>.nils
 | some l=>(Sl.mk false l).pv Box.cells 4
theorem znP {fn m id:Nat} {l:List Box} {Hy:Heap} {p1 r:PV} {pre N:Nat} {k:AV->Heap->Prop} {u} (hs:G.shared fn=false) (aB:id < Hy.nx) (hl:l.length=m)
  (h:∀ s:Sl Box,s.xs=l->zF G N fn [p1,s.pv Box.cells 4]=some r) (hc:r.cold=true) (hk:k (.pure r) (Hy.set id (.cells true (zq Box.cells l)))) :
  wpE pre (zG (zt G N) (Hy.set id (.cells true (zq Box.cells l))) (.pure (.func fn [])) [.pure p1,.row id 4 0 m]) (Hy.set id (.cells true (zq Box.cells l))) k u:=by
 obtain ⟨s1,AP,Hw⟩:=Ha (n:=10) (f:=Box.cells) (sz:=4) (fun _=>rfl) (zn aB) hl;exact LC (caps:=[]) (ps:=[_,_]) hs (.cons (.pure _) (.cons Hw .nil)) (h s1 AP) hc hk
theorem sh40:G.shared 40=false:=by decide
theorem e40 (n:Nat) (p:Problem) (ok:ak p) (r:Option (List Box)) (hr:bM jR p.facts.xs p.boxes.xs r):zF G (n+9) 40 [.agg p.cells]=some (.aQ [QM r,.bool r.isSome]):=by
 refine zy (zx _) rfl g40 rfl ?_
 obtain ⟨bs,fs⟩:=p;have nb:bs.xs.length<=12:=ok.nb;have nf:fs.xs.length<=60:=ok.nf;have qD:=Hide.mk ok;have vV:=Hide.mk hr;have Dx:Hide (∀ Hx,zM Hx 4 (.pure (bs.pv Box.cells 4))=some (zq Box.cells bs.xs,bs.xs.length)):=⟨fun Hx=>J8 (f:=Box.cells) (sz:=4) (fun _=>rfl) _⟩
 have tK:Hide (∀ l:Sl Box,aR l.xs bs.xs->Wf l.xs->zF G (n+8) 81 [.agg (Problem.mk bs fs).cells,l.pv Box.cells 4]=some (.bool (xw fs.xs l.xs))) :=
  ⟨fun l h3 h4=>e81 n ⟨bs,fs⟩ l nf (fun f hf=>⟨Qk ok h3 h4 hf,zra (l:=l.xs) (ok.fine h3.1 (Ed ok h3 h4) hf)⟩)⟩
 have WI:Hide (∀ (b:Box) (k:Nat),k < 4->∀ H,zG (zt G (n+8)) H (.pure (.func 80 [])) [.pure (.agg b.cells),.pure (.int .i64 k)]=some (.val (.pure (.agg (qw b k).cells)))):=⟨fun b k hk H=>zf (caps:=[]) (ps:=[_,_]) sh80 (e80 (n+6) b k hk)⟩
 have GK:Hide (∀ (b:Box) (k:Nat),k < 4->mJ b=true->∀ H,zG (zt G (n+8)) H (.pure (.func 82 [])) [.pure (.agg b.cells),.pure (.int .i64 k)]=some (.val (.pure (.aQ [.agg (jK b k).cells,.bool (!decide (mI b k))])))):=⟨fun b k hk hv H=>zf (caps:=[]) (ps:=[_,_]) sh82 (e82 (n+7) b k hk hv)⟩
 by_cases hN:bs.xs=[]
 .have Au:r=some []:=vV.h.unique (s:=some []) (by
   show bM jR fs.xs bs.xs (some []);rw [hN];exact ⟨Holds'.init (fun b hb=>by simp at hb),fun i hi=>by simp at hi⟩)
  subst Au;have ES:bs.xs.length=0:=by rw [hN];rfl
  have VC:QM (some [])=(Sl.mk false []).pv Box.cells 4:=rfl;have PY:zh (Heap.empty.alloc (aP.cells true [])) 4 32 (.row 0 4 0 0) (.pure (bs.pv Box.cells 4))=some (.upd (.row 0 4 0 0) ((Heap.empty.alloc (aP.cells true [])).set 0 (.cells true []))):=by
   have h:=Dx.h (Heap.empty.alloc (aP.cells true []));rw [hN] at h;have wE:zq Box.cells []=[]:=rfl;rw [wE] at h;simp only [zh,h];rfl
  clear hr hN tK WI GK Dx;(repeat' first|simp [*,zb,c40,Problem.cells]|(apply za<;>intro _ h<;>try simp [-Nat.le_zero_eq] at h));clear PY
  refine zA [(2,3),(5,11),(16,57)] (fun (b:Bool) env H=>env 5=.pure (.bool b)/\H=(Heap.empty.alloc (aP.cells true [])).set 0 (.cells true [])) (fun b=>if b=true then 1 else 0) true ?_ ?_ ?_ ?_
  .decide
  .exact ⟨by simp,rfl⟩
  .simp only [zz];simp
  rintro b env H ⟨g6,rfl⟩
  cases b with
  | false =>
   obtain ⟨ids,iw⟩:=sI (n:=9) (f:=Box.cells) (sz:=4) (id:=0) (l:=[]) (m:=0) (H:=(Heap.empty.alloc (aP.cells true [])).set 0 (.cells true [])) (fun _=>rfl) rfl rfl;simp [*,zb]
  | true =>
   (repeat' first|simp [*,zb]|(apply za<;>intro _ h<;>try simp [-Nat.le_zero_eq] at h))
   refine zA [(2,3),(5,11),(17,57)] (fun (u:Unit) env H2=>env 6=.pure (.int .i64 0)/\env 5=.pure (.bool false)/\H2=(Heap.empty.alloc (aP.cells true [])).set 0 (.cells true [])) (fun u=>0) () ?_ ?_ ?_ ?_
   .decide
   .exact ⟨by simp,by simp,rfl⟩
   .simp only [zz];omega
   rintro u iB H2 ⟨g27,g6',rfl⟩;simp [*,zb]
 clear hr ok;(repeat' first|simp [*,zb,c40,Problem.cells]|(apply za<;>intro _ h<;>try simp [-Nat.le_zero_eq] at h))
 refine Yp (f:=Box.cells) (l:=[]) (m:=bs.xs) (.inr ⟨0,rfl,by simp [Su]⟩) (fun _=>rfl) (by decide) (fun _=>rfl) (Dx.h _) (by simp [zu];omega) ?_
 intro v H1 hv bU ah wC;simp only [List.nil_append] at hv;have YZ:0 < bs.xs.length:=List.length_pos_iff.2 hN;obtain ⟨id,rfl,hg⟩:=hv.row hN;have aB:=zo hg;have E5:Hide (Holds' jR fs.xs bs.xs bs.xs):=⟨Holds'.init (xX qD.h)⟩
 have VC:Hide (∀ l,QM (some l)=(Sl.mk false l).pv Box.cells 4):=⟨fun l=>rfl⟩
 have rF:QM none=.nils:=rfl;clear hv bU ah wC Dx hN;(repeat' first|simp [*,zb]|(apply za<;>intro _ h<;>try simp [-Nat.le_zero_eq] at h))
 refine zA [(2,3),(5,11),(16,57)] (fun (s:List Box×Bool) env H=>env 5=.pure (.bool s.2)/\id < H.nx/\H.get id=.cells true (zq Box.cells s.1)/\Hide (Holds' jR fs.xs bs.xs s.1/\(s.2=false->Stable jR fs.xs s.1))) (fun s=>2*ui s.1+if s.2=true then 1 else 0) (bs.xs,true) ?_ ?_ ?_ ?_
 .decide
 .exact ⟨by simp,aB,hg,⟨E5.h,fun h=>by cases h⟩⟩
 .have:=Vz qD.h (L:=bs.xs) (aR.refl _);simp only [zz,if_true];omega
 clear E5 hg aB;rintro ⟨L0,b⟩ env H ⟨g6,aB,hg,hJ⟩;simp only at g6 hg;have hL0:Hide (L0.length=bs.xs.length):=⟨hJ.h.1.sub.1⟩
 have rW:=Hide.mk hg
 cases b with
 | false =>
  have Au:r=some L0:=hJ.h.1.stop (hJ.h.2 rfl) vV.h;subst Au;obtain ⟨ids,iw⟩:=sI (n:=9) (f:=Box.cells) (sz:=4) (fun _=>rfl) hg hL0.h;rw [VC.h];clear hJ vV;simp [*,zb]
 | true =>
  have Jj:=Hide.mk (RJ.start (p:=⟨bs,fs⟩) hJ.h.1);clear hJ hg;(repeat' first|simp [*,zb]|(apply za<;>intro _ h<;>try simp [-Nat.le_zero_eq] at h))
  refine zA [(2,3),(5,11),(17,57)] (fun (i:Nat) env H=>env 6=.pure (.int .i64 i)/\i<=bs.xs.length/\∃ c:Bool,env 5=.pure (.bool c)/\id < H.nx/\∃ L,H.get id=.cells true (zq Box.cells L)/\Hide (RJ ⟨bs,fs⟩ L0 L c i 0)) (fun i=>bs.xs.length - i) 0 ?_ ?_ ?_ ?_
  .decide
  .exact ⟨by simp,by omega,false,by simp,aB,L0,rW.h,Jj⟩
  .simp only [zz];omega
  clear Jj g6 aB rW;rintro i env H ⟨g27,hi,c,g6,aB,L,hg,hP⟩;have Qn:Hide (L.length=bs.xs.length):=⟨hP.h.hold.sub.1⟩
  by_cases aK:i < bs.xs.length
  .have w0:IntKind.i64.wrap ((i:Int)+1)=(i+1:Nat):=by rw [wrap64 (by omega) (by omega)];omega
   have jM:(i:Int) < bs.xs.length:=by omega
   (repeat' first|simp [*,zb]|(apply za<;>intro _ h<;>try simp [-Nat.le_zero_eq] at h))
   refine zA [(2,3),(5,5),(7,11),(23,57)] (fun (s:Nat×List Box) env H=>env 7=.pure (.int .i64 s.1)/\s.1<=4/\∃ c:Bool,env 5=.pure (.bool c)/\id < H.nx/\H.get id=.cells true (zq Box.cells s.2)/\Hide (RJ ⟨bs,fs⟩ L0 s.2 c i s.1)) (fun s=>5*ui s.2+(4 - s.1)) (0,L) ?_ ?_ ?_ ?_
   .decide
   .exact ⟨by simp,by omega,c,by simp [g6],aB,hg,hP⟩
   .have:=Vz qD.h (L:=L) hP.h.hold.sub;simp only [zz];omega
   have g27':=g27;clear g27 g6 aB hg hP Qn;rintro ⟨k,s⟩ env H ⟨g35,hk,c,g6,aB,hg,hP⟩;simp only at g35 hk hg;have xK:s.length=bs.xs.length:=hP.h.hold.sub.1
   by_cases nE:k < 4
   .have w1:IntKind.i64.wrap ((k:Int)+1)=(k+1:Nat):=by rw [wrap64 (by omega) (by omega)];omega
    have Hu:(k:Int) < 4:=by omega
    have nk:i < s.length:=by omega
    have Mc:=hP.h.hold.wf;have rP:=hP.h.hold.sub;have wG:=Ed qD.h rP Mc _ (List.getElem_mem nk);have c1:=WI.h s[i] k nE;have c3:=GK.h s[i] k nE wG;have Ag:=Hide.mk (fun (q:Sl Box) (hq:q.xs=jP s i k)=>tK.h q (by rw [hq];exact (YX Mc nk k).trans rP) (by rw [hq];exact YW Mc nk k));simp only [Box.cells,Span.cells] at c1 c3;have p1:=zkC nk;have p2:vK (.cells true (zq Box.cells (s.set i (qw s[i] k)))) 4 (i*4) [.pure (.int .i64 s[i].x.lo),.pure (.int .i64 s[i].x.hi),.pure (.int .i64 s[i].y.lo),.pure (.int .i64 s[i].y.hi)]=some (.cells true (zq Box.cells s)):=by
     have:=zkC (l:=s.set i (qw s[i] k)) (i:=i) (by simpa using nk) s[i];rw [List.set_set,List.set_getElem_self] at this;exact this
    have bC:id≠H.nx:=by omega
    have oh:H.nx≠id:=by omega
    have sH:id < H.nx+1:=by omega
    have jD:id < H.nx+1+1:=by omega
    have hne3:id≠H.nx+1:=by omega
    have hne4:H.nx+1≠id:=by omega
    have hstp:Hide (jP s i k=s.set i (qw s[i] k)):=⟨CX nk k⟩
    have VE:=Hide.mk xK;clear Mc rP wG xK;(repeat' first|simp [*,zb]|(apply za<;>intro _ h<;>try simp [-Nat.le_zero_eq] at h));have c2:∀ q:Sl Box,q.xs=s.set i (qw s[i] k)->zF G (n+8) 81 [.agg [bs.pv Box.cells 4,fs.pv Fact.cells 9],q.pv Box.cells 4]=some (.bool (xw fs.xs (jP s i k))):=fun q hq=>by
     rw [<- hstp.h] at hq;have:=Ag.h q hq;rw [hq] at this;exact this
    refine znP (by decide) (by simp;omega) (by simp [VE.h]) c2 rfl ?_
    clear c2 Ag
    cases hb:xw fs.xs (jP s i k) with
    | false =>
     have rV:=Hide.mk (hP.h.exit hb);clear hP hb;(repeat' first|simp [*,zb]|(apply za<;>intro _ h<;>try simp [-Nat.le_zero_eq] at h))
     refine ⟨k+1,s,by omega,by omega,by omega,?_⟩
     cases c with
     | false=>exact .inl ⟨rfl,rfl,rV⟩
     | true=>exact .inr ⟨rfl,rfl,rV⟩
    | true =>
     have hlB:=Hide.mk hb;clear hb
     by_cases ht:mI s[i] k
     .have vW:r=none:=vV.h.unique (hP.h.empty qD.h nk nE hlB.h ht);subst vW;clear hP;simp [*,zb]
     .have bu:=hP.h.step qD.h nk nE hlB.h ht;rw [I7 nk] at bu;have rV:=Hide.mk bu.1;have CV:=Hide.mk bu.2;clear hP bu;(repeat' first|simp [*,zb]|(apply za<;>intro _ h<;>try simp [-Nat.le_zero_eq] at h))
      refine ⟨k,s.set i (jK s[i] k),by have:=CV.h;simp only at this;omega,rfl,by omega,rfl,?_⟩
      exact rV
   .have wR:k=4:=by omega
    subst wR;have rV:=Hide.mk hP.h.Jm;clear hP xK;(repeat' first|simp [*,zb]|(apply za<;>intro _ h<;>try simp [-Nat.le_zero_eq] at h))
    refine ⟨i+1,by omega,rfl,by omega,?_⟩
    cases c with
    | false=>exact .inl ⟨rfl,s,rfl,rV⟩
    | true=>exact .inr ⟨rfl,s,rfl,rV⟩
  .have qy:i=bs.xs.length:=by omega
   subst qy;have rV:=hP.h;rw [<- Qn.h] at rV;have bu:=Hide.mk rV.done;have IA:=Hide.mk rV.hold;have hle:=Hide.mk rV.less;have Ag:=Hide.mk rV.same;clear hP rV;(repeat' first|simp [*,zb]|(apply za<;>intro _ h<;>try simp [-Nat.le_zero_eq] at h))
   refine ⟨L,?_⟩
   cases c with
   | false=>exact .inl ⟨by rw [(Ag.h rfl).1];omega,rfl,rfl,⟨IA.h,bu.h rfl⟩⟩
   | true=>exact .inr ⟨hle.h rfl,rfl,rfl,⟨IA.h⟩⟩
theorem Zn {p:Problem} (ok:ak p) {m:Nat->Nat} (hm:bH (mM p.facts.xs) p.boxes.xs.length m) {l:List Nat} (hl:l∈zK m p.boxes.xs.length):∃ h:0 < l.length,MZ p.facts.xs (l[0]:Nat)=decide (1 < l.length):=by
 obtain ⟨i,hi,hr,rfl⟩:=jh.1 hl;have hd:∀ f∈p.facts.xs,f.a≠f.b/\(f.kind=2->f.c≠f.a):=fun f hf=>by
  have h:=(vR _ _).1 (ok.fact f hf);exact ⟨h.2.2.2.1,fun hk=>(h.2.2.2.2.2.1 hk).2.2.1⟩
 obtain ⟨h1,h2,h3⟩:=ziF hm (fun f hf=>YV (ok.fact f hf)) hd hi hr
 refine ⟨h2,?_⟩
 have e0:(nZ m p.boxes.xs.length i)[0]=i:=by
  rw [List.getElem?_eq_getElem h2] at h3;exact Option.some.inj h3
 rw [e0,Bool.eq_iff_iff,decide_eq_true_eq];have key:MZ p.facts.xs (i:Int)=true↔∃ f∈p.facts.xs,SN f i:=by
  unfold MZ;rw [List.any_eq_true]
  constructor
  .rintro ⟨f,hf,h⟩
   refine ⟨f,hf,?_⟩
   unfold QL at h;simp only [Bool.or_eq_true,Bool.and_eq_true,decide_eq_true_eq] at h;unfold SN;omega
  .rintro ⟨f,hf,h⟩
   refine ⟨f,hf,?_⟩
   have Gz:=(vR _ _).1 (ok.fact f hf);unfold QL;simp only [Bool.or_eq_true,Bool.and_eq_true,decide_eq_true_eq];unfold SN at h;rcases h with h|h|⟨hk,h⟩
   .left;left;omega
   .left;right;omega
   .right;have:=Gz.2.2.2.2.2.1 hk;omega
 rw [key]
 constructor
 .rintro ⟨f,hf,h⟩;have:¬ (nZ m p.boxes.xs.length i).length=1:=fun h'=>h1.1 h' f hf h;omega
 .intro h
  refine Classical.byContradiction fun hc=>?_
  have:=h1.2 fun f hf hn=>hc ⟨f,hf,hn⟩;omega
end Go.Proofs.YtmmhnfghklppiaaGreat.Vm
