/- Narrowing: what the specification's Boxes computes. Narrow and Volume: the specification's, walked. -/
import Derived.Test.YtmmhnfghklppiaaGreatPk25
import Derived.Test.YtmmhnfghklppiaaGreatPk28
import Derived.Test.YtmmhnfghklppiaaGreatPk9
import Derived.Test.YtmmhnfghklppiaaGreatPk34
import Derived.Test.YtmmhnfghklppiaaGreatPk26
namespace Go.Proofs.YtmmhnfghklppiaaGreat.Vm
open Go
set_option linter.unusedSimpArgs false
set_option linter.unusedVariables false
set_option maxHeartbeats 4000000
set_option maxRecDepth 4000
def anyF (fs:List Fact) (l:List Box):Bool:=fs.any fun f=>zJ f l
theorem anyF_iff {fs:List Fact} {l:List Box}:anyF fs l=true↔∃ f∈fs,zJ f l=true:=by simp [anyF]
def zrZ (fs:List Fact) (l:List Box) (i:Nat):Prop:=∀ j (h:j < fs.length),j < i->zJ fs[j] l=false
theorem e81 (n:Nat) (p:Problem) (l:Sl Box) (hl:p.facts.xs.length<=60) (hr:∀ f∈p.facts.xs,ROk f l.xs/\(f.kind=3->0<=f.quarter/\f.quarter<=3)):zH G (n+8) 81 [.agg p.cells,l.pv Box.cells 4]=some (.bool (anyF p.facts.xs l.xs)):=by
 refine zy (zx _) rfl g81 rfl ?_
 obtain ⟨bs,fs⟩:=p;have hfv:=Hide.mk fun (f:Fact) (hf:f∈fs.xs) H=>zf (G:=G) (n:=n+7) (H:=H) (caps:=[]) (ps:=[.agg f.cells,l.pv Box.cells 4]) ztI (e102 n f l (hr f hf).1 (hr f hf).2);generalize hR:anyF fs.xs l.xs=R;have hR:=Hide.mk hR;have hl:fs.xs.length<=60:=hl;clear hr;(repeat' first|simp [*,za,c81,Problem.cells]|(apply zb<;>intro _ h<;>try simp [-Nat.le_zero_eq] at h))
 refine zB [(4,21)] (fun (i:Nat) env H=>env 5=.pure (.int .i64 i)/\i<=fs.xs.length/\Hide (zrZ fs.xs l.xs i)) (fun i=>fs.xs.length - i) 0 ?_ ?_ ?_ ?_
 ·decide
 ·exact ⟨by simp,by omega,⟨fun _ _ h=>by omega⟩⟩
 ·simp only [zz];omega
 rintro i env H ⟨g0,hi,hn⟩
 by_cases hlt:i < fs.xs.length
 ·have w1:IntKind.i64.wrap ((i:Int)+1)=(i+1:Nat):=by rw [wrap64 (by omega) (by omega)];omega
  have hltI:(i:Int) < fs.xs.length:=by omega
  have hv:=hfv.h fs.xs[i] (List.getElem_mem hlt);simp only [Fact.cells,List.map_cons,List.map_nil] at hv
  cases hf:zJ fs.xs[i] l.xs with
  | true =>
   have hRk:R=true:=by rw [<- hR.h,anyF_iff];exact ⟨_,List.getElem_mem hlt,hf⟩
   rw [hf] at hv;clear hf hn hfv hR;subst hRk;(repeat' first|simp [*,za,Fact.cells]|(apply zb<;>intro _ h<;>try simp [-Nat.le_zero_eq] at h))
  | false =>
   have hn':Hide (zrZ fs.xs l.xs (i+1)):=⟨fun j h hj=>by
    by_cases e:j=i
    ·subst e;exact hf
    ·exact hn.h j h (by omega)⟩
   rw [hf] at hv;clear hf hn hfv hR;(repeat' first|simp [*,za,Fact.cells]|(apply zb<;>intro _ h<;>try simp [-Nat.le_zero_eq] at h));exact ⟨i+1,by omega,rfl,by omega,hn'⟩
 ·have hil:i=fs.xs.length:=by omega
  subst hil;have hRk:R=false:=by
   rw [<- hR.h,<- Bool.not_eq_true,anyF_iff];rintro ⟨f,hf,h⟩;obtain ⟨j,hj,rfl⟩:=List.mem_iff_getElem.1 hf;rw [hn.h j hj hj] at h;simp at h
  subst hRk;clear hn hfv hR;(repeat' first|simp [*,za]|(apply zb<;>intro _ h<;>try simp [-Nat.le_zero_eq] at h))
theorem sh80:G.shared 80=false:=by decide
theorem e80 (n:Nat) (b:Box) (k:Nat) (hk:k < 4):zH G (n+2) 80 [.agg b.cells,.int .i64 k]=some (.agg (zaG b k).cells):=by
 refine zy (zx _) rfl g80 rfl ?_
 have h1:=fun H=>zf (G:=G) (n:=n+1) (H:=H) (caps:=[]) (ps:=[.agg b.x.cells,.int .i64 k]) sh57 (e57 n b.x k);have h2:=fun H=>zf (G:=G) (n:=n+1) (H:=H) (caps:=[]) (ps:=[.agg b.y.cells,.int .i64 k]) sh57 (e57 n b.y k);simp only [Span.cells,List.map_cons,List.map_nil] at h1 h2;have hk4:k=0\/k=1\/k=2\/k=3:=by omega
 rcases hk4 with rfl|rfl|rfl|rfl
 ·have e1:endS b.x 0=b.x.lo:=rfl;have e2:((0:Nat):Int)=0:=rfl;simp only [e1,e2] at h1;clear h2 e2;(repeat' first|simp [*,za,c80,Box.cells,Span.cells,zaG]|(apply zb<;>intro _ h<;>try simp [-Nat.le_zero_eq] at h))
 ·have e1:endS b.x 1=b.x.hi:=rfl;have e2:((1:Nat):Int)=1:=rfl;simp only [e1,e2] at h1;clear h2 e2;(repeat' first|simp [*,za,c80,Box.cells,Span.cells,zaG]|(apply zb<;>intro _ h<;>try simp [-Nat.le_zero_eq] at h))
 ·have e1:endS b.y 2=b.y.lo:=rfl;have e2:((2:Nat):Int)=2:=rfl;simp only [e1,e2] at h2;clear h1 e2;(repeat' first|simp [*,za,c80,Box.cells,Span.cells,zaG]|(apply zb<;>intro _ h<;>try simp [-Nat.le_zero_eq] at h))
 ·have e1:endS b.y 3=b.y.hi:=rfl;have e2:((3:Nat):Int)=3:=rfl;simp only [e1,e2] at h2;clear h1 e2;(repeat' first|simp [*,za,c80,Box.cells,Span.cells,zaG]|(apply zb<;>intro _ h<;>try simp [-Nat.le_zero_eq] at h))
theorem zrs {b:Box} (h:wfB b) {k:Nat} (hk:k < 4):(decide ((cutB b k).x.lo<=(cutB b k).x.hi)&&decide ((cutB b k).y.lo<=(cutB b k).y.hi))=!decide (zaE b k):=by
 unfold wfB at h;have hk4:k=0\/k=1\/k=2\/k=3:=by omega
 rw [Bool.eq_iff_iff,Bool.and_eq_true,Bool.not_eq_true',decide_eq_true_eq,decide_eq_true_eq,decide_eq_false_iff_not];rcases hk4 with rfl|rfl|rfl|rfl<;>simp only [cutB,zaE]<;>simp<;>omega
theorem sh82:G.shared 82=false:=by decide
theorem e82 (n:Nat) (b:Box) (k:Nat) (hk:k < 4) (hv:zan b=true):zH G (n+1) 82 [.agg b.cells,.int .i64 k]=some (.tup [.agg (cutB b k).cells,.bool (!decide (zaE b k))]):=by
 refine zy (zx _) rfl g82 rfl ?_
 have hvv:=valid_iff.1 hv;rw [<- zrs ⟨by omega,by omega⟩ hk];have v1:IntKind.i64.wrap (b.x.lo+1)=b.x.lo+1:=wrap64 (by omega) (by omega);have v2:IntKind.i64.wrap (b.x.hi - 1)=b.x.hi - 1:=wrap64 (by omega) (by omega);have v3:IntKind.i64.wrap (b.y.lo+1)=b.y.lo+1:=wrap64 (by omega) (by omega);have v4:IntKind.i64.wrap (b.y.hi - 1)=b.y.hi - 1:=wrap64 (by omega) (by omega);clear hvv hv;have hk4:k=0\/k=1\/k=2\/k=3:=by omega
 rcases hk4 with rfl|rfl|rfl|rfl
 ·(repeat' first|simp [*,za,c82,Box.cells,Span.cells,cutB]|(apply zb<;>intro _ h<;>try simp [-Nat.le_zero_eq] at h))
 ·(repeat' first|simp [*,za,c82,Box.cells,Span.cells,cutB]|(apply zb<;>intro _ h<;>try simp [-Nat.le_zero_eq] at h))
 ·(repeat' first|simp [*,za,c82,Box.cells,Span.cells,cutB]|(apply zb<;>intro _ h<;>try simp [-Nat.le_zero_eq] at h))
 ·(repeat' first|simp [*,za,c82,Box.cells,Span.cells,cutB]|(apply zb<;>intro _ h<;>try simp [-Nat.le_zero_eq] at h))
section
variable {p:Problem} {L L0:List Box} {i k:Nat} {c:Bool}
structure RJ (p:Problem) (L0 L:List Box) (c:Bool) (i k:Nat):Prop where
 hold:Holds' zZ p.facts.xs p.boxes.xs L
 same:c=false->L=L0/\zn1 p L i k
 less:c=true->zbB L < zbB L0
theorem RJ.start (h:Holds' zZ p.facts.xs p.boxes.xs L):RJ p L L false 0 0:=⟨h,fun _=>⟨rfl,fun i' k' _ h=>by omega⟩,fun h=>by cases h⟩
theorem RJ.exit (h:RJ p L0 L c i k) (hb:anyF p.facts.xs (zX L i k)=false):RJ p L0 L c i (k+1):=by
 refine ⟨h.hold,fun hc=>?_,h.less⟩
 obtain ⟨h3,h4⟩:=h.same hc
 refine ⟨h3,fun i' k' hk' hlt hi' f hf=>?_⟩
 rcases hlt with hl|⟨rfl,hl⟩
 ·exact h4 i' k' hk' (.inl hl) hi' f hf
 ·rcases Nat.lt_succ_iff_lt_or_eq.1 hl with hl|rfl
  ·exact h4 i' k' hk' (.inr ⟨rfl,hl⟩) hi' f hf
  ·cases hs:zJ f (zX L i' k') with
   | false=>rfl
   | true=>rw [anyF_iff.2 ⟨f,hf,hs⟩] at hb;simp at hb
theorem RJ.step (ok:CheckOk p) (h:RJ p L0 L c i k) (hi:i < L.length) (hk:k < 4) (hb:anyF p.facts.xs (zX L i k)=true) (ht:¬ zaE L[i] k):RJ p L0 (cutL L i k) true i k/\zbB (cutL L i k) < zbB L:=by
 obtain ⟨f,hf,hs⟩:=anyF_iff.1 hb;have h2:=zfs h.hold.wf hi hk ht
 refine ⟨⟨h.hold.cut (zb7 ok) hi hk hf hs ht,fun hc=>(by cases hc),fun _=>?_⟩,h2⟩
 cases c with
 | false=>have:=(h.same rfl).1;subst this;exact h2
 | true=>have:=h.less rfl;omega
theorem RJ.empty (ok:CheckOk p) (h:RJ p L0 L c i k) (hi:i < L.length) (hk:k < 4) (hb:anyF p.facts.xs (zX L i k)=true) (ht:zaE L[i] k):IsNar zZ p.facts.xs p.boxes.xs none:=by
 obtain ⟨f,hf,hs⟩:=anyF_iff.1 hb;exact h.hold.empty (zb7 ok) hi hk hf hs ht
theorem RJ.nextI (h:RJ p L0 L c i 4):RJ p L0 L c (i+1) 0:=⟨h.hold,fun hc=>⟨(h.same hc).1,fun i' k' hk' hlt hi' f hf=>(h.same hc).2 i' k' hk' (by omega) hi' f hf⟩,h.less⟩
theorem RJ.done (h:RJ p L0 L c L.length 0) (hc:c=false):Stable zZ p.facts.xs L:=fun i hi k hk f hf hs=>by
 have:=(h.same hc).2 i k hk (.inl hi) hi f hf;unfold zZ at hs;rw [this] at hs;simp at hs
end
theorem zju {l:List Box} {i:Nat} (h:i < l.length) (b:Box):zbO (.cells true (zn Box.cells l)) 4 (i*4) [.pure (.int .i64 b.x.lo),.pure (.int .i64 b.x.hi),.pure (.int .i64 b.y.lo),.pure (.int .i64 b.y.hi)]=some (.cells true (zn Box.cells (l.set i b))) :=
 za0 (f:=Box.cells) (sz:=4) (a:=b) (fun _=>rfl) (fun _=>rfl) (by decide) h
def ziE:Option (List Box)->PV
 | none=>.nils
 | some l=>(Sl.mk false l).pv Box.cells 4
theorem zon {fn m id:Nat} {l:List Box} {Hy:Heap} {p1 r:PV} {pre N:Nat} {k:AV->Heap->Prop} {u} (hs:G.shared fn=false) (hid:id < Hy.nx) (hl:l.length=m)
  (h:∀ s:Sl Box,s.xs=l->zH G N fn [p1,s.pv Box.cells 4]=some r) (hc:r.cold=true) (hk:k (.pure r) (Hy.set id (.cells true (zn Box.cells l)))) :
  wpE pre (zG (zt G N) (Hy.set id (.cells true (zn Box.cells l))) (.pure (.func fn [])) [.pure p1,.row id 4 0 m]) (Hy.set id (.cells true (zn Box.cells l))) k u:=by
 obtain ⟨s1,hs1,hf1⟩:=zcX (n:=10) (f:=Box.cells) (sz:=4) (fun _=>rfl) (zq hid) hl;exact zda (caps:=[]) (ps:=[_,_]) hs (.cons (.pure _) (.cons hf1 .nil)) (h s1 hs1) hc hk
theorem sh40:G.shared 40=false:=by decide
theorem e40 (n:Nat) (p:Problem) (ok:CheckOk p) (r:Option (List Box)) (hr:IsNar zZ p.facts.xs p.boxes.xs r):zH G (n+9) 40 [.agg p.cells]=some (.tup [ziE r,.bool r.isSome]):=by
 refine zy (zx _) rfl g40 rfl ?_
 obtain ⟨bs,fs⟩:=p;have nb:bs.xs.length<=12:=ok.nb;have nf:fs.xs.length<=60:=ok.nf;have okH:=Hide.mk ok;have hrH:=Hide.mk hr;have hsc:Hide (∀ Hx,zL Hx 4 (.pure (bs.pv Box.cells 4))=some (zn Box.cells bs.xs,bs.xs.length)):=⟨fun Hx=>zaV (f:=Box.cells) (sz:=4) (fun _=>rfl) _⟩
 have hsome:Hide (∀ l:Sl Box,SubL l.xs bs.xs->Wf l.xs->zH G (n+8) 81 [.agg (Problem.mk bs fs).cells,l.pv Box.cells 4]=some (.bool (anyF fs.xs l.xs))) :=
  ⟨fun l h3 h4=>e81 n ⟨bs,fs⟩ l nf (fun f hf=>⟨zeG ok h3 h4 hf,zt9 (l:=l.xs) (ok.fine h3.1 (zaQ ok h3 h4) hf)⟩)⟩
 have hstr:Hide (∀ (b:Box) (k:Nat),k < 4->∀ H,zG (zt G (n+8)) H (.pure (.func 80 [])) [.pure (.agg b.cells),.pure (.int .i64 k)]=some (.val (.pure (.agg (zaG b k).cells)))):=⟨fun b k hk H=>zf (caps:=[]) (ps:=[_,_]) sh80 (e80 (n+6) b k hk)⟩
 have hcut:Hide (∀ (b:Box) (k:Nat),k < 4->zan b=true->∀ H,zG (zt G (n+8)) H (.pure (.func 82 [])) [.pure (.agg b.cells),.pure (.int .i64 k)]=some (.val (.pure (.tup [.agg (cutB b k).cells,.bool (!decide (zaE b k))])))):=⟨fun b k hk hv H=>zf (caps:=[]) (ps:=[_,_]) sh82 (e82 (n+7) b k hk hv)⟩
 by_cases hN:bs.xs=[]
 ·have hrs:r=some []:=hrH.h.unique (s:=some []) (by
   show IsNar zZ fs.xs bs.xs (some []);rw [hN];exact ⟨Holds'.init (fun b hb=>by simp at hb),fun i hi=>by simp at hi⟩)
  subst hrs;have hbl:bs.xs.length=0:=by rw [hN];rfl
  have hpv:ziE (some [])=(Sl.mk false []).pv Box.cells 4:=rfl;have hap:zi (Heap.empty.alloc (AObj.cells true [])) 4 32 (.row 0 4 0 0) (.pure (bs.pv Box.cells 4))=some (.upd (.row 0 4 0 0) ((Heap.empty.alloc (AObj.cells true [])).set 0 (.cells true []))):=by
   have h:=hsc.h (Heap.empty.alloc (AObj.cells true []));rw [hN] at h;have hr0:zn Box.cells []=[]:=rfl;rw [hr0] at h;simp only [zi,h];rfl
  clear hr hN hsome hstr hcut hsc;(repeat' first|simp [*,za,c40,Problem.cells]|(apply zb<;>intro _ h<;>try simp [-Nat.le_zero_eq] at h));clear hap
  refine zB [(2,3),(5,11),(16,57)] (fun (b:Bool) env H=>env 5=.pure (.bool b)/\H=(Heap.empty.alloc (AObj.cells true [])).set 0 (.cells true [])) (fun b=>if b=true then 1 else 0) true ?_ ?_ ?_ ?_
  ·decide
  ·exact ⟨by simp,rfl⟩
  ·simp only [zz];simp
  rintro b env H ⟨g6,rfl⟩
  cases b with
  | false =>
   obtain ⟨ids,hids⟩:=zba (n:=9) (f:=Box.cells) (sz:=4) (id:=0) (l:=[]) (m:=0) (H:=(Heap.empty.alloc (AObj.cells true [])).set 0 (.cells true [])) (fun _=>rfl) rfl rfl;(repeat' first|simp [*,za]|(apply zb<;>intro _ h<;>try simp [-Nat.le_zero_eq] at h))
  | true =>
   (repeat' first|simp [*,za]|(apply zb<;>intro _ h<;>try simp [-Nat.le_zero_eq] at h))
   refine zB [(2,3),(5,11),(17,57)] (fun (u:Unit) env H2=>env 6=.pure (.int .i64 0)/\env 5=.pure (.bool false)/\H2=(Heap.empty.alloc (AObj.cells true [])).set 0 (.cells true [])) (fun u=>0) () ?_ ?_ ?_ ?_
   ·decide
   ·exact ⟨by simp,by simp,rfl⟩
   ·simp only [zz];omega
   rintro u env2 H2 ⟨g27,g6',rfl⟩;(repeat' first|simp [*,za]|(apply zb<;>intro _ h<;>try simp [-Nat.le_zero_eq] at h))
 clear hr ok;(repeat' first|simp [*,za,c40,Problem.cells]|(apply zb<;>intro _ h<;>try simp [-Nat.le_zero_eq] at h))
 refine zcl (f:=Box.cells) (l:=[]) (m:=bs.xs) (.inr ⟨0,rfl,by simp [zdk]⟩) (fun _=>rfl) (by decide) (fun _=>rfl) (hsc.h _) (by simp [zu];omega) ?_
 intro v H1 hv hnx hsame hnm;simp only [List.nil_append] at hv;have hN0:0 < bs.xs.length:=List.length_pos_iff.2 hN;obtain ⟨id,rfl,hg⟩:=hv.row hN;have hid:=zo hg;have hJ0:Hide (Holds' zZ fs.xs bs.xs bs.xs):=⟨Holds'.init (zcM okH.h)⟩
 have hpv:Hide (∀ l,ziE (some l)=(Sl.mk false l).pv Box.cells 4):=⟨fun l=>rfl⟩
 have hnone:ziE none=.nils:=rfl;clear hv hnx hsame hnm hsc hN;(repeat' first|simp [*,za]|(apply zb<;>intro _ h<;>try simp [-Nat.le_zero_eq] at h))
 refine zB [(2,3),(5,11),(16,57)] (fun (s:List Box×Bool) env H=>env 5=.pure (.bool s.2)/\id < H.nx/\H.get id=.cells true (zn Box.cells s.1)/\Hide (Holds' zZ fs.xs bs.xs s.1/\(s.2=false->Stable zZ fs.xs s.1))) (fun s=>2*zbB s.1+if s.2=true then 1 else 0) (bs.xs,true) ?_ ?_ ?_ ?_
 ·decide
 ·exact ⟨by simp,hid,hg,⟨hJ0.h,fun h=>by cases h⟩⟩
 ·have:=ze2 okH.h (L:=bs.xs) (SubL.refl _);simp only [zz,if_true];omega
 clear hJ0 hg hid;rintro ⟨L0,b⟩ env H ⟨g6,hid,hg,hJ⟩;simp only at g6 hg;have hL0:Hide (L0.length=bs.xs.length):=⟨hJ.h.1.sub.1⟩
 have hg0:=Hide.mk hg
 cases b with
 | false =>
  have hrs:r=some L0:=hJ.h.1.stop (hJ.h.2 rfl) hrH.h;subst hrs;obtain ⟨ids,hids⟩:=zba (n:=9) (f:=Box.cells) (sz:=4) (fun _=>rfl) hg hL0.h;rw [hpv.h];clear hJ hrH;(repeat' first|simp [*,za]|(apply zb<;>intro _ h<;>try simp [-Nat.le_zero_eq] at h))
 | true =>
  have hP0:=Hide.mk (RJ.start (p:=⟨bs,fs⟩) hJ.h.1);clear hJ hg;(repeat' first|simp [*,za]|(apply zb<;>intro _ h<;>try simp [-Nat.le_zero_eq] at h))
  refine zB [(2,3),(5,11),(17,57)] (fun (i:Nat) env H=>env 6=.pure (.int .i64 i)/\i<=bs.xs.length/\∃ c:Bool,env 5=.pure (.bool c)/\id < H.nx/\∃ L,H.get id=.cells true (zn Box.cells L)/\Hide (RJ ⟨bs,fs⟩ L0 L c i 0)) (fun i=>bs.xs.length - i) 0 ?_ ?_ ?_ ?_
  ·decide
  ·exact ⟨by simp,by omega,false,by simp,hid,L0,hg0.h,hP0⟩
  ·simp only [zz];omega
  clear hP0 g6 hid hg0;rintro i env H ⟨g27,hi,c,g6,hid,L,hg,hP⟩;have hLl:Hide (L.length=bs.xs.length):=⟨hP.h.hold.sub.1⟩
  by_cases hlt:i < bs.xs.length
  ·have w0:IntKind.i64.wrap ((i:Int)+1)=(i+1:Nat):=by rw [wrap64 (by omega) (by omega)];omega
   have hltI:(i:Int) < bs.xs.length:=by omega
   (repeat' first|simp [*,za]|(apply zb<;>intro _ h<;>try simp [-Nat.le_zero_eq] at h))
   refine zB [(2,3),(5,5),(7,11),(23,57)] (fun (s:Nat×List Box) env H=>env 7=.pure (.int .i64 s.1)/\s.1<=4/\∃ c:Bool,env 5=.pure (.bool c)/\id < H.nx/\H.get id=.cells true (zn Box.cells s.2)/\Hide (RJ ⟨bs,fs⟩ L0 s.2 c i s.1)) (fun s=>5*zbB s.2+(4 - s.1)) (0,L) ?_ ?_ ?_ ?_
   ·decide
   ·exact ⟨by simp,by omega,c,by simp [g6],hid,hg,hP⟩
   ·have:=ze2 okH.h (L:=L) hP.h.hold.sub;simp only [zz];omega
   have g27':=g27;clear g27 g6 hid hg hP hLl;rintro ⟨k,s⟩ env H ⟨g35,hk,c,g6,hid,hg,hP⟩;simp only at g35 hk hg;have hls:s.length=bs.xs.length:=hP.h.hold.sub.1
   by_cases hk4:k < 4
   ·have w1:IntKind.i64.wrap ((k:Int)+1)=(k+1:Nat):=by rw [wrap64 (by omega) (by omega)];omega
    have hkI:(k:Int) < 4:=by omega
    have his:i < s.length:=by omega
    have hsw:=hP.h.hold.wf;have hss:=hP.h.hold.sub;have hvv:=zaQ okH.h hss hsw _ (List.getElem_mem his);have c1:=hstr.h s[i] k hk4;have c3:=hcut.h s[i] k hk4 hvv;have hsm:=Hide.mk (fun (q:Sl Box) (hq:q.xs=zX s i k)=>hsome.h q (by rw [hq];exact (zer hsw his k).trans hss) (by rw [hq];exact zfp hsw his k));simp only [Box.cells,Span.cells] at c1 c3;have p1:=zju his;have p2:zbO (.cells true (zn Box.cells (s.set i (zaG s[i] k)))) 4 (i*4) [.pure (.int .i64 s[i].x.lo),.pure (.int .i64 s[i].x.hi),.pure (.int .i64 s[i].y.lo),.pure (.int .i64 s[i].y.hi)]=some (.cells true (zn Box.cells s)):=by
     have:=zju (l:=s.set i (zaG s[i] k)) (i:=i) (by simpa using his) s[i];rw [List.set_set,List.set_getElem_self] at this;exact this
    have hne:id≠H.nx:=by omega
    have hne2:H.nx≠id:=by omega
    have hid1:id < H.nx+1:=by omega
    have hid2:id < H.nx+1+1:=by omega
    have hne3:id≠H.nx+1:=by omega
    have hne4:H.nx+1≠id:=by omega
    have hstp:Hide (zX s i k=s.set i (zaG s[i] k)):=⟨zaM his k⟩
    have hlsH:=Hide.mk hls;clear hsw hss hvv hls;(repeat' first|simp [*,za]|(apply zb<;>intro _ h<;>try simp [-Nat.le_zero_eq] at h));have c2:∀ q:Sl Box,q.xs=s.set i (zaG s[i] k)->zH G (n+8) 81 [.agg [bs.pv Box.cells 4,fs.pv Fact.cells 9],q.pv Box.cells 4]=some (.bool (anyF fs.xs (zX s i k))):=fun q hq=>by
     rw [<- hstp.h] at hq;have:=hsm.h q hq;rw [hq] at this;exact this
    refine zon (by decide) (by simp;omega) (by simp [hlsH.h]) c2 rfl ?_
    clear c2 hsm
    cases hb:anyF fs.xs (zX s i k) with
    | false =>
     have hP2:=Hide.mk (hP.h.exit hb);clear hP hb;(repeat' first|simp [*,za]|(apply zb<;>intro _ h<;>try simp [-Nat.le_zero_eq] at h))
     refine ⟨k+1,s,by omega,by omega,by omega,?_⟩
     cases c with
     | false=>exact .inl ⟨rfl,rfl,hP2⟩
     | true=>exact .inr ⟨rfl,rfl,hP2⟩
    | true =>
     have hlB:=Hide.mk hb;clear hb
     by_cases ht:zaE s[i] k
     ·have hrn:r=none:=hrH.h.unique (hP.h.empty okH.h his hk4 hlB.h ht);subst hrn;clear hP;(repeat' first|simp [*,za]|(apply zb<;>intro _ h<;>try simp [-Nat.le_zero_eq] at h))
     ·have hst:=hP.h.step okH.h his hk4 hlB.h ht;rw [zcz his] at hst;have hP2:=Hide.mk hst.1;have hms:=Hide.mk hst.2;clear hP hst;(repeat' first|simp [*,za]|(apply zb<;>intro _ h<;>try simp [-Nat.le_zero_eq] at h))
      refine ⟨k,s.set i (cutB s[i] k),by have:=hms.h;simp only at this;omega,rfl,by omega,rfl,?_⟩
      exact hP2
   ·have hkk:k=4:=by omega
    subst hkk;have hP2:=Hide.mk hP.h.nextI;clear hP hls;(repeat' first|simp [*,za]|(apply zb<;>intro _ h<;>try simp [-Nat.le_zero_eq] at h))
    refine ⟨i+1,by omega,rfl,by omega,?_⟩
    cases c with
    | false=>exact .inl ⟨rfl,s,rfl,hP2⟩
    | true=>exact .inr ⟨rfl,s,rfl,hP2⟩
  ·have hiN:i=bs.xs.length:=by omega
   subst hiN;have hP2:=hP.h;rw [<- hLl.h] at hP2;have hst:=Hide.mk hP2.done;have hns:=Hide.mk hP2.hold;have hle:=Hide.mk hP2.less;have hsm:=Hide.mk hP2.same;clear hP hP2;(repeat' first|simp [*,za]|(apply zb<;>intro _ h<;>try simp [-Nat.le_zero_eq] at h))
   refine ⟨L,?_⟩
   cases c with
   | false=>exact .inl ⟨by rw [(hsm.h rfl).1];omega,rfl,rfl,⟨hns.h,hst.h rfl⟩⟩
   | true=>exact .inr ⟨hle.h rfl,rfl,rfl,⟨hns.h⟩⟩
theorem zdS {p:Problem} (ok:CheckOk p) {m:Nat->Nat} (hm:IsCls (zak p.facts.xs) p.boxes.xs.length m) {l:List Nat} (hl:l∈zK m p.boxes.xs.length):∃ h:0 < l.length,zeI p.facts.xs (l[0]:Nat)=decide (1 < l.length):=by
 obtain ⟨i,hi,hr,rfl⟩:=mem_parts.1 hl;have hd:∀ f∈p.facts.xs,f.a≠f.b/\(f.kind=2->f.c≠f.a):=fun f hf=>by
  have h:=(z8 _ _).1 (ok.fact f hf);exact ⟨h.2.2.2.1,fun hk=>(h.2.2.2.2.2.1 hk).2.2.1⟩
 obtain ⟨h1,h2,h3⟩:=zh0 hm (fun f hf=>zgn (ok.fact f hf)) hd hi hr
 refine ⟨h2,?_⟩
 have e0:(zaP m p.boxes.xs.length i)[0]=i:=by
  rw [List.getElem?_eq_getElem h2] at h3;exact Option.some.inj h3
 rw [e0,Bool.eq_iff_iff,decide_eq_true_eq];have key:zeI p.facts.xs (i:Int)=true↔∃ f∈p.facts.xs,zgK f i:=by
  unfold zeI;rw [List.any_eq_true]
  constructor
  ·rintro ⟨f,hf,h⟩
   refine ⟨f,hf,?_⟩
   unfold zfY at h;simp only [Bool.or_eq_true,Bool.and_eq_true,decide_eq_true_eq] at h;unfold zgK;omega
  ·rintro ⟨f,hf,h⟩
   refine ⟨f,hf,?_⟩
   have hff:=(z8 _ _).1 (ok.fact f hf);unfold zfY;simp only [Bool.or_eq_true,Bool.and_eq_true,decide_eq_true_eq];unfold zgK at h;rcases h with h|h|⟨hk,h⟩
   ·left;left;omega
   ·left;right;omega
   ·right;have:=hff.2.2.2.2.2.1 hk;omega
 rw [key]
 constructor
 ·rintro ⟨f,hf,h⟩;have:¬ (zaP m p.boxes.xs.length i).length=1:=fun h'=>h1.1 h' f hf h;omega
 ·intro h
  refine Classical.byContradiction fun hc=>?_
  have:=h1.2 fun f hf hn=>hc ⟨f,hf,hn⟩;omega
end Go.Proofs.YtmmhnfghklppiaaGreat.Vm
