/- What Core, Only and Without leave. Plain Lean. picked and Without, whose problem the caller takes over. -/
import Derived.Test.YtleggocccaeemaaOk25
import Derived.Test.YtleggocccaeemaaOk17
import Derived.Test.YtleggocccaeemaaOk19
import Derived.Test.YtleggocccaeemaaOk27
namespace Go.Proofs.Ytleggocccaeemaa.Vm
open Go
set_option linter.unusedSimpArgs false
set_option linter.unusedVariables false
set_option maxHeartbeats 4000000
theorem zgj:∀ {l m:List Int},l.Pairwise (· < ·)->m.Pairwise (· < ·)->(∀ x,x∈l↔x∈m)->l=m
 | [],[],_,_,_=>rfl
 | [],b::m,_,_,h=>by have:=(h b).2 List.mem_cons_self;simp at this
 | a::l,[],_,_,h=>by have:=(h a).1 List.mem_cons_self;simp at this
 | a::l,b::m,hl,hm,h=>by
  rw [List.pairwise_cons] at hl hm;have e:a=b:=by
   rcases List.mem_cons.1 ((h a).1 List.mem_cons_self) with e|h1
   ·exact e
   ·rcases List.mem_cons.1 ((h b).2 List.mem_cons_self) with e|h2
    ·exact e.symm
    ·have:=hl.1 b h2;have:=hm.1 a h1;omega
  subst e
  congr 1
  refine zgj hl.2 hm.2 fun x=>⟨fun hx=>?_,fun hx=>?_⟩
  ·rcases List.mem_cons.1 ((h x).1 (List.mem_cons_of_mem _ hx)) with e|h1
   ·have:=hl.1 x hx;omega
   ·exact h1
  ·rcases List.mem_cons.1 ((h x).2 (List.mem_cons_of_mem _ hx)) with e|h1
   ·have:=hm.1 x hx;omega
   ·exact h1
def IsIds (L:List Int) (fs:List Fact):Prop:=L.Pairwise (· < ·)/\∀ x,x∈L↔x≠0/\∃ f∈fs,f.id=x
theorem IsIds.unique {L M:List Int} {fs:List Fact} (h:IsIds L fs) (h':IsIds M fs):L=M :=
 zgj h.1 h'.1 fun x=>(h.2 x).trans (h'.2 x).symm
theorem IsIds.nil:IsIds [] []:=⟨List.Pairwise.nil,by simp⟩
theorem IsIds.skip {L:List Int} {fs:List Fact} {f:Fact} (h:IsIds L fs) (hs:f.id∈L\/f.id=0):IsIds L (fs++[f]):=by
 refine ⟨h.1,fun x=>?_⟩
 rw [h.2 x]
 constructor
 ·rintro ⟨hx,g,hg,e⟩;exact ⟨hx,g,List.mem_append_left _ hg,e⟩
 ·rintro ⟨hx,g,hg,e⟩;rcases List.mem_append.1 hg with hg|hg
  ·exact ⟨hx,g,hg,e⟩
  ·simp only [List.mem_singleton] at hg;subst hg;rcases hs with hs|hs
   ·exact e ▸ (h.2 _).1 hs
   ·omega
theorem IsIds.put {L:List Int} {fs:List Fact} {f:Fact} {k:Nat} (h:IsIds L fs) (h0:f.id≠0) (hn:f.id ∉ L) (hk:k<=L.length) (hlo:∀ j (h:j < L.length),j < k->L[j] < f.id) (hhi:∀ h:k < L.length,¬ L[k] < f.id):IsIds (L.take k++[f.id]++L.drop k) (fs++[f]):=by
 have hlo':∀ x∈L.take k,x < f.id:=fun x hx=>by
  obtain ⟨j,hj,rfl⟩:=List.getElem_of_mem hx;rw [List.length_take] at hj;rw [List.getElem_take];exact hlo j (by omega) (by omega)
 have hhi':∀ x∈L.drop k,f.id < x:=fun x hx=>by
  have hxL:x∈L:=List.mem_of_mem_drop hx;have hne:x≠f.id:=fun e=>hn (e ▸ hxL);obtain ⟨j,hj,rfl⟩:=List.getElem_of_mem hx;rw [List.length_drop] at hj;rw [List.getElem_drop] at hne ⊢;have hkl:k < L.length:=by omega
  have:=hhi hkl
  by_cases e:j=0
  ·subst e;simp only [Nat.add_zero] at hne ⊢;omega
  ·have:=List.pairwise_iff_getElem.1 h.1 k (k+j) hkl (by omega) (by omega);omega
 have hL:L.take k++L.drop k=L:=List.take_append_drop k L
 refine ⟨?_,fun x=>?_⟩
 ·have hp:=h.1;rw [<- hL,List.pairwise_append] at hp;rw [List.append_assoc,List.pairwise_append]
  refine ⟨hp.1,?_,fun a ha b hb=>?_⟩
  ·rw [List.singleton_append,List.pairwise_cons];exact ⟨hhi',hp.2.1⟩
  ·rcases List.mem_cons.1 hb with rfl|hb
   ·exact hlo' a ha
   ·exact hp.2.2 a ha b hb
 ·have hmm:x∈L.take k++[f.id]++L.drop k↔x∈L\/x=f.id:=by
   conv=>rhs;rw [<- hL]
   simp only [List.mem_append,List.mem_singleton]
   constructor
   ·rintro ((h|h)|h)
    ·exact .inl (.inl h)
    ·exact .inr h
    ·exact .inl (.inr h)
   ·rintro ((h|h)|h)
    ·exact .inl (.inl h)
    ·exact .inr h
    ·exact .inl (.inr h)
  rw [hmm,h.2 x]
  constructor
  ·rintro (⟨hx,g,hg,e⟩|rfl)
   ·exact ⟨hx,g,List.mem_append_left _ hg,e⟩
   ·exact ⟨h0,f,by simp,rfl⟩
  ·rintro ⟨hx,g,hg,e⟩;rcases List.mem_append.1 hg with hg|hg
   ·exact .inl ⟨hx,g,hg,e⟩
   ·simp only [List.mem_singleton] at hg;subst hg;exact .inr e.symm
def zec (q:Int->Bool) (fs:List Fact):List Fact:=fs.filter fun f=>q f.id
def outB (o:List Int) (x:Int):Bool:=!decide (x∈o)
def Sl.cold {α:Type}:Sl α->Sl α
 | .nil=>.nil
 | .mk _ l=>.mk false l
theorem FindOut.congr {p q:Problem} {D:FoundD} {e:Int} (hb:q.boxes.xs=p.boxes.xs) (hf:q.facts.xs=p.facts.xs) (h:FindOut p D e):FindOut q D e:=by
 unfold FindOut at *;rw [hb,hf];exact h
set_option maxRecDepth 4000
theorem sh27:G.shared 27=false:=by decide
theorem e27 (n:Nat) (x:Int) (o:Sl Int) (b:Bool) (hl:o.xs.length < 1000):zI G (n+3) 27 [.int .i64 x,.ptr b [o.pv intF 1] 0]=some (.bool (outB o.xs x)):=by
 refine zA (zB _) rfl g27 rfl ?_
 have hc:=fun H=>zh (G:=G) (n:=n+2) (H:=H) (caps:=[]) (ps:=[o.pv intF 1,.int .i64 x]) sh28 (e28 n o x hl);simp only [List.map_cons,List.map_nil] at hc;(repeat' first|simp [*,zb,c27,outB]|(apply za<;>intro _ h<;>try simp [-Nat.le_zero_eq] at h))
def zpx (n:Nat) (Q:PV) (q:Int->Bool):Prop:=∀ H a,zM (zq G n) H (.pure Q) [.pure (.int .i64 a)]=some (.val (.pure (.bool (q a))))
theorem zlj {q:Int->Bool} {l:List Fact} {i:Nat} (h:i < l.length):zec q (l.take (i+1))=if q l[i].id=true then zec q (l.take i)++[l[i]] else zec q (l.take i):=by
 unfold zec;rw [<- zcN h,List.filter_append];simp only [List.filter_cons,List.filter_nil]
 split<;>simp
def zoO (b f:Nat) (v:AV) (H:Heap):Prop:=∃ x y l m,v=aggV [x,y]/\OwnV Box.cells 4 H x l/\OwnV Fact.cells 9 H y m/\(∀ id,Names x id->¬ Names y id)/\l.length<=b/\m.length<=f
theorem zkp (n:Nat) (p:Problem) (Q:PV) (q:Int->Bool) (hk:zpx (n+3) Q q) (hb:p.boxes.xs.length < 900) (hl:p.facts.xs.length < 900):∃ v H',Vm.call G (n+4) (.fn 26) [.pure (.agg p.cells),.pure Q] Heap.empty=some (v,H')/\zoO p.boxes.xs.length p.facts.xs.length v H':=by
 obtain ⟨bs,fs⟩:=p;have hbl:bs.xs.length < 1000:=by have:bs.xs.length < 900:=hb;omega
 have hfl:fs.xs.length < 900:=hl;have hkH:=Hide.mk hk;clear hk hb hl
 refine zbg rfl g26 rfl ?_
 (repeat' first|simp [*,zb,c26,Problem.cells]|(apply za<;>intro _ h<;>try simp [-Nat.le_zero_eq] at h)|(show wpE 0 (zi ..) ..;refine zt ?_)|(refine zk fun v2 H2 hv2 hnx2 hget2 hnew2 hone2 hcel2=>?_))
 refine zaW hbl ?_
 intro B H1 hB hBn hnx hsame hnew;have hone:=hB.one;have ho1:=hone.1;have ho2:=hone.2;have hid0:0 < H1.nx:=by simp at hnx;omega
 have k0:H1.get 0=.cells true [.pure .nils,.pure .nils]:=by rw [hsame 0 (by simp)];simp
 have hBlow:Hide (∀ id,Names B id->0 < id/\id < H1.nx):=⟨fun id h=>⟨by have:=hnew id h;simp at this;omega,hB.names_lt h⟩⟩
 have hBH:=Hide.mk hB;have hBnH:=Hide.mk hBn;obtain ⟨o,ho⟩:∃ o,H1.nx=o:=⟨_,rfl⟩
 clear hB hBn hone hsame hnew hnx;(repeat' first|simp [*,zb]|(apply za<;>intro _ h<;>try simp [-Nat.le_zero_eq] at h)|(show wpE 0 (zi ..) ..;refine zt ?_)|(refine zk fun v2 H2 hv2 hnx2 hget2 hnew2 hone2 hcel2=>?_))
 refine zz [(7,7),(15,29)] (fun (i:Nat) env H=>env 15=.pure (.int .i64 i)/\i<=fs.xs.length/\o < H.nx/\H.get 0=.cells true [.pure .nils,.pure .nils]/\∃ V,H.get o=.cells true [B,V]/\Hide (OwnV Box.cells 4 H B bs.xs/\GrowV Fact.cells 9 H V (zec q (fs.xs.take i))/\(∀ id,Names V id->o < id))) (fun i=>fs.xs.length - i) 0 ?_ ?_ ?_ ?_
 ·decide
 ·refine ⟨by simp,by omega,by simp;omega,?_,.pure .nils,?_,⟨?_,by simpa [zec] using GrowV.nil,fun id ⟨_,_,_,h⟩=>by simp at h⟩⟩
  ·rw [zg (by omega),zf hid0];exact k0
  ·rw [zP (by simp;omega)]
  ·refine hBH.h.keep fun id ⟨n,hn⟩=>?_
   have:=(hBlow.h id ⟨_,_,_,hn⟩).2;have e1:(H1.alloc (.cells true [.pure .nils,.pure .nils])).get id=H1.get id:=zf this;rw [zg (by omega)];exact e1
 ·simp only [zx];omega
 rintro i env H ⟨g15,hi,hnx,h0,V,h1,hV⟩;have hVo:=hV.h.2.1.1.one;have hVo1:=hVo.1;have hVo2:=hVo.2
 by_cases hlt:i < fs.xs.length
 ·have w1:IntKind.i64.wrap ((i:Int)+1)=(i+1:Nat):=by rw [wrap64 (by omega) (by omega)];omega
  have hltI:(i:Int) < fs.xs.length:=by omega
  have hst:=zlj (q:=q) hlt;have hlen:(zec q (fs.xs.take i)).length < 900:=by
   have:=List.length_filter_le (fun f:Fact=>q f.id) (fs.xs.take i);rw [List.length_take] at this;unfold zec;omega
  obtain ⟨F,hF⟩:∃ F,fs.xs[i]=F:=⟨_,rfl⟩
  rw [hF] at hst;have hka:=fun H=>hkH.h H F.id;obtain ⟨d1,d2,d3,da,db,dc,⟨d4,d5⟩,d6⟩:=F;simp only at hka hst;have hne0:(0:Nat)≠H.nx:=by omega
  have hneo:o≠H.nx:=by omega
  have ho0:(0:Nat)≠o:=by omega
  clear hVo
  cases hq:q d1 with
  | true =>
   rw [hq,if_pos rfl] at hst;rw [hq] at hka;have hstH:=Hide.mk hst;clear hst hq;(repeat' first|simp [*,zb,Fact.cells,Span.cells]|(apply za<;>intro _ h<;>try simp [-Nat.le_zero_eq] at h)|(show wpE 0 (zi ..) ..;refine zt ?_)|(refine zk fun v2 H2 hv2 hnx2 hget2 hnew2 hone2 hcel2=>?_))
   refine zaE (f:=Fact.cells) (sz:=9) (l:=zec q (fs.xs.take i)) ((hV.h.2.1.setNew _ _).alloc _) (fun _=>rfl) (by decide) (fun _=>rfl) (by unfold zn;omega) ⟨⟨d1,d2,d3,da,db,dc,⟨d4,d5⟩,d6⟩,by simp [Fact.cells,Span.cells],?_⟩
   intro V4 H4 hg4 ha;have hgo:∀ c,c < H.nx->¬ Names V c->H4.get c=H.get c:=fun c hc hn=>by rw [ha.get c (by rw [zaj,zaL,zaj];omega) hn,zf (by rw [zaL,zaj];omega),zg (by omega),zf hc]
   have k0':H4.get 0=.cells true [.pure .nils,.pure .nils]:=by rw [hgo 0 (by omega) (fun hn=>by have:=hV.h.2.2 0 hn;omega)];exact h0
   have k1:H4.get o=.cells true [B,V]:=by rw [hgo o hnx (fun hn=>by have:=hV.h.2.2 o hn;omega)];exact h1
   have gn:o < H4.nx:=by have:=ha.nx;rw [zaj,zaL,zaj] at this;omega
   have hV4:Hide (OwnV Box.cells 4 H4 B bs.xs/\GrowV Fact.cells 9 H4 V4 (zec q (fs.xs.take (i+1)))/\∀ id,Names V4 id->o < id):=⟨hV.h.1.keep fun id ⟨m,hm⟩=>by
    have h8:=(hBlow.h id ⟨_,_,_,hm⟩).2;exact hgo id (by omega) (fun h2=>by have:=hV.h.2.2 id h2;omega),by rw [hstH.h];exact hg4,fun id hn=>by have:=ha.new id hn;rw [zaj,zaL,zaj] at this;omega⟩
   have o4:=hg4.1.one;have o4a:=o4.1;have o4b:=o4.2;clear hg4 ha o4 hV hgo h0 h1;(repeat' first|simp [*,zb]|(apply za<;>intro _ h<;>try simp [-Nat.le_zero_eq] at h)|(show wpE 0 (zi ..) ..;refine zt ?_)|(refine zk fun v2 H2 hv2 hnx2 hget2 hnew2 hone2 hcel2=>?_))
   refine ⟨i+1,by omega,by omega,by omega,⟨hV4.h.1.keep fun id ⟨m,hm⟩=>?_,hV4.h.2.1.set (fun hn=>by have:=hV4.h.2.2 o hn;omega) _,hV4.h.2.2⟩⟩
   have h8:=(hBlow.h id ⟨_,_,_,hm⟩).2;exact zg (by omega)
  | false =>
   rw [hq,if_neg (by simp)] at hst;rw [hq] at hka;have hstH:=Hide.mk hst;have hB2:Hide (∀ o1 o2,OwnV Box.cells 4 ((H.alloc o1).set H.nx o2) B bs.xs):=⟨fun o1 o2=>hV.h.1.keep fun id ⟨m,hm⟩=>by
    have h8:=(hBlow.h id ⟨_,_,_,hm⟩).2;rw [zg (by omega),zf (by omega)]⟩
   clear hst hq;(repeat' first|simp [*,zb,Fact.cells,Span.cells]|(apply za<;>intro _ h<;>try simp [-Nat.le_zero_eq] at h)|(show wpE 0 (zi ..) ..;refine zt ?_)|(refine zk fun v2 H2 hv2 hnx2 hget2 hnew2 hone2 hcel2=>?_));exact ⟨i+1,by omega,by omega,by omega,by omega,by rw [zf (by omega)];exact h0,⟨hB2.h _ _,by rw [hstH.h];exact hV.h.2.1.setNew _ _,hV.h.2.2⟩⟩
 ·have hiN:i=fs.xs.length:=by omega
  subst hiN;rw [List.take_length] at hV;have h0n:0 < H.nx:=by omega
  have hlenP:(zec q fs.xs).length<=fs.xs.length:=List.length_filter_le _ _;have hlenH:=Hide.mk hlenP;clear hVo hlenP;(repeat' first|simp [*,zb]|(apply za<;>intro _ h<;>try simp [-Nat.le_zero_eq] at h)|(show wpE 0 (zi ..) ..;refine zt ?_)|(refine zk fun v2 H2 hv2 hnx2 hget2 hnew2 hone2 hcel2=>?_))
  refine ⟨B,V,_,_,rfl,hV.h.1.keep fun id ⟨m,hm⟩=>?_,hV.h.2.1.1.keep fun id ⟨m,hm⟩=>?_,fun id hb hv=>?_,Nat.le_refl _,hlenH.h⟩
  ·have h8:=(hBlow.h id ⟨_,_,_,hm⟩).1;exact zg (by omega)
  ·have:=hV.h.2.2 id ⟨_,_,_,hm⟩;exact zg (by omega)
  ·have h8:=(hBlow.h id hb).2;have:=hV.h.2.2 id hv;omega
theorem znq {n:Nat} {o:Sl Int} {b:Bool} (hl:o.xs.length < 1000):zpx (n+3) (.func 27 [.ptr b [o.pv intF 1] 0]) (outB o.xs):=fun H a =>
 zh (G:=G) (n:=n+3) (H:=H) (caps:=[.ptr b [o.pv intF 1] 0]) (ps:=[.int .i64 a]) sh27 (e27 n a o b hl)
def zoM (v:AV) (H:Heap):Prop:=∃ x y e l m,v=.tup [aggV [x,y],.pure e]/\e.cold=true/\OwnV Box.cells 4 H x l/\OwnV Fact.cells 9 H y m/\(∀ id,Names x id->¬ Names y id)/\l.length<=12/\m.length<=60
theorem zjU (n:Nat) (p:Problem) (ok:CheckOk p):∃ v H',Vm.call G (n+5) (.fn 9) [.pure (.agg p.cells),.pure .nils] Heap.empty=some (v,H')/\zoM v H':=by
 have h0:=check_ok.2 ok;have hc:=fun H=>zh (G:=G) (n:=n+4) (H:=H) (caps:=[]) (ps:=[.agg p.cells]) sh6 (e6 (n+1) p);rw [h0] at hc;have nb:=ok.nb;have nf:=ok.nf;have hp:=fun b=>zkp n p _ _ (znq (n:=n) (o:=.nil) (b:=b) (by simp)) (by omega) (by omega);obtain ⟨bs,fs⟩:=p;have hpH:=Hide.mk hp;have nbH:=Hide.mk nb;have nfH:=Hide.mk nf;simp only [Problem.cells,List.map_cons,List.map_nil] at hc;clear h0 hp ok nb nf
 refine zbg rfl g9 rfl ?_
 (repeat' first|simp [*,zb,c9,Problem.cells,zff,zad]|(apply za<;>intro _ h<;>try simp [-Nat.le_zero_eq] at h));obtain ⟨v,H1,hv1,x,y,l,m,hx,ho1,ho2,ho3,ho4,ho5⟩:=hpH.h false
 refine zpT (P:=fun l m=>l.length<=12/\m.length<=60) zdg zgM (FrzL.cons (.pure _) (.cons (.pure _) .nil)) ⟨v,H1,hv1,x,y,l,m,hx,ho1,ho2,ho3,Nat.le_trans ho4 nbH.h,Nat.le_trans ho5 nfH.h⟩ ?_
 rintro x2 y2 l2 m2 H2 ⟨q1,q2⟩ p1 p2 p3 p4 p5 p6;have g0:H2.get 0=.cells true [.pure .nils,.pure .nils]:=by rw [p6 0 (by simp)];simp
 have k1:=p1.one;have k2:=p2.one;have k3:=k1.1;have k4:=k1.2;have k5:=k2.1;have k6:=k2.2;have hfin:Hide (∀ o,OwnV Box.cells 4 (H2.set 0 o) x2 l2/\OwnV Fact.cells 9 (H2.set 0 o) y2 m2):=⟨fun o=>⟨p1.keep fun id ⟨m,hm⟩=>zg (by have:=(p3 id ⟨_,_,_,hm⟩).1;simp at this;omega),p2.keep fun id ⟨m,hm⟩=>zg (by have:=p4 id ⟨_,_,_,hm⟩;simp at this;omega)⟩⟩
 have hnx0:0 < H2.nx:=by simp at p5;omega
 have hxyH:=Hide.mk (fun id h=>(p3 id h).2);have q1H:=Hide.mk q1;have q2H:=Hide.mk q2;clear hpH hv1 hx ho1 ho2 ho3 ho4 ho5 nbH nfH p1 p2 p3 p4 p5 p6 k1 k2 q1 q2 hc;(repeat' first|simp [*,zb]|(apply za<;>intro _ h<;>try simp [-Nat.le_zero_eq] at h));exact ⟨x2,y2,_,l2,m2,rfl,rfl,(hfin.h _).1,(hfin.h _).2,hxyH.h,q1H.h,q2H.h⟩
end Go.Proofs.Ytleggocccaeemaa.Vm
