/- Parts: what the program's parts computes. Parts: what the program's parts computes, walked. Volumes of parts: the program's, walked. What look gathers of the choices of a part: how many, the first one, the best ones. Plain Lean. -/
import Derived.Test.YtmmhnfghklppiaaGreatUk17
import Derived.Test.YtmmhnfghklppiaaGreatUk19
import Derived.Test.YtmmhnfghklppiaaGreatUk20
import Derived.Test.YtmmhnfghklppiaaGreatUk21
import Derived.Test.YtmmhnfghklppiaaGreatUk15
import Derived.Test.YtmmhnfghklppiaaGreatUk8
import Derived.Test.YtmmhnfghklppiaaGreatUk18
namespace Go.Proofs.YtmmhnfghklppiaaGreat.Vm
open Go
set_option linter.unusedSimpArgs false
set_option linter.unusedVariables false
set_option maxHeartbeats 4000000
set_option maxRecDepth 4000
theorem Da {n:Nat} {H:Heap} {f:Nat} {caps args:List AV} {k:AV->Heap->Prop} {u} (hs:G.shared f=true) (h:∃ v H',Vm.call G (n+1) (.fn f) (args++caps) H=some (v,H')/\k v H') :
  wpE 0 (zG (zt G (n+1)) H (.func f caps) args) H k u:=by
 obtain ⟨v,H',h1,h2⟩:=h
 refine ⟨.upd v H',?_,by simp,h2⟩
 have oH:(zt G (n+1)).shared f=true:=hs;have uP:(zt G (n+1)).run f (args++caps) H=some (v,H'):=h1;simp only [zG,oH,if_true,uP]
def bG (g:Nat->Nat) (n:Nat):List Int:=(List.range n).map fun i=>(g i:Int)
theorem zT (g:Nat->Nat) (n:Nat):(bG g n).length=n:=by simp [bG]
theorem sP {g:Nat->Nat} {n i:Nat} (h:i < (bG g n).length):(bG g n)[i]=g i:=by simp [bG]
def lD (l:List Nat):PV:=.slice false 1 (l.map fun (k:Nat)=>[PV.int .i64 (k:Int)])
def Qc (ps:List (List Nat)):PV:=if ps.isEmpty=true then .nils else .slice false 1 (ps.map fun l=>[lD l])
def og (g:Nat->Nat) (fr to i:Nat):Nat->Nat:=fun j=>if j < i/\g j=fr then to else g j
theorem zpO (g:Nat->Nat) (fr to:Nat):og g fr to 0=g:=by funext j;simp [og]
theorem zs4 (g:Nat->Nat) (fr to i:Nat):og g fr to i i=g i:=by simp [og]
theorem zq7 (g:Nat->Nat) (fr to N i:Nat) (h:g i=fr):(bG (og g fr to i) N).set i to=bG (og g fr to (i+1)) N:=by
 refine List.ext_getElem (by simp [zT]) fun j h1 h2=>?_
 rw [List.getElem_set,sP]
 split
 .rename_i e;subst e;rw [sP];simp [og,h]
 .rename_i e;rw [sP];have:(j < i/\g j=fr)↔(j < i+1/\g j=fr):=⟨fun h=>⟨by omega,h.2⟩,fun h=>⟨by omega,h.2⟩⟩
  unfold og;simp only [this]
theorem zqi (g:Nat->Nat) (fr to i:Nat) (h:g i≠fr):og g fr to (i+1)=og g fr to i:=by
 funext j
 unfold og
 by_cases e:j=i
 .subst e;simp [h]
 .have:(j < i+1/\g j=fr)↔(j < i/\g j=fr):=⟨fun h=>⟨by omega,h.2⟩,fun h=>⟨by omega,h.2⟩⟩
  simp only [this]
theorem zrp (g:Nat->Nat) (a b N:Nat):bG (og g (max (g a) (g b)) (min (g a) (g b)) N) N=bG (Gj g a b) N:=by
 refine List.ext_getElem (by simp [zT]) fun j h1 h2=>?_
 rw [sP,sP];rw [zT] at h1;simp [og,Gj,h1]
theorem zoD:G.shared 113=true:=by decide
theorem zkh {n:Nat} {H:Heap} {g:Nat->Nat} {N a b:Nat} {k:AV->Heap->Prop} (hN:N < 1000) (ha:a < N) (hb:b < N) (ou:∀ i,i < N->g i < N) (h0:H.get 0=.cells true (zq aF (bG g N))) (h1:H.get 1=.cells true [.row 0 1 0 N])
  (hk:∀ H',H'.nx=H.nx->(∀ j,j≠0->H'.get j=H.get j)->H'.get 0=.cells true (zq aF (bG (Gj g a b) N))->k (.aQ []) H') :
  ∃ v H',Vm.call G (n+1) (.fn 113) ([.pure (.int .i64 a),.pure (.int .i64 b)]++[.box 1 0]) H=some (v,H')/\k v H':=by
 refine F8 rfl g113 rfl ?_
 have ou:=Hide.mk ou;have hk:=Hide.mk hk;have hl:=zT g N;have ga:=sP (g:=g) (n:=N) (i:=a) (by rw [hl];exact ha);have gb:=sP (g:=g) (n:=N) (i:=b) (by rw [hl];exact hb);have ra:=Lx (own:=true) (f:=aF) (l:=bG g N) (i:=a) (fun _=>rfl) (by rw [hl];exact ha);have rb:=Lx (own:=true) (f:=aF) (l:=bG g N) (i:=b) (fun _=>rfl) (by rw [hl];exact hb);rw [ga] at ra;rw [gb] at rb;simp only [aF,List.map] at ra rb;obtain ⟨fr,tO⟩:∃ m:Nat,m=max (g a) (g b):=⟨_,rfl⟩
 obtain ⟨to,SQ⟩:∃ m:Nat,m=min (g a) (g b):=⟨_,rfl⟩
 have m1:max (g a:Int) (g b:Int)=(fr:Int):=by subst tO;omega
 have m2:min (g a:Int) (g b:Int)=(to:Int):=by subst SQ;omega
 have haI:(a:Int) < N:=by omega
 have hbI:(b:Int) < N:=by omega
 have fe:=Hide.mk (zrp g a b N);rw [<- tO,<- SQ] at fe;clear tO SQ;(repeat' first|simp [*,zb,c113]|(apply za<;>intro _ h<;>try simp [-Nat.le_zero_eq] at h))
 refine zA [(7,7),(28,41)] (fun (i:Nat) env H2=>env 28=.pure (.int .i64 i)/\i<=N/\H2.nx=H.nx/\Hide (∀ j,j≠0->H2.get j=H.get j)/\H2.get 0=.cells true (zq aF (bG (og g fr to i) N))) (fun i=>N - i) 0 ?_ ?_ ?_ ?_
 .decide
 .exact ⟨by simp,by omega,rfl,⟨fun _ _=>rfl⟩,by rw [zpO];exact h0⟩
 .simp only [zz];omega
 clear ra rb ga gb hl;rintro i env H2 ⟨g28,hi,bU,ah,Vt⟩;have uP:H2.get 1=.cells true [.row 0 1 0 N]:=by rw [ah.h 1 (by omega)];exact h1
 have iZ:0 < H2.nx:=zo Vt;have hl:=zT (og g fr to i) N
 by_cases aK:i < N
 .have w1:IntKind.i64.wrap ((i:Int)+1)=(i+1:Nat):=by rw [wrap64 (by omega) (by omega)];omega
  have jM:(i:Int) < N:=by omega
  have gi:=sP (g:=og g fr to i) (n:=N) (i:=i) (by rw [hl];exact aK);rw [zs4] at gi;have ri:=Lx (own:=true) (f:=aF) (l:=bG (og g fr to i) N) (i:=i) (fun _=>rfl) (by rw [hl];exact aK);rw [gi] at ri;simp only [aF,List.map] at ri
  by_cases e:g i=fr
  .have pi:=PZ (l:=bG (og g fr to i) N) (i:=i) (x:=to) (by rw [hl];exact aK);rw [zq7 _ _ _ _ _ e] at pi;have eI:((g i:Int) == (fr:Int))=true:=by simp [e]
   have eI':(g i:Int)=(fr:Int):=by simp [e]
   have sN:Hide (∀ (o:aP) (j:Nat),j≠0->(H2.set 0 o).get j=H.get j):=⟨fun o j hj=>by rw [zg hj];exact ah.h j hj⟩
   clear gi hl ah;(repeat' first|simp [*,zb]|(apply za<;>intro _ h<;>try simp [-Nat.le_zero_eq] at h));exact ⟨i+1,by omega,by omega,by omega,⟨sN.h _⟩,zn iZ⟩
  .have Bt:=Hide.mk (zqi g fr to i e);have eI:((g i:Int) == (fr:Int))=false:=by simp;omega
   have eI':¬ (g i:Int)=(fr:Int):=by omega
   clear gi hl;(repeat' first|simp [*,zb]|(apply za<;>intro _ h<;>try simp [-Nat.le_zero_eq] at h));exact ⟨i+1,by omega,by omega,by omega,by rw [Bt.h]⟩
 .have qy:i=N:=by omega
  subst qy;rw [fe.h] at Vt;have nM:=hk.h H2 bU ah.h Vt;clear hk fe ah;simp [*,zb]
def Ht (i:Nat):Nat->Nat:=fun j=>if j < i then j else 0
theorem znf (N:Nat):(List.replicate N (([PV.int .i64 0]).map AV.pure)).flatten=zq aF (bG (Ht 0) N):=by
 have h:bG (Ht 0) N=List.replicate N 0:=by
  refine List.ext_getElem (by simp [zT]) fun j h1 h2=>?_
  rw [sP];simp [Ht]
 rw [h]
 induction N with
 | zero=>rfl
 | succ N ih=>rw [List.replicate_succ,List.flatten_cons,List.replicate_succ,ih (by
   refine List.ext_getElem (by simp [zT]) fun j h1 h2=>?_
   rw [sP];simp [Ht])];rfl
theorem zpk (N i:Nat):(bG (Ht i) N).set i i=bG (Ht (i+1)) N:=by
 refine List.ext_getElem (by simp [zT]) fun j h1 h2=>?_
 rw [List.getElem_set,sP]
 split
 .rename_i e;subst e;rw [sP];simp [Ht]
 .rename_i e;rw [sP];have:(j < i)↔(j < i+1):=⟨fun h=>by omega,fun h=>by omega⟩
  unfold Ht;simp only [this]
theorem zpJ (N:Nat):bG (Ht N) N=bG (fun i=>i) N:=by
 refine List.ext_getElem (by simp [zT]) fun j h1 h2=>?_
 rw [sP,sP];rw [zT] at h1;simp [Ht,h1]
theorem zfX {fs:List Fact} {k:Nat} (h:k < fs.length):mM (fs.take (k+1))=mM (fs.take k)++AB fs[k]:=by
 unfold mM;rw [List.take_add_one,List.flatMap_append,List.getElem?_eq_getElem h];simp
theorem zj4 (fs:List Fact):mM (fs.take fs.length)=mM fs:=by rw [List.take_length]
def Oa (ids:List (Nat×List Nat)):List AV:=ids.map fun x=>.row x.1 1 0 x.2.length
def zL (l:List Nat):List Int:=l.map fun (k:Nat)=>(k:Int)
theorem z8 (l:List Nat):(zL l).length=l.length:=by simp [zL]
structure Ac (B:Nat) (H:Heap) (v:AV) (ps:List (List Nat)):Prop where
 ex:∃ ids:List (Nat×List Nat),ids.map Prod.snd=ps/\RowA H v (Oa ids)/\∀ x∈ids,B<=x.1/\¬ Names v x.1/\H.get x.1=.cells true (zq aF (zL x.2))
 low:∀ id,Names v id->B<=id
theorem Ac.nil (B:Nat) (H:Heap):Ac B H (.pure .nils) []:=⟨⟨[],rfl,RowA.nil,fun x hx=>by simp at hx⟩,fun id ⟨_,_,_,h⟩=>by simp at h⟩
theorem Ac.lt {B:Nat} {H:Heap} {v:AV} {ps:List (List Nat)} (h:Ac B H v ps) {id:Nat} (hn:Names v id):id < H.nx:=by
 obtain ⟨ids,_,hr,_⟩:=h.ex;exact hr.names_lt hn
theorem Ac.keep {B:Nat} {H H':Heap} {v:AV} {ps:List (List Nat)} (h:Ac B H v ps) (hk:∀ j,B<=j->j < H.nx->H'.get j=H.get j):Ac B H' v ps:=by
 obtain ⟨ids,h1,h2,h3⟩:=h.ex
 refine ⟨⟨ids,h1,h2.keep fun id hn=>hk id (h.low id hn) (h2.names_lt hn),fun x hx=>?_⟩,h.low⟩
 obtain ⟨a,b,c⟩:=h3 x hx;exact ⟨a,b,by rw [hk x.1 a (zo c)];exact c⟩
theorem zlW {H:Heap}:∀ ids:List (Nat×List Nat),(∀ x∈ids,H.get x.1=.cells true (zq aF (zL x.2)))->FrzL H false 11 (Oa ids) (ids.map fun x=>lD x.2)
 | [],_=>FrzL.nil
 | x::ids,h=>by
  refine FrzL.cons ?_ (zlW ids fun y hy=>h y (List.mem_cons_of_mem _ hy))
  have h1:=sI (n:=9) (f:=aF) (sz:=1) (m:=x.2.length) (fun _=>rfl) (h x List.mem_cons_self) (z8 _);have e:(Sl.mk false (zL x.2)).pv aF 1=lD x.2:=by
   simp only [Sl.pv,lD,zL,List.map_map];rfl
  rw [e] at h1;exact h1
theorem Ac.res {B:Nat} {H:Heap} {v:AV} {ps:List (List Nat)} (h:Ac B H v ps):FrzK H false 12 v (Qc ps):=by
 obtain ⟨ids,h1,h2,h3⟩:=h.ex;have h4:=h2.frz (zlW ids fun x hx=>(h3 x hx).2.2);have e:(if (Oa ids).isEmpty=true then PV.nils else .slice false 1 ((ids.map fun x=>lD x.2).map fun p=>[p]))=Qc ps:=by
  subst h1
  cases ids with
  | nil=>rfl
  | cons x ids=>simp [Oa,Qc]
 rw [e] at h4;exact h4
theorem zgB {B:Nat} {H:Heap} {v:AV} {ps:List (List Nat)} {bytes id:Nat} {l:List Nat} {b:AV} {k:AV->Heap->Prop} {u} (hp:Ac B H v ps) (h2:B<=H.nx) (hb:zM H 1 b=some ([.row id 1 0 l.length],1)) (aB:B<=id) (hn:¬ Names v id)
  (hg:H.get id=.cells true (zq aF (zL l))) (hm:ps.length+1<=zu/\(ps.length+1)*bytes<=zu)
  (hk:∀ v' H',Ac B H' v' (ps++[l])->B<=H'.nx->(∀ c,c < B->H'.get c=H.get c)->k v' H'):wpE 0 (zh H 1 bytes v b) H k u:=by
 obtain ⟨ids,h1,hr,h3⟩:=hp.ex;have hlen:(Oa ids).length=ps.length:=by rw [<- h1];simp [Oa]
 refine zhg hr hb rfl (by simp [Oa,List.all_map];try (intro a b _;rfl)) (by rw [hlen];exact hm) ?_
 intro v' H' Ff bU ah aS uP IW
 refine hk v' H' ⟨⟨ids++[(id,l)],by rw [List.map_append,h1];rfl,by simpa [Oa] using Ff,fun x hx=>?_⟩,fun j hj=>by have:=aS j hj;omega⟩ (by omega) (fun c hc=>ah c (by omega) fun h=>by have:=hp.low c h;omega)
 rcases List.mem_append.1 hx with hx|hx
 .obtain ⟨a,b,c⟩:=h3 x hx;have aK:=zo c;exact ⟨a,fun h=>by have:=aS _ h;omega,by rw [ah _ aK b];exact c⟩
 .simp at hx;subst hx;have aK:=zo hg;exact ⟨aB,fun h=>by have:=aS _ h;simp only at this;omega,by rw [ah _ aK hn];exact hg⟩
def AO (g:Nat->Nat) (i j:Nat):List Nat:=(List.range j).filter fun k=>g k == i
def FC (g:Nat->Nat) (n t:Nat):List (List Nat):=((List.range t).filter fun i=>g i == i).map (nZ g n)
theorem YQ (g:Nat->Nat) (i j:Nat):AO g i (j+1)=if g j=i then AO g i j++[j] else AO g i j:=by
 unfold AO;rw [List.range_succ,List.filter_append]
 by_cases e:g j=i<;>simp [e]
theorem YR (g:Nat->Nat) (n t:Nat):FC g n (t+1)=if g t=t then FC g n t++[nZ g n t] else FC g n t:=by
 unfold FC;rw [List.range_succ,List.filter_append]
 by_cases e:g t=t<;>simp [e]
theorem zfr (g:Nat->Nat) (n t:Nat):(FC g n t).length<=t:=by
 unfold FC;rw [List.length_map];have:=List.length_filter_le (fun i=>g i == i) (List.range t);rw [List.length_range] at this;exact this
theorem zf8 (g:Nat->Nat) (n t:Nat):(AO g n t).length<=t:=by
 unfold AO;have:=List.length_filter_le (fun i=>g i == n) (List.range t);rw [List.length_range] at this;exact this
theorem sh95:G.shared 95=false:=by decide
theorem e95 (n:Nat) (p:Problem) (ok:ak p) (g:Nat->Nat) (hg:bH (mM p.facts.xs) p.boxes.xs.length g):zF G (n+2) 95 [.agg p.cells]=some (Qc (zK g p.boxes.xs.length)):=by
 refine zy (zx _) rfl g95 rfl ?_
 obtain ⟨bs,fs⟩:=p;have nb:bs.xs.length<=12:=ok.nb;have nf:fs.xs.length<=60:=ok.nf;have Db:Hide (∀ f∈fs.xs,qh f bs.xs.length=true):=⟨ok.fact⟩
 have vT:=Hide.mk hg;clear hg ok;simp only at vT ⊢;obtain ⟨N,hN⟩:∃ N,N=bs.xs.length:=⟨_,rfl⟩
 rw [<- hN] at nb Db vT ⊢;have Vu:N*1<=zu/\N*8<=zu/\N<=zu:=by unfold zu;omega
 have hz:=znf N;simp only [List.map] at hz;have hN':=hN.symm;clear hN;(repeat' first|simp [*,zb,c95,Problem.cells]|(apply za<;>intro _ h<;>try simp [-Nat.le_zero_eq] at h)|(show wpE 0 (zh ..) ..;refine zm ?_)|(refine ze fun v2 H2 aV aD ae af ai aj=>?_))
 refine zA [(4,4),(18,25)] (fun (i:Nat) env H=>env 18=.pure (.int .i64 i)/\i<=N/\H.nx=2/\H.get 1=.cells true [.row 0 1 0 N]/\H.get 0=.cells true (zq aF (bG (Ht i) N))) (fun i=>N - i) 0 ?_ ?_ ?_ ?_
 .decide
 .refine ⟨by simp,by omega,by simp,?_,?_⟩
  .rfl
  .rfl
 .simp only [zz];omega
 rintro i env H ⟨g28,hi,bU,h1,h0⟩
 by_cases aK:i < N
 .have w1:IntKind.i64.wrap ((i:Int)+1)=(i+1:Nat):=by rw [wrap64 (by omega) (by omega)];omega
  have jM:(i:Int) < N:=by omega
  have pi:=PZ (l:=bG (Ht i) N) (i:=i) (x:=i) (by rw [zT];exact aK);rw [zpk] at pi;have iZ:0 < H.nx:=by omega
  (repeat' first|simp [*,zb]|(apply za<;>intro _ h<;>try simp [-Nat.le_zero_eq] at h)|(show wpE 0 (zh ..) ..;refine zm ?_)|(refine ze fun v2 H2 aV aD ae af ai aj=>?_));exact ⟨i+1,by omega,by omega,by omega,rfl⟩
 .have qy:i=N:=by omega
  subst qy;rw [zpJ] at h0;have Dq:2<=H.nx:=by omega
  have hC0:Hide (bH (mM (fs.xs.take 0)) i (fun j=>j)):=⟨bH.nil i⟩
  clear hz Vu hi;clear aK bU;(repeat' first|simp [*,zb]|(apply za<;>intro _ h<;>try simp [-Nat.le_zero_eq] at h)|(show wpE 0 (zh ..) ..;refine zm ?_)|(refine ze fun v2 H2 aV aD ae af ai aj=>?_))
  refine zA [(7,7),(30,49)] (fun (k:Nat) env H=>env 30=.pure (.int .i64 k)/\k<=fs.xs.length/\2<=H.nx/\H.get 1=.cells true [.row 0 1 0 i]/\∃ g,H.get 0=.cells true (zq aF (bG g i))/\Hide (bH (mM (fs.xs.take k)) i g)) (fun k=>fs.xs.length - k) 0 ?_ ?_ ?_ ?_
  .decide
  .exact ⟨by simp,by omega,Dq,h1,_,h0,hC0⟩
  .simp only [zz];omega
  clear hC0 h1 h0 Dq;rintro k env H ⟨g30,hk,bU,h1,g',h0,hC⟩
  by_cases aK:k < fs.xs.length
  .have w1:IntKind.i64.wrap ((k:Int)+1)=(k+1:Nat):=by rw [wrap64 (by omega) (by omega)];omega
   have jM:(k:Int) < fs.xs.length:=by omega
   have hf:=(vR _ _).1 (Db.h fs.xs[k] (List.getElem_mem aK));obtain ⟨a,ha⟩:∃ a:Nat,fs.xs[k].a=a:=⟨fs.xs[k].a.toNat,by omega⟩
   obtain ⟨b,hb⟩:∃ b:Nat,fs.xs[k].b=b:=⟨fs.xs[k].b.toNat,by omega⟩
   have Gp:a < i:=by omega
   have Qd:b < i:=by omega
   have Qe:0≠H.nx:=by omega
   have Qf:1≠H.nx:=by omega
   have hlt0:0 < H.nx:=by omega
   have LU:1 < H.nx:=by omega
   have jT:=Hide.mk aK;have hfH:=Hide.mk hf;clear hf;(repeat' first|simp [*,zb,Fact.cells]|(apply za<;>intro _ h<;>try simp [-Nat.le_zero_eq] at h)|(show wpE 0 (zh ..) ..;refine zm ?_)|(refine ze fun v2 H2 aV aD ae af ai aj=>?_))
   refine Da zoD (zkh (g:=g') (by omega) Gp Qd (fun j hj=>by have:=hC.h.le j hj;omega) (by rw [zg Qe,zi hlt0];exact h0) (by rw [zg Qf,zi LU];exact h1) ?_)
   intro H3 Ad Eb h03;have hgf:=Eb H.nx (by omega);rw [zn (by simp)] at hgf;have h13:H3.get 1=.cells true [.row 0 1 0 i]:=by rw [Eb 1 (by omega),zg Qf,zi LU];exact h1
   have Ob:H3.nx=H.nx+1:=by rw [Ad];rfl
   have Vv:=Hide.mk (hC.h.join Gp Qd);clear Eb Ad hC h1 h0
   by_cases nM:fs.xs[k].kind=2
   .have pF:=hfH.h.2.2.2.2.2.1 nM;obtain ⟨c,hc⟩:∃ c:Nat,fs.xs[k].c=c:=⟨fs.xs[k].c.toNat,by omega⟩
    have SS:c < i:=by omega
    have hC2:=Vv.h.join Gp SS;have ou:∀ j,j < i->Gj g' a b j < i:=fun j hj=>by have:=Vv.h.le j hj;omega
    have hglH:=Hide.mk ou;have hN2:Hide (bH (mM (fs.xs.take (k+1))) i (Gj (Gj g' a b) a c)):=⟨by
     rw [zfX jT.h];simp only [AB,ha,hb,hc,if_pos nM];rw [List.append_assoc] at hC2;exact hC2⟩
    clear pF hC2 Vv ou;(repeat' first|simp [*,zb,Fact.cells]|(apply za<;>intro _ h<;>try simp [-Nat.le_zero_eq] at h)|(show wpE 0 (zh ..) ..;refine zm ?_)|(refine ze fun v2 H2 aV aD ae af ai aj=>?_))
    refine Da zoD (zkh (g:=Gj g' a b) (by omega) Gp SS hglH.h h03 h13 ?_)
    intro H4 LV Ji h04;have h14:H4.get 1=.cells true [.row 0 1 0 i]:=by rw [Ji 1 (by omega)];exact h13
    have hnx4':H4.nx=H.nx+1:=by rw [LV];exact Ob
    clear Ji LV h13 h03 hgf Ob;(repeat' first|simp [*,zb]|(apply za<;>intro _ h<;>try simp [-Nat.le_zero_eq] at h)|(show wpE 0 (zh ..) ..;refine zm ?_)|(refine ze fun v2 H2 aV aD ae af ai aj=>?_));exact ⟨k+1,by omega,by omega,by omega,by omega,_,rfl,hN2⟩
   .have hN2:Hide (bH (mM (fs.xs.take (k+1))) i (Gj g' a b)):=⟨by rw [zfX jT.h];simp only [AB,ha,hb,if_neg nM];exact Vv.h⟩
    clear Vv;(repeat' first|simp [*,zb,Fact.cells]|(apply za<;>intro _ h<;>try simp [-Nat.le_zero_eq] at h)|(show wpE 0 (zh ..) ..;refine zm ?_)|(refine ze fun v2 H2 aV aD ae af ai aj=>?_));exact ⟨k+1,by omega,by omega,by omega,by omega,_,rfl,hN2⟩
  .have Vw:k=fs.xs.length:=by omega
   subst Vw;have SV:∀ j,j < i->g' j=g j:=by
    have h:=hC.h;rw [zj4] at h;exact h.unique vT.h
   have o9:FC g' i i=zK g i:=zeS SV;have Jj:=Hide.mk (Ac.nil 2 H);rw [<- o9];clear vT hC SV o9 Db hk aK;(repeat' first|simp [*,zb]|(apply za<;>intro _ h<;>try simp [-Nat.le_zero_eq] at h)|(show wpE 0 (zh ..) ..;refine zm ?_)|(refine ze fun v2 H2 aV aD ae af ai aj=>?_))
   refine zA [(8,11),(52,81)] (fun (t:Nat) env H=>env 52=.pure (.int .i64 t)/\t<=i/\2<=H.nx/\H.get 1=.cells true [.row 0 1 0 i]/\H.get 0=.cells true (zq aF (bG g' i))/\∃ v,env 8=v/\Hide (Ac 2 H v (FC g' i t))) (fun t=>i - t) 0 ?_ ?_ ?_ ?_
   .decide
   .exact ⟨by simp,by omega,bU,h1,h0,_,rfl,Jj⟩
   .simp only [zz];omega
   clear Jj h1 h0 bU;rintro t env H ⟨g52,ht,bU,h1,h0,v,g8,hP⟩
   by_cases qx:t < i
   .have w1:IntKind.i64.wrap ((t:Int)+1)=(t+1:Nat):=by rw [wrap64 (by omega) (by omega)];omega
    have FY:(t:Int) < i:=by omega
    have gt:=sP (g:=g') (n:=i) (i:=t) (by rw [zT];exact qx);have rt:=Lx (own:=true) (f:=aF) (l:=bG g' i) (i:=t) (fun _=>rfl) (by rw [zT];exact qx);rw [gt] at rt;simp only [aF,List.map] at rt
    by_cases e:g' t=t
    .have eI:(g' t:Int)=(t:Int):=by rw [e]
     have Ec:aC aF 1 H (.pure .nils) (zL (AO g' t 0)):=aC.nil;have Ec:=Hide.mk Ec;clear gt;(repeat' first|simp [*,zb]|(apply za<;>intro _ h<;>try simp [-Nat.le_zero_eq] at h)|(show wpE 0 (zh ..) ..;refine zm ?_)|(refine ze fun v2 H2 aV aD ae af ai aj=>?_));clear rt eI
     refine zA [(10,11),(63,76)] (fun (j:Nat) env H2=>env 63=.pure (.int .i64 j)/\j<=i/\H.nx<=H2.nx/\Hide (∀ c,c < H.nx->H2.get c=H.get c)/\∃ u,env 10=u/\Hide (aC aF 1 H2 u (zL (AO g' t j))/\∀ id,Names u id->H.nx<=id)) (fun j=>i - j) 0 ?_ ?_ ?_ ?_
     .decide
     .exact ⟨by simp,by omega,Nat.le_refl _,⟨fun _ _=>rfl⟩,_,rfl,⟨Ec.h,fun id ⟨_,_,_,h⟩=>by simp at h⟩⟩
     .simp only [zz];omega
     clear Ec;rintro j env H2 ⟨g63,hj,aD,ah,u,g10,hU⟩;have h12:H2.get 1=.cells true [.row 0 1 0 i]:=by rw [ah.h 1 (by omega)];exact h1
     have h02:H2.get 0=.cells true (zq aF (bG g' i)):=by rw [ah.h 0 (by omega)];exact h0
     have bn:=hU.h.1.1.one
     by_cases iX:j < i
     .have w2:IntKind.i64.wrap ((j:Int)+1)=(j+1:Nat):=by rw [wrap64 (by omega) (by omega)];omega
      have SX:(j:Int) < i:=by omega
      have gj:=sP (g:=g') (n:=i) (i:=j) (by rw [zT];exact iX);have rj:=Lx (own:=true) (f:=aF) (l:=bG g' i) (i:=j) (fun _=>rfl) (by rw [zT];exact iX);rw [gj] at rj;simp only [aF,List.map] at rj;clear gj
      by_cases ej:g' j=t
      .have eJ:(g' j:Int)=(t:Int):=by rw [ej]
       (repeat' first|simp [*,zb]|(apply za<;>intro _ h<;>try simp [-Nat.le_zero_eq] at h)|(show wpE 0 (zh ..) ..;refine zm ?_)|(refine ze fun v2 H2 aV aD ae af ai aj=>?_))
       refine Fp (hU.h.1.alloc _) (fun _=>rfl) (by decide) (fun _=>rfl) (by rw [z8];have:=zf8 g' t j;unfold zu;omega) ⟨(j:Int),by simp [aF],?_⟩
       intro u4 H4 j5 ha;have Qg:Hide (aC aF 1 H4 u4 (zL (AO g' t (j+1)))/\∀ id,Names u4 id->H.nx<=id):=⟨by rw [YQ,if_pos ej];simpa [zL] using j5,fun id hn=>by have:=ha.new id hn;simp at this;omega⟩
       have hs4:Hide (∀ c,c < H.nx->H4.get c=H.get c):=⟨fun c hc=>by rw [ha.get c (by simp;omega) (fun hn=>by have:=hU.h.2 c hn;omega),zi (by omega)];exact ah.h c hc⟩
       have Vi:H.nx<=H4.nx:=by have:=ha.nx;simp at this;omega
       clear j5 ha hU ah bn rj eJ;(repeat' first|simp [*,zb]|(apply za<;>intro _ h<;>try simp [-Nat.le_zero_eq] at h)|(show wpE 0 (zh ..) ..;refine zm ?_)|(refine ze fun v2 H2 aV aD ae af ai aj=>?_));exact ⟨j+1,by omega,by omega,by omega,Qg⟩
      .have eJ:¬ (g' j:Int)=(t:Int):=by omega
       have vU:=hU.h;rw [show AO g' t j=AO g' t (j+1) by rw [YQ,if_neg ej]] at vU;have hU3:=Hide.mk vU;clear vU hU;(repeat' first|simp [*,zb]|(apply za<;>intro _ h<;>try simp [-Nat.le_zero_eq] at h)|(show wpE 0 (zh ..) ..;refine zm ?_)|(refine ze fun v2 H2 aV aD ae af ai aj=>?_));exact ⟨j+1,by omega,by omega,by omega,hU3⟩
     .have Aw:j=i:=by omega
      subst Aw;(repeat' first|simp [*,zb]|(apply za<;>intro _ h<;>try simp [-Nat.le_zero_eq] at h)|(show wpE 0 (zh ..) ..;refine zm ?_)|(refine ze fun v2 H2 aV aD ae af ai aj=>?_));have vU:=hU.h;have Qh:AO g' t j=nZ g' j t:=rfl;rw [Qh] at vU;have bC:zL (nZ g' j t)≠[]:=by
       intro h;have h2:nZ g' j t=[]:=by simpa [zL] using h
       have h3:t∈nZ g' j t:=by simp [nZ,qx,e]
       rw [h2] at h3;simp at h3
      obtain ⟨id,rfl,vk⟩:=vU.1.1.row bC;have Bv:=vU.2 id ⟨_,_,_,rfl⟩
      refine zgB (id:=id) (l:=nZ g' j t) (hP.h.keep fun c _ hc=>by rw [zi (by omega)];exact ah.h c hc) (by simp;omega) (by simp [z8]) (by omega) (fun h=>by have:=hP.h.lt h;omega) (by rw [zi (zo vk)];exact vk) (by have:=zfr g' j t;unfold zu;omega) ?_
      intro v4 H4 Vx LV e01;have e0:=e01 0 (by omega);have e1:=e01 1 (by omega);have h14:H4.get 1=.cells true [.row 0 1 0 j]:=by rw [e1,zi (by omega)];exact h12
      have h04:H4.get 0=.cells true (zq aF (bG g' j)):=by rw [e0,zi (by omega)];exact h02
      have hP5:Hide (Ac 2 H4 v4 (FC g' j (t+1))):=⟨by rw [YR,if_pos e];exact Vx⟩
      clear Vx e0 e1 e01 hP hU vU ah h12 h02 h1 h0 bn vk bC Qh g10;(repeat' first|simp [*,zb]|(apply za<;>intro _ h<;>try simp [-Nat.le_zero_eq] at h)|(show wpE 0 (zh ..) ..;refine zm ?_)|(refine ze fun v2 H2 aV aD ae af ai aj=>?_));exact ⟨t+1,by omega,by omega,by omega,hP5⟩
    .have eI:¬ (g' t:Int)=(t:Int):=by omega
     have rV:Hide (Ac 2 H v (FC g' i (t+1))):=⟨by rw [YR,if_neg e];exact hP.h⟩
     clear gt hP;(repeat' first|simp [*,zb]|(apply za<;>intro _ h<;>try simp [-Nat.le_zero_eq] at h)|(show wpE 0 (zh ..) ..;refine zm ?_)|(refine ze fun v2 H2 aV aD ae af ai aj=>?_));exact ⟨t+1,by omega,by omega,by omega,rV⟩
   .have Oc:t=i:=by omega
    subst Oc;have bD:=Hide.mk hP.h.res;clear hP;(repeat' first|simp [*,zb]|(apply za<;>intro _ h<;>try simp [-Nat.le_zero_eq] at h)|(show wpE 0 (zh ..) ..;refine zm ?_)|(refine ze fun v2 H2 aV aD ae af ai aj=>?_));exact bD.h
def qz (l:List Nat):List PV:=[(Sl.mk false (zL l)).pv aF 1]
theorem Kv (l:List Nat):lD l=(Sl.mk false (zL l)).pv aF 1:=by
 simp only [Sl.pv,lD,zL,List.map_map];rfl
theorem YS (ps:List (List Nat)):Qc ps=(Sl.of ps).pv qz 1:=by
 cases ps with
 | nil=>rfl
 | cons l ps=>simp [Qc,Sl.of,Sl.pv,qz,Kv]
theorem zki (b:List Box) (k:Nat):∀ (l:List Nat) (x:Int),lV b x (l++[k])=min (lV b x l*oq b[k]!) 65537
 | [],x=>rfl
 | i::l,x=>by simp only [List.cons_append,lV];exact zki b k l _
theorem zme {b:List Box} (hb:∀ k,k < b.length->1<=oq b[k]!):∀ (l:List Nat) (x:Int),(∀ k∈l,k < b.length)->1<=x->x<=65537->1<=lV b x l/\lV b x l<=65537
 | [],x,_,h1,h2=>⟨h1,h2⟩
 | i::l,x,hl,h1,h2=>by
  refine zme hb l _ (fun k hk=>hl k (List.mem_cons_of_mem _ hk)) ?_ (by omega)
  have h3:=hb i (hl i List.mem_cons_self);have h4:=Int.mul_le_mul h1 h3 (by omega) (by omega);omega
def Ae (b:List Box) (l:List Nat) (j:Nat):Int:=if 1 < l.length then lV b 1 (l.take j) else 1
def iM (b:List Box) (l:List Nat):Int:=if 1 < l.length then lV b 1 l else 1
def mF (b:List Box) (ps:List (List Nat)):Int:=ps.foldl (fun x l=>max x (iM b l)) 0
theorem ziW (b:List Box) (l:List Nat):Ae b l 0=1:=by unfold Ae;split<;>simp [lV]
theorem zky (b:List Box) (l:List Nat):Ae b l l.length=iM b l:=by unfold Ae iM;rw [List.take_length]
theorem ziP {b:List Box} {l:List Nat} {j:Nat} (h:j < l.length) (hl:1 < l.length):Ae b l (j+1)=min (Ae b l j*oq b[l[j]]!) 65537:=by
 unfold Ae;rw [if_pos hl,if_pos hl,List.take_add_one,List.getElem?_eq_getElem h];exact zki b _ _ _
theorem zno {b:List Box} {l:List Nat} {j:Nat} (hl:¬ 1 < l.length):Ae b l (j+1)=Ae b l j:=by
 unfold Ae;rw [if_neg hl,if_neg hl]
theorem zp3 {b:List Box} {ps:List (List Nat)} {i:Nat} (h:i < ps.length):mF b (ps.take (i+1))=max (mF b (ps.take i)) (iM b ps[i]):=by
 unfold mF;rw [List.take_add_one,List.getElem?_eq_getElem h];show List.foldl (fun x l=>max x (iM b l)) 0 (ps.take i++[ps[i]])=_;rw [List.foldl_append];rfl
theorem zj5 {b:List Box} (hb:∀ k,k < b.length->1<=oq b[k]!) {l:List Nat} (hl:∀ k∈l,k < b.length) (j:Nat):1<=Ae b l j/\Ae b l j<=65537:=by
 unfold Ae
 split
 .exact zme hb _ _ (fun k hk=>hl k (List.mem_of_mem_take hk)) (by omega) (by omega)
 .omega
theorem zp6 {y u v:Int} (h1:1<=y) (h2:y<=65537) (h3:1<=u) (h4:u<=2097153) (h5:1<=v) (h6:v<=2097153):IntKind.i64.wrap (y*u)=y*u/\IntKind.i64.wrap (y*u*v)=y*u*v:=by
 have a1:=Int.mul_le_mul h2 h4 (by omega) (by omega);have a2:=Int.mul_le_mul h1 h3 (by omega) (by omega);have a3:=Int.mul_le_mul a1 h6 (by omega) (by omega);have a4:=Int.mul_le_mul a2 h5 (by omega) (by omega);exact ⟨wrap64 (by omega) (by omega),wrap64 (by omega) (by omega)⟩
theorem zkG {u v:Int} (h1:1<=u) (h2:u<=2097153) (h3:1<=v) (h4:v<=2097153):IntKind.i64.wrap (u*v)=u*v:=by
 have a1:=Int.mul_le_mul h2 h4 (by omega) (by omega);have a2:=Int.mul_le_mul h1 h3 (by omega) (by omega);exact wrap64 (by omega) (by omega)
theorem sh96:G.shared 96=false:=by decide
theorem e96 (n:Nat) (bs:Sl Box) (s:Sl (List Nat)) (nb:bs.xs.length<=12) (ns:s.xs.length<=12) (hb:∀ b∈bs.xs,mJ b=true) (hs:∀ l∈s.xs,l.length<=12/\∀ k∈l,k < bs.xs.length):zF G (n+2) 96 [bs.pv Box.cells 4,s.pv qz 1]=some (.int .i64 (mF bs.xs s.xs)):=by
 refine zy (zx _) rfl g96 rfl ?_
 have LW:=Hide.mk hb;have Jk:=Hide.mk hs;have fF:Hide (∀ (k:Nat) (h:k < bs.xs.length) (H:Heap),zG (zt G (n+1)) H (.pure (.func 92 [])) [.pure (.agg bs.xs[k].x.cells)]=some (.val (.pure (.int .i64 (bs.xs[k].x.hi - bs.xs[k].x.lo+1))))/\zG (zt G (n+1)) H (.pure (.func 92 [])) [.pure (.agg bs.xs[k].y.cells)]=some (.val (.pure (.int .i64 (bs.xs[k].y.hi - bs.xs[k].y.lo+1))))):=⟨fun k h H=>by
  have hv:=aH.1 (hb _ (List.getElem_mem h));exact ⟨zf (caps:=[]) (ps:=[_]) sh92 (e92 n bs.xs[k].x (by omega) (by omega)),zf (caps:=[]) (ps:=[_]) sh92 (e92 n bs.xs[k].y (by omega) (by omega))⟩⟩
 have ha:Hide (∀ k,k < bs.xs.length->1<=oq bs.xs[k]!):=⟨fun k h=>by
  have hv:=aH.1 (hb _ (List.getElem_mem h));rw [getElem!_pos bs.xs k h];exact Qb ⟨by omega,by omega⟩⟩
 clear hb hs;(repeat' first|simp [*,zb,c96]|(apply za<;>intro _ h<;>try simp [-Nat.le_zero_eq] at h))
 refine zA [(5,5),(7,8),(10,10),(13,46)] (fun (i:Nat) env H=>env 13=.pure (.int .i64 i)/\i<=s.xs.length/\∃ x:Int,env 5=.pure (.int .i64 x)/\Hide (x=mF bs.xs (s.xs.take i))) (fun i=>s.xs.length - i) 0 ?_ ?_ ?_ ?_
 .decide
 .exact ⟨by simp,by omega,0,by simp,⟨rfl⟩⟩
 .simp only [zz];omega
 rintro i env H ⟨g13,hi,x,g5,hx⟩
 by_cases aK:i < s.xs.length
 .have w1:IntKind.i64.wrap ((i:Int)+1)=(i+1:Nat):=by rw [wrap64 (by omega) (by omega)];omega
  have jM:(i:Int) < s.xs.length:=by omega
  obtain ⟨l,hl⟩:∃ l,s.xs[i]=l:=⟨_,rfl⟩
  have K9:=Jk.h _ (List.getElem_mem aK);rw [hl] at K9;have rz:Hide (∀ y:Int,y=iM bs.xs l->max x y=mF bs.xs (s.xs.take (i+1))):=⟨fun y hy=>by rw [zp3 aK,hl,hy,hx.h]⟩
  have nl:=K9.1;have Bw:=Hide.mk K9.2;have e1:(zL l).length=l.length:=z8 l;clear K9 hx;(repeat' first|simp [*,zb,qz]|(apply za<;>intro _ h<;>try simp [-Nat.le_zero_eq] at h))
  refine zA [(8,8),(10,10),(19,42)] (fun (j:Nat) env H=>env 19=.pure (.int .i64 j)/\j<=l.length/\∃ y:Int,env 8=.pure (.int .i64 y)/\Hide (y=Ae bs.xs l j)) (fun j=>l.length - j) 0 ?_ ?_ ?_ ?_
  .decide
  .exact ⟨by simp,by omega,1,by simp,⟨(ziW _ _).symm⟩⟩
  .simp only [zz];omega
  have g13':=g13;have g5':=g5;clear g13 g5;rintro j env H ⟨g19,hj,y,g8,hy⟩
  by_cases iX:j < l.length
  .have w2:IntKind.i64.wrap ((j:Int)+1)=(j+1:Nat):=by rw [wrap64 (by omega) (by omega)];omega
   have SX:(j:Int) < l.length:=by omega
   have hk:=Bw.h _ (List.getElem_mem iX);obtain ⟨k,wR⟩:∃ k,l[j]=k:=⟨_,rfl⟩
   rw [wR] at hk;have SY:j < (zL l).length:=by rw [e1];exact iX
   have gj:(zL l)[j]=(k:Int):=by simp [zL,wR]
   have Hu:(k:Int) < bs.xs.length:=by omega
   by_cases Qi:1 < l.length
   .have YT:(1:Int) < l.length:=by omega
    have hz1:=fun H=>(fF.h k hk H).1;have hz2:=fun H=>(fF.h k hk H).2;have hv:=aH.1 (LW.h _ (List.getElem_mem hk));have hr:=zj5 ha.h Bw.h j;rw [<- hy.h] at hr;have hw:=zp6 (y:=y) (u:=bs.xs[k].x.hi - bs.xs[k].x.lo+1) (v:=bs.xs[k].y.hi - bs.xs[k].y.lo+1) hr.1 hr.2 (by omega) (by omega) (by omega) (by omega);have YU:=hw.1;have Lh:=hw.2;have Vy:Hide (min (y*(bs.xs[k].x.hi - bs.xs[k].x.lo+1)*(bs.xs[k].y.hi - bs.xs[k].y.lo+1)) 65537=Ae bs.xs l (j+1)):=⟨by rw [ziP iX Qi,wR,getElem!_pos bs.xs k hk,hy.h,Int.mul_assoc];rfl⟩
    simp only [Span.cells] at hz1 hz2;clear hv hr hw hy wR;(repeat' first|simp [*,zb,Box.cells,Span.cells]|(apply za<;>intro _ h<;>try simp [-Nat.le_zero_eq] at h));exact ⟨j+1,by omega,by omega,by omega,Vy⟩
   .have YT:¬ (1:Int) < l.length:=by omega
    have Vy:Hide (y=Ae bs.xs l (j+1)):=⟨by rw [zno Qi];exact hy.h⟩
    clear hy wR;(repeat' first|simp [*,zb]|(apply za<;>intro _ h<;>try simp [-Nat.le_zero_eq] at h));exact ⟨j+1,by omega,by omega,by omega,Vy⟩
  .have hjN:j=l.length:=by omega
   subst hjN;have yw:=hy.h;rw [zky] at yw;have hx3:=Hide.mk (rz.h y yw);clear hy rz yw;(repeat' first|simp [*,zb]|(apply za<;>intro _ h<;>try simp [-Nat.le_zero_eq] at h));exact ⟨i+1,by omega,by omega,by omega,hx3⟩
 .have qy:i=s.xs.length:=by omega
  subst qy;have rz:=hx.h;rw [List.take_length] at rz;subst rz;clear hx;simp [*,zb]
structure Acc where
 n:Nat
 first:Option (List Pt)
 best:List (Option (List Pt))
def lG (j:Nat) (c:List Pt):Int:=lU c[j / 4]! (j % 4)
def qC (B:List (Option (List Pt))) (c:List Pt) (t:Nat):List (Option (List Pt)):=B.mapIdx fun j o=>if j < t then Gl (lG j) o c else o
def Dc (A:Acc) (c:List Pt):Acc:=⟨A.n+1,if A.n=0 then some c else A.first,A.best.mapIdx fun j o=>Gl (lG j) o c⟩
def LX (M:Nat):Acc:=⟨0,none,List.replicate M none⟩
theorem Qj (B:List (Option (List Pt))) (c:List Pt) (t:Nat):(qC B c t).length=B.length:=by simp [qC]
theorem zm5 (B:List (Option (List Pt))) (c:List Pt):qC B c 0=B:=by
 refine List.ext_getElem (by simp [qC]) fun j h1 h2=>by simp [qC]
theorem ziz (B:List (Option (List Pt))) (c:List Pt) (t:Nat) (h:B.length<=t):qC B c t=B.mapIdx fun j o=>Gl (lG j) o c:=by
 refine List.ext_getElem (by simp [qC]) fun j h1 h2=>?_
 have:j < t:=by rw [Qj] at h1;omega
 simp [qC,this]
theorem zov (B:List (Option (List Pt))) (c:List Pt) (t:Nat) (h:t < (qC B c t).length):(qC B c t)[t]=B[t]'(by rw [Qj] at h;exact h):=by simp [qC]
theorem znr (B:List (Option (List Pt))) (c:List Pt) (t:Nat) (h:t < B.length) (hb:Gl (lG t) B[t] c=some c):(qC B c t).set t (some c)=qC B c (t+1):=by
 refine List.ext_getElem (by simp [Qj]) fun j h1 h2=>?_
 rw [List.getElem_set]
 split
 .rename_i e;subst e;simp [qC,hb]
 .have:(j < t)↔(j < t+1):=⟨fun h=>by omega,fun h=>by omega⟩
  simp [qC,this]
theorem zl5 (B:List (Option (List Pt))) (c:List Pt) (t:Nat) (h:t < B.length) (hb:Gl (lG t) B[t] c=B[t]):qC B c (t+1)=qC B c t:=by
 refine List.ext_getElem (by simp [Qj]) fun j h1 h2=>?_
 by_cases e:j=t
 .subst e;simp [qC,hb]
 .have:(j < t)↔(j < t+1):=⟨fun h=>by omega,fun h=>by omega⟩
  simp [qC,this]
theorem zgX:∀ (S:List (List Pt)) (A:Acc),S.foldl Dc A=⟨A.n+S.length,if A.n=0 then (match S with|[]=>A.first|c::_=>some c) else A.first,A.best.mapIdx fun j o=>S.foldl (Gl (lG j)) o⟩
 | [],A=>by
  obtain ⟨n,f,b⟩:=A;simp;exact List.ext_getElem (by simp) fun j h1 h2=>by simp
 | c::S,A=>by
  rw [List.foldl_cons,zgX S];unfold Dc;simp only [List.length_cons,Nat.add_eq_zero_iff,Nat.succ_ne_self,and_false,if_false,List.foldl_cons,Acc.mk.injEq]
  refine ⟨by omega,?_,?_⟩
  .by_cases h:A.n=0<;>simp [h]
  .refine List.ext_getElem (by simp) fun j h1 h2=>by simp
theorem zuM (S:List (List Pt)) (A:Acc):(S.foldl Dc A).n=A.n+S.length:=by rw [zgX]
theorem zrh (S:List (List Pt)) (M:Nat):S.foldl Dc (LX M)=⟨S.length,S.head?,(List.range M).map fun j=>Vg (lG j) S⟩:=by
 rw [zgX];unfold LX;simp only [Nat.zero_add,if_true,Acc.mk.injEq,true_and]
 refine ⟨by cases S<;>rfl,List.ext_getElem (by simp) fun j h1 h2=>?_⟩
 simp [Vg]
theorem zom {b:Box} {i k:Nat} (hi:i < (b.x.hi - b.x.lo+1).toNat) (hk:k < (b.y.hi - b.y.lo+1).toNat) :
  ∃ h:i*(b.y.hi - b.y.lo+1).toNat+k < (uU b).length,(uU b)[i*(b.y.hi - b.y.lo+1).toNat+k]=⟨b.x.lo+i,b.y.lo+k⟩:=by
 have key:∀ (m:Nat) (xs ys:List Int),ys.length=m->∀ i k (hi:i < xs.length) (hk:k < ys.length),∃ h:i*m+k < (xs.flatMap fun x=>ys.map fun y=>(⟨x,y⟩:Pt)).length,(xs.flatMap fun x=>ys.map fun y=>(⟨x,y⟩:Pt))[i*m+k]=⟨xs[i],ys[k]⟩:=by
  intro m xs ys hy
  induction xs with
  | nil=>intro i k hi;simp at hi
  | cons x xs ih =>
   intro i k hi hk;simp only [List.flatMap_cons]
   cases i with
   | zero =>
    refine ⟨by simp;omega,?_⟩
    rw [List.getElem_append_left (by simpa using hk)];simp
   | succ i =>
    obtain ⟨h1,h2⟩:=ih i k (by simpa using hi) hk;have e:(i+1)*m+k=m+(i*m+k):=by rw [Nat.add_mul];omega
    refine ⟨by rw [List.length_append,List.length_map,hy,e];omega,?_⟩
    rw [List.getElem_append_right (by rw [List.length_map,hy,e];omega)];simp only [List.length_map,hy,e,Nat.add_sub_cancel_left,h2,List.getElem_cons_succ]
 have h:=key (b.y.hi - b.y.lo+1).toNat (C9 b.x) (C9 b.y) (Vf _) i k (by rw [Vf];exact hi) (by rw [Vf];exact hk);obtain ⟨h1,h2⟩:=h
 refine ⟨h1,?_⟩
 unfold uU;rw [h2];simp [C9]
def Kw (ok:Nat->List Box->Bool) (l:List Box) (i:Nat) (rest:List Nat) (k:Nat) (here:List Box) (t:Nat):List (List Pt) :=
 ((uU l[i]!).take t).flatMap fun x=>if ok k (here.set i (bf x))=true then (wZ ok l rest (k+1) (here.set i (bf x))).map (x :: ·) else []
theorem zlK (ok:Nat->List Box->Bool) (l:List Box) (i:Nat) (rest:List Nat) (k:Nat) (here:List Box):Kw ok l i rest k here 0=[]:=by simp [Kw]
theorem znN (ok:Nat->List Box->Bool) (l:List Box) (i:Nat) (rest:List Nat) (k:Nat) (here:List Box) {t:Nat} (h:(uU l[i]!).length<=t):Kw ok l i rest k here t=wZ ok l (i::rest) k here:=by
 rw [Kw,List.take_of_length_le h,wZ]
theorem zhq (ok:Nat->List Box->Bool) (l:List Box) (i:Nat) (rest:List Nat) (k:Nat) (here:List Box) {t:Nat} {x:Pt} (h:(uU l[i]!)[t]?=some x) :
  Kw ok l i rest k here (t+1)=Kw ok l i rest k here t++(if ok k (here.set i (bf x))=true then (wZ ok l rest (k+1) (here.set i (bf x))).map (x :: ·) else []):=by
 unfold Kw;rw [List.take_add_one,List.flatMap_append,h];simp
theorem zpE (ok:Nat->List Box->Bool) (l:List Box) (i:Nat) (rest:List Nat) (k:Nat) (here:List Box) (t:Nat):(Kw ok l i rest k here t).length<=(wZ ok l (i::rest) k here).length:=by
 have e:=List.take_append_drop t (uU l[i]!);rw [wZ]
 conv=>rhs;rw [<- e,List.flatMap_append,List.length_append]
 unfold Kw;omega
theorem zhn (l:List Box) (i:Nat) (rest:List Nat):(nG l (i::rest)).length=(uU l[i]!).length*(nG l rest).length:=by
 rw [nG,zfc _ (nG l rest).length _ (fun a _=>by simp)]
theorem zfj {b:Box} (h:ja b):((uU b).length:Int)=oq b:=by
 rw [zfJ];unfold oq;have h1:=h.1;have h2:=h.2;rw [Int.natCast_mul,Int.toNat_of_nonneg (by omega),Int.toNat_of_nonneg (by omega)]
theorem zmX {l:List Box} (hb:∀ k,k < l.length->1<=oq l[k]!):∀ (part:List Nat),(∀ k∈part,k < l.length)->lV l 65537 part=65537
 | [],_=>rfl
 | i::rest,hl=>by
  have h1:=hb i (hl i List.mem_cons_self);rw [lV,show min (65537*oq l[i]!) 65537=65537 by omega];exact zmX hb rest fun k hk=>hl k (List.mem_cons_of_mem _ hk)
theorem ziV {l:List Box} (hw:∀ k,k < l.length->ja l[k]!):∀ (part:List Nat) (n:Int),(∀ k∈part,k < l.length)->1<=n->lV l n part<=65536->n*((nG l part).length:Int)=lV l n part
 | [],n,_,_,_=>by simp [nG,lV]
 | i::rest,n,hl,hn,hv=>by
  have hi:=hw i (hl i List.mem_cons_self);have hb:∀ k,k < l.length->1<=oq l[k]! := fun k hk=>Qb (hw k hk);rw [lV] at hv ⊢;have Sn:∀ k∈rest,k < l.length:=fun k hk=>hl k (List.mem_cons_of_mem _ hk)
  by_cases hc:n*oq l[i]! <= 65536
  .rw [show min (n*oq l[i]!) 65537=n*oq l[i]! by omega] at hv ⊢;have h1:1<=n*oq l[i]! := by
    have:=Int.mul_le_mul hn (Qb hi) (by omega) (by omega);omega
   rw [<- ziV hw rest _ Sn h1 hv,zhn,Int.natCast_mul,zfj hi,Int.mul_assoc]
  .rw [show min (n*oq l[i]!) 65537=65537 by omega,zmX hb rest Sn] at hv;omega
theorem zlI (ok:Nat->List Box->Bool) (l:List Box) (part:List Nat) (k:Nat) (here:List Box):(wZ ok l part k here).length<=(nG l part).length:=by
 rw [Yy];exact List.length_filter_le _ _
theorem zqT {facts:List Fact} {l:List Box} {part:List Nat} (hw:Wf l) (hl:∀ k∈part,k < l.length) (h1:1 < part.length) (hv:iM l part<=65536):(jd facts l part).length<=65536:=by
 have qV:∀ k,k < l.length->ja l[k]! := fun k hk=>by rw [getElem!_pos l k hk];exact hw _ (List.getElem_mem hk)
 unfold iM at hv;rw [if_pos h1] at hv;have h2:=ziV qV part 1 hl (by omega) hv;have h3:=zlI (uj facts part) l part 0 l;unfold jd;omega
end Go.Proofs.YtmmhnfghklppiaaGreat.Vm
