/- Parts: what the program's parts computes. Parts: what the program's parts computes, walked. Volumes of parts: the program's, walked. What look gathers of the choices of a part: how many, the first one, the best ones. Plain Lean. -/
import Derived.Test.YtmmhnfghklppiaaGreatVk17
import Derived.Test.YtmmhnfghklppiaaGreatVk19
import Derived.Test.YtmmhnfghklppiaaGreatVk20
import Derived.Test.YtmmhnfghklppiaaGreatVk21
import Derived.Test.YtmmhnfghklppiaaGreatVk15
import Derived.Test.YtmmhnfghklppiaaGreatVk8
import Derived.Test.YtmmhnfghklppiaaGreatVk18
namespace Go.Proofs.YtmmhnfghklppiaaGreat.Vm
open Go
set_option linter.unusedSimpArgs false
set_option linter.unusedVariables false
set_option maxHeartbeats 4000000
set_option maxRecDepth 4000
theorem yf {n:Nat} {H:Heap} {f:Nat} {caps args:List AV} {k:AV->Heap->Prop} {u} (hs:G.shared f=true) (h:∃ v H',Vm.call G (n+1) (.fn f) (args++caps) H=some (v,H')/\k v H') :
  wpE 0 (zD (zn G (n+1)) H (.func f caps) args) H k u:=by
 obtain ⟨v,H',h1,h2⟩:=h
 refine ⟨.upd v H',?_,by simp,h2⟩
 have nQ:(zn G (n+1)).shared f=true:=hs;have oV:(zn G (n+1)).run f (args++caps) H=some (v,H'):=h1;simp only [zD,nQ,if_true,oV]
def iD (g:Nat->Nat) (n:Nat):List Int:=(List.range n).map fun i=>(g i:Int)
theorem Av (g:Nat->Nat) (n:Nat):(iD g n).length=n:=by simp [iD]
theorem wM {g:Nat->Nat} {n i:Nat} (h:i < (iD g n).length):(iD g n)[i]=g i:=by simp [iD]
def lM (l:List Nat):PV:=.slice false 1 (l.map fun (k:Nat)=>[PV.int .i64 (k:Int)])
def OC (ps:List (List Nat)):PV:=if ps.isEmpty=true then .nils else .slice false 1 (ps.map fun l=>[lM l])
def mr (g:Nat->Nat) (fr to i:Nat):Nat->Nat:=fun j=>if j < i/\g j=fr then to else g j
theorem zpv (g:Nat->Nat) (fr to:Nat):mr g fr to 0=g:=by funext j;simp [mr]
theorem zrU (g:Nat->Nat) (fr to i:Nat):mr g fr to i i=g i:=by simp [mr]
theorem zpY (g:Nat->Nat) (fr to N i:Nat) (h:g i=fr):(iD (mr g fr to i) N).set i to=iD (mr g fr to (i+1)) N:=by
 refine List.ext_getElem (by simp [Av]) fun j h1 h2=>?_
 rw [List.getElem_set,wM]
 split
 .rename_i e;subst e;rw [wM];simp [mr,h]
 .rename_i e;rw [wM];have:(j < i/\g j=fr)↔(j < i+1/\g j=fr):=⟨fun h=>⟨by omega,h.2⟩,fun h=>⟨by omega,h.2⟩⟩
  unfold mr;simp only [this]
theorem zpj (g:Nat->Nat) (fr to i:Nat) (h:g i≠fr):mr g fr to (i+1)=mr g fr to i:=by
 funext j
 unfold mr
 by_cases e:j=i
 .subst e;simp [h]
 .have:(j < i+1/\g j=fr)↔(j < i/\g j=fr):=⟨fun h=>⟨by omega,h.2⟩,fun h=>⟨by omega,h.2⟩⟩
  simp only [this]
theorem zrl (g:Nat->Nat) (a b N:Nat):iD (mr g (max (g a) (g b)) (min (g a) (g b)) N) N=iD (CW g a b) N:=by
 refine List.ext_getElem (by simp [Av]) fun j h1 h2=>?_
 rw [wM,wM];rw [Av] at h1;simp [mr,CW,h1]
theorem zoc:G.shared 113=true:=by decide
theorem zjd {n:Nat} {H:Heap} {g:Nat->Nat} {N a b:Nat} {k:AV->Heap->Prop} (hN:N < 1000) (ha:a < N) (hb:b < N) (mF:∀ i,i < N->g i < N) (h0:H.get 0=.cells true (zm aD (iD g N))) (h1:H.get 1=.cells true [.row 0 1 0 N])
  (hk:∀ H',H'.nx=H.nx->(∀ j,j≠0->H'.get j=H.get j)->H'.get 0=.cells true (zm aD (iD (CW g a b) N))->k (.aM []) H') :
  ∃ v H',Vm.call G (n+1) (.fn 113) ([.pure (.int .i64 a),.pure (.int .i64 b)]++[.box 1 0]) H=some (v,H')/\k v H':=by
 refine Gq rfl g113 rfl ?_
 have mF:=Hide.mk mF;have hk:=Hide.mk hk;have hl:=Av g N;have ga:=wM (g:=g) (n:=N) (i:=a) (by rw [hl];exact ha);have gb:=wM (g:=g) (n:=N) (i:=b) (by rw [hl];exact hb);have ra:=Oj (own:=true) (f:=aD) (l:=iD g N) (i:=a) (fun _=>rfl) (by rw [hl];exact ha);have rb:=Oj (own:=true) (f:=aD) (l:=iD g N) (i:=b) (fun _=>rfl) (by rw [hl];exact hb);rw [ga] at ra;rw [gb] at rb;simp only [aD,List.map] at ra rb;obtain ⟨fr,oz⟩:∃ m:Nat,m=max (g a) (g b):=⟨_,rfl⟩
 obtain ⟨to,YJ⟩:∃ m:Nat,m=min (g a) (g b):=⟨_,rfl⟩
 have m1:max (g a:Int) (g b:Int)=(fr:Int):=by subst oz;omega
 have m2:min (g a:Int) (g b:Int)=(to:Int):=by subst YJ;omega
 have haI:(a:Int) < N:=by omega
 have hbI:(b:Int) < N:=by omega
 have bM:=Hide.mk (zrl g a b N);rw [<- oz,<- YJ] at bM;clear oz YJ;(repeat' first|simp [*,za,c113]|(apply zb<;>intro _ h<;>try simp [-Nat.le_zero_eq] at h))
 refine zN [(7,7),(28,41)] (fun (i:Nat) env H2=>env 28=.pure (.int .i64 i)/\i<=N/\H2.nx=H.nx/\Hide (∀ j,j≠0->H2.get j=H.get j)/\H2.get 0=.cells true (zm aD (iD (mr g fr to i) N))) (fun i=>N - i) 0 ?_ ?_ ?_ ?_
 .decide
 .exact ⟨by simp,by omega,rfl,⟨fun _ _=>rfl⟩,by rw [zpv];exact h0⟩
 .simp only [zI];omega
 clear ra rb ga gb hl;rintro i env H2 ⟨g28,hi,fD,ag,QT⟩;have oV:H2.get 1=.cells true [.row 0 1 0 N]:=by rw [ag.h 1 (by omega)];exact h1
 have BH:0 < H2.nx:=zu QT;have hl:=Av (mr g fr to i) N
 by_cases aK:i < N
 .have w1:IntKind.i64.wrap ((i:Int)+1)=(i+1:Nat):=by rw [wrap64 (by omega) (by omega)];omega
  have pO:(i:Int) < N:=by omega
  have gi:=wM (g:=mr g fr to i) (n:=N) (i:=i) (by rw [hl];exact aK);rw [zrU] at gi;have ri:=Oj (own:=true) (f:=aD) (l:=iD (mr g fr to i) N) (i:=i) (fun _=>rfl) (by rw [hl];exact aK);rw [gi] at ri;simp only [aD,List.map] at ri
  by_cases e:g i=fr
  .have pi:=zhC (l:=iD (mr g fr to i) N) (i:=i) (x:=to) (by rw [hl];exact aK);rw [zpY _ _ _ _ _ e] at pi;have eI:((g i:Int) == (fr:Int))=true:=by simp [e]
   have eI':(g i:Int)=(fr:Int):=by simp [e]
   have wK:Hide (∀ (o:aR) (j:Nat),j≠0->(H2.set 0 o).get j=H.get j):=⟨fun o j hj=>by rw [zh hj];exact ag.h j hj⟩
   clear gi hl ag;(repeat' first|simp [*,za]|(apply zb<;>intro _ h<;>try simp [-Nat.le_zero_eq] at h));exact ⟨i+1,by omega,by omega,by omega,⟨wK.h _⟩,zo BH⟩
  .have CZ:=Hide.mk (zpj g fr to i e);have eI:((g i:Int) == (fr:Int))=false:=by simp;omega
   have eI':¬ (g i:Int)=(fr:Int):=by omega
   clear gi hl;(repeat' first|simp [*,za]|(apply zb<;>intro _ h<;>try simp [-Nat.le_zero_eq] at h));exact ⟨i+1,by omega,by omega,by omega,by rw [CZ.h]⟩
 .have wL:i=N:=by omega
  subst wL;rw [bM.h] at QT;have qg:=hk.h H2 fD ag.h QT;clear hk bM ag;simp [*,za]
def D7 (i:Nat):Nat->Nat:=fun j=>if j < i then j else 0
theorem zm7 (N:Nat):(List.replicate N (([PV.int .i64 0]).map AV.pure)).flatten=zm aD (iD (D7 0) N):=by
 have h:iD (D7 0) N=List.replicate N 0:=by
  refine List.ext_getElem (by simp [Av]) fun j h1 h2=>?_
  rw [wM];simp [D7]
 rw [h]
 induction N with
 | zero=>rfl
 | succ N ih=>rw [List.replicate_succ,List.flatten_cons,List.replicate_succ,ih (by
   refine List.ext_getElem (by simp [Av]) fun j h1 h2=>?_
   rw [wM];simp [D7])];rfl
theorem zpC (N i:Nat):(iD (D7 i) N).set i i=iD (D7 (i+1)) N:=by
 refine List.ext_getElem (by simp [Av]) fun j h1 h2=>?_
 rw [List.getElem_set,wM]
 split
 .rename_i e;subst e;rw [wM];simp [D7]
 .rename_i e;rw [wM];have:(j < i)↔(j < i+1):=⟨fun h=>by omega,fun h=>by omega⟩
  unfold D7;simp only [this]
theorem zpn (N:Nat):iD (D7 N) N=iD (fun i=>i) N:=by
 refine List.ext_getElem (by simp [Av]) fun j h1 h2=>?_
 rw [wM,wM];rw [Av] at h1;simp [D7,h1]
theorem YK {fs:List Fact} {k:Nat} (h:k < fs.length):nz (fs.take (k+1))=nz (fs.take k)++wJ fs[k]:=by
 unfold nz;rw [List.take_add_one,List.flatMap_append,List.getElem?_eq_getElem h];simp
theorem zji (fs:List Fact):nz (fs.take fs.length)=nz fs:=by rw [List.take_length]
def J3 (ids:List (Nat×List Nat)):List AV:=ids.map fun x=>.row x.1 1 0 x.2.length
def zZ (l:List Nat):List Int:=l.map fun (k:Nat)=>(k:Int)
theorem D8 (l:List Nat):(zZ l).length=l.length:=by simp [zZ]
structure Aw (B:Nat) (H:Heap) (v:AV) (ps:List (List Nat)):Prop where
 ex:∃ ids:List (Nat×List Nat),ids.map Prod.snd=ps/\RowA H v (J3 ids)/\∀ x∈ids,B<=x.1/\¬ Names v x.1/\H.get x.1=.cells true (zm aD (zZ x.2))
 low:∀ id,Names v id->B<=id
theorem Aw.nil (B:Nat) (H:Heap):Aw B H (.pure .nils) []:=⟨⟨[],rfl,RowA.nil,fun x hx=>by simp at hx⟩,fun id ⟨_,_,_,h⟩=>by simp at h⟩
theorem Aw.lt {B:Nat} {H:Heap} {v:AV} {ps:List (List Nat)} (h:Aw B H v ps) {id:Nat} (hn:Names v id):id < H.nx:=by
 obtain ⟨ids,_,hr,_⟩:=h.ex;exact hr.names_lt hn
theorem Aw.keep {B:Nat} {H H':Heap} {v:AV} {ps:List (List Nat)} (h:Aw B H v ps) (hk:∀ j,B<=j->j < H.nx->H'.get j=H.get j):Aw B H' v ps:=by
 obtain ⟨ids,h1,h2,h3⟩:=h.ex
 refine ⟨⟨ids,h1,h2.keep fun id hn=>hk id (h.low id hn) (h2.names_lt hn),fun x hx=>?_⟩,h.low⟩
 obtain ⟨a,b,c⟩:=h3 x hx;exact ⟨a,b,by rw [hk x.1 a (zu c)];exact c⟩
theorem zkT {H:Heap}:∀ ids:List (Nat×List Nat),(∀ x∈ids,H.get x.1=.cells true (zm aD (zZ x.2)))->FrzL H false 11 (J3 ids) (ids.map fun x=>lM x.2)
 | [],_=>FrzL.nil
 | x::ids,h=>by
  refine FrzL.cons ?_ (zkT ids fun y hy=>h y (List.mem_cons_of_mem _ hy))
  have h1:=xY (n:=9) (f:=aD) (sz:=1) (m:=x.2.length) (fun _=>rfl) (h x List.mem_cons_self) (D8 _);have e:(Sl.mk false (zZ x.2)).pv aD 1=lM x.2:=by
   simp only [Sl.pv,lM,zZ,List.map_map];rfl
  rw [e] at h1;exact h1
theorem Aw.res {B:Nat} {H:Heap} {v:AV} {ps:List (List Nat)} (h:Aw B H v ps):FrzK H false 12 v (OC ps):=by
 obtain ⟨ids,h1,h2,h3⟩:=h.ex;have h4:=h2.frz (zkT ids fun x hx=>(h3 x hx).2.2);have e:(if (J3 ids).isEmpty=true then PV.nils else .slice false 1 ((ids.map fun x=>lM x.2).map fun p=>[p]))=OC ps:=by
  subst h1
  cases ids with
  | nil=>rfl
  | cons x ids=>simp [J3,OC]
 rw [e] at h4;exact h4
theorem zjY {B:Nat} {H:Heap} {v:AV} {ps:List (List Nat)} {bytes id:Nat} {l:List Nat} {b:AV} {k:AV->Heap->Prop} {u} (hp:Aw B H v ps) (h2:B<=H.nx) (hb:zH H 1 b=some ([.row id 1 0 l.length],1)) (aj:B<=id) (hn:¬ Names v id)
  (hg:H.get id=.cells true (zm aD (zZ l))) (hm:ps.length+1<=zl/\(ps.length+1)*bytes<=zl)
  (hk:∀ v' H',Aw B H' v' (ps++[l])->B<=H'.nx->(∀ c,c < B->H'.get c=H.get c)->k v' H'):wpE 0 (zk H 1 bytes v b) H k u:=by
 obtain ⟨ids,h1,hr,h3⟩:=hp.ex;have hlen:(J3 ids).length=ps.length:=by rw [<- h1];simp [J3]
 refine zgW hr hb rfl (by simp [J3,List.all_map];try (intro a b _;rfl)) (by rw [hlen];exact hm) ?_
 intro v' H' BL fD ag aW oV JM
 refine hk v' H' ⟨⟨ids++[(id,l)],by rw [List.map_append,h1];rfl,by simpa [J3] using BL,fun x hx=>?_⟩,fun j hj=>by have:=aW j hj;omega⟩ (by omega) (fun c hc=>ag c (by omega) fun h=>by have:=hp.low c h;omega)
 rcases List.mem_append.1 hx with hx|hx
 .obtain ⟨a,b,c⟩:=h3 x hx;have aK:=zu c;exact ⟨a,fun h=>by have:=aW _ h;omega,by rw [ag _ aK b];exact c⟩
 .simp at hx;subst hx;have aK:=zu hg;exact ⟨aj,fun h=>by have:=aW _ h;simp only at this;omega,by rw [ag _ aK hn];exact hg⟩
def D9 (g:Nat->Nat) (i j:Nat):List Nat:=(List.range j).filter fun k=>g k == i
def Gz (g:Nat->Nat) (n t:Nat):List (List Nat):=((List.range t).filter fun i=>g i == i).map (o7 g n)
theorem zgY (g:Nat->Nat) (i j:Nat):D9 g i (j+1)=if g j=i then D9 g i j++[j] else D9 g i j:=by
 unfold D9;rw [List.range_succ,List.filter_append]
 by_cases e:g j=i<;>simp [e]
theorem zf0 (g:Nat->Nat) (n t:Nat):Gz g n (t+1)=if g t=t then Gz g n t++[o7 g n t] else Gz g n t:=by
 unfold Gz;rw [List.range_succ,List.filter_append]
 by_cases e:g t=t<;>simp [e]
theorem zgR (g:Nat->Nat) (n t:Nat):(Gz g n t).length<=t:=by
 unfold Gz;rw [List.length_map];have:=List.length_filter_le (fun i=>g i == i) (List.range t);rw [List.length_range] at this;exact this
theorem ziC (g:Nat->Nat) (n t:Nat):(D9 g n t).length<=t:=by
 unfold D9;have:=List.length_filter_le (fun i=>g i == n) (List.range t);rw [List.length_range] at this;exact this
theorem sh95:G.shared 95=false:=by decide
theorem e95 (n:Nat) (p:Problem) (ok:af p) (g:Nat->Nat) (hg:bF (nz p.facts.xs) p.boxes.xs.length g):zF G (n+2) 95 [.agg p.cells]=some (OC (z8 g p.boxes.xs.length)):=by
 refine zx (zw _) rfl g95 rfl ?_
 obtain ⟨bs,fs⟩:=p;have nb:bs.xs.length<=12:=ok.nb;have nf:fs.xs.length<=60:=ok.nf;have L8:Hide (∀ f∈fs.xs,zX f bs.xs.length=true):=⟨ok.fact⟩
 have J4:=Hide.mk hg;clear hg ok;simp only at J4 ⊢;obtain ⟨N,hN⟩:∃ N,N=bs.xs.length:=⟨_,rfl⟩
 rw [<- hN] at nb L8 J4 ⊢;have QU:N*1<=zl/\N*8<=zl/\N<=zl:=by unfold zl;omega
 have hz:=zm7 N;simp only [List.map] at hz;have hN':=hN.symm;clear hN;(repeat' first|simp [*,za,c95,Problem.cells]|(apply zb<;>intro _ h<;>try simp [-Nat.le_zero_eq] at h)|(show wpE 0 (zk ..) ..;refine zA ?_)|(refine zq fun v2 H2 fQ aT aF aG aH aI=>?_))
 refine zN [(4,4),(18,25)] (fun (i:Nat) env H=>env 18=.pure (.int .i64 i)/\i<=N/\H.nx=2/\H.get 1=.cells true [.row 0 1 0 N]/\H.get 0=.cells true (zm aD (iD (D7 i) N))) (fun i=>N - i) 0 ?_ ?_ ?_ ?_
 .decide
 .refine ⟨by simp,by omega,by simp,?_,?_⟩
  .rfl
  .rfl
 .simp only [zI];omega
 rintro i env H ⟨g28,hi,fD,h1,h0⟩
 by_cases aK:i < N
 .have w1:IntKind.i64.wrap ((i:Int)+1)=(i+1:Nat):=by rw [wrap64 (by omega) (by omega)];omega
  have pO:(i:Int) < N:=by omega
  have pi:=zhC (l:=iD (D7 i) N) (i:=i) (x:=i) (by rw [Av];exact aK);rw [zpC] at pi;have BH:0 < H.nx:=by omega
  (repeat' first|simp [*,za]|(apply zb<;>intro _ h<;>try simp [-Nat.le_zero_eq] at h)|(show wpE 0 (zk ..) ..;refine zA ?_)|(refine zq fun v2 H2 fQ aT aF aG aH aI=>?_));exact ⟨i+1,by omega,by omega,by omega,rfl⟩
 .have wL:i=N:=by omega
  subst wL;rw [zpn] at h0;have yz:2<=H.nx:=by omega
  have hC0:Hide (bF (nz (fs.xs.take 0)) i (fun j=>j)):=⟨bF.nil i⟩
  clear hz QU hi;clear aK fD;(repeat' first|simp [*,za]|(apply zb<;>intro _ h<;>try simp [-Nat.le_zero_eq] at h)|(show wpE 0 (zk ..) ..;refine zA ?_)|(refine zq fun v2 H2 fQ aT aF aG aH aI=>?_))
  refine zN [(7,7),(30,49)] (fun (k:Nat) env H=>env 30=.pure (.int .i64 k)/\k<=fs.xs.length/\2<=H.nx/\H.get 1=.cells true [.row 0 1 0 i]/\∃ g,H.get 0=.cells true (zm aD (iD g i))/\Hide (bF (nz (fs.xs.take k)) i g)) (fun k=>fs.xs.length - k) 0 ?_ ?_ ?_ ?_
  .decide
  .exact ⟨by simp,by omega,yz,h1,_,h0,hC0⟩
  .simp only [zI];omega
  clear hC0 h1 h0 yz;rintro k env H ⟨g30,hk,fD,h1,g',h0,hC⟩
  by_cases aK:k < fs.xs.length
  .have w1:IntKind.i64.wrap ((k:Int)+1)=(k+1:Nat):=by rw [wrap64 (by omega) (by omega)];omega
   have pO:(k:Int) < fs.xs.length:=by omega
   have hf:=(Au _ _).1 (L8.h fs.xs[k] (List.getElem_mem aK));obtain ⟨a,ha⟩:∃ a:Nat,fs.xs[k].a=a:=⟨fs.xs[k].a.toNat,by omega⟩
   obtain ⟨b,hb⟩:∃ b:Nat,fs.xs[k].b=b:=⟨fs.xs[k].b.toNat,by omega⟩
   have J5:a < i:=by omega
   have hbN:b < i:=by omega
   have QV:0≠H.nx:=by omega
   have QW:1≠H.nx:=by omega
   have YL:0 < H.nx:=by omega
   have Ik:1 < H.nx:=by omega
   have pM:=Hide.mk aK;have hfH:=Hide.mk hf;clear hf;(repeat' first|simp [*,za,Fact.cells]|(apply zb<;>intro _ h<;>try simp [-Nat.le_zero_eq] at h)|(show wpE 0 (zk ..) ..;refine zA ?_)|(refine zq fun v2 H2 fQ aT aF aG aH aI=>?_))
   refine yf zoc (zjd (g:=g') (by omega) J5 hbN (fun j hj=>by have:=hC.h.le j hj;omega) (by rw [zh QV,ze YL];exact h0) (by rw [zh QW,ze Ik];exact h1) ?_)
   intro H3 C8 Az h03;have hgf:=Az H.nx (by omega);rw [zo (by simp)] at hgf;have h13:H3.get 1=.cells true [.row 0 1 0 i]:=by rw [Az 1 (by omega),zh QW,ze Ik];exact h1
   have J6:H3.nx=H.nx+1:=by rw [C8];rfl
   have QX:=Hide.mk (hC.h.join J5 hbN);clear Az C8 hC h1 h0
   by_cases qg:fs.xs[k].kind=2
   .have J7:=hfH.h.2.2.2.2.2.1 qg;obtain ⟨c,hc⟩:∃ c:Nat,fs.xs[k].c=c:=⟨fs.xs[k].c.toNat,by omega⟩
    have hcN:c < i:=by omega
    have YM:=QX.h.join J5 hcN;have mF:∀ j,j < i->CW g' a b j < i:=fun j hj=>by have:=QX.h.le j hj;omega
    have YN:=Hide.mk mF;have YO:Hide (bF (nz (fs.xs.take (k+1))) i (CW (CW g' a b) a c)):=⟨by
     rw [YK pM.h];simp only [wJ,ha,hb,hc,if_pos qg];rw [List.append_assoc] at YM;exact YM⟩
    clear J7 YM QX mF;(repeat' first|simp [*,za,Fact.cells]|(apply zb<;>intro _ h<;>try simp [-Nat.le_zero_eq] at h)|(show wpE 0 (zk ..) ..;refine zA ?_)|(refine zq fun v2 H2 fQ aT aF aG aH aI=>?_))
    refine yf zoc (zjd (g:=CW g' a b) (by omega) J5 hcN YN.h h03 h13 ?_)
    intro H4 AA Fj h04;have h14:H4.get 1=.cells true [.row 0 1 0 i]:=by rw [Fj 1 (by omega)];exact h13
    have hnx4':H4.nx=H.nx+1:=by rw [AA];exact J6
    clear Fj AA h13 h03 hgf J6;(repeat' first|simp [*,za]|(apply zb<;>intro _ h<;>try simp [-Nat.le_zero_eq] at h)|(show wpE 0 (zk ..) ..;refine zA ?_)|(refine zq fun v2 H2 fQ aT aF aG aH aI=>?_));exact ⟨k+1,by omega,by omega,by omega,by omega,_,rfl,YO⟩
   .have YO:Hide (bF (nz (fs.xs.take (k+1))) i (CW g' a b)):=⟨by rw [YK pM.h];simp only [wJ,ha,hb,if_neg qg];exact QX.h⟩
    clear QX;(repeat' first|simp [*,za,Fact.cells]|(apply zb<;>intro _ h<;>try simp [-Nat.le_zero_eq] at h)|(show wpE 0 (zk ..) ..;refine zA ?_)|(refine zq fun v2 H2 fQ aT aF aG aH aI=>?_));exact ⟨k+1,by omega,by omega,by omega,by omega,_,rfl,YO⟩
  .have YP:k=fs.xs.length:=by omega
   subst YP;have OD:∀ j,j < i->g' j=g j:=by
    have h:=hC.h;rw [zji] at h;exact h.unique J4.h
   have sH:Gz g' i i=z8 g i:=Yd OD;have QY:=Hide.mk (Aw.nil 2 H);rw [<- sH];clear J4 hC OD sH L8 hk aK;(repeat' first|simp [*,za]|(apply zb<;>intro _ h<;>try simp [-Nat.le_zero_eq] at h)|(show wpE 0 (zk ..) ..;refine zA ?_)|(refine zq fun v2 H2 fQ aT aF aG aH aI=>?_))
   refine zN [(8,11),(52,81)] (fun (t:Nat) env H=>env 52=.pure (.int .i64 t)/\t<=i/\2<=H.nx/\H.get 1=.cells true [.row 0 1 0 i]/\H.get 0=.cells true (zm aD (iD g' i))/\∃ v,env 8=v/\Hide (Aw 2 H v (Gz g' i t))) (fun t=>i - t) 0 ?_ ?_ ?_ ?_
   .decide
   .exact ⟨by simp,by omega,fD,h1,h0,_,rfl,QY⟩
   .simp only [zI];omega
   clear QY h1 h0 fD;rintro t env H ⟨g52,ht,fD,h1,h0,v,g8,hP⟩
   by_cases vw:t < i
   .have w1:IntKind.i64.wrap ((t:Int)+1)=(t+1:Nat):=by rw [wrap64 (by omega) (by omega)];omega
    have xS:(t:Int) < i:=by omega
    have gt:=wM (g:=g') (n:=i) (i:=t) (by rw [Av];exact vw);have rt:=Oj (own:=true) (f:=aD) (l:=iD g' i) (i:=t) (fun _=>rfl) (by rw [Av];exact vw);rw [gt] at rt;simp only [aD,List.map] at rt
    by_cases e:g' t=t
    .have eI:(g' t:Int)=(t:Int):=by rw [e]
     have J8:aC aD 1 H (.pure .nils) (zZ (D9 g' t 0)):=aC.nil;have J8:=Hide.mk J8;clear gt;(repeat' first|simp [*,za]|(apply zb<;>intro _ h<;>try simp [-Nat.le_zero_eq] at h)|(show wpE 0 (zk ..) ..;refine zA ?_)|(refine zq fun v2 H2 fQ aT aF aG aH aI=>?_));clear rt eI
     refine zN [(10,11),(63,76)] (fun (j:Nat) env H2=>env 63=.pure (.int .i64 j)/\j<=i/\H.nx<=H2.nx/\Hide (∀ c,c < H.nx->H2.get c=H.get c)/\∃ u,env 10=u/\Hide (aC aD 1 H2 u (zZ (D9 g' t j))/\∀ id,Names u id->H.nx<=id)) (fun j=>i - j) 0 ?_ ?_ ?_ ?_
     .decide
     .exact ⟨by simp,by omega,Nat.le_refl _,⟨fun _ _=>rfl⟩,_,rfl,⟨J8.h,fun id ⟨_,_,_,h⟩=>by simp at h⟩⟩
     .simp only [zI];omega
     clear J8;rintro j env H2 ⟨g63,hj,aT,ag,u,g10,hU⟩;have h12:H2.get 1=.cells true [.row 0 1 0 i]:=by rw [ag.h 1 (by omega)];exact h1
     have h02:H2.get 0=.cells true (zm aD (iD g' i)):=by rw [ag.h 0 (by omega)];exact h0
     have bu:=hU.h.1.1.one
     by_cases jm:j < i
     .have w2:IntKind.i64.wrap ((j:Int)+1)=(j+1:Nat):=by rw [wrap64 (by omega) (by omega)];omega
      have hjI:(j:Int) < i:=by omega
      have gj:=wM (g:=g') (n:=i) (i:=j) (by rw [Av];exact jm);have rj:=Oj (own:=true) (f:=aD) (l:=iD g' i) (i:=j) (fun _=>rfl) (by rw [Av];exact jm);rw [gj] at rj;simp only [aD,List.map] at rj;clear gj
      by_cases ej:g' j=t
      .have eJ:(g' j:Int)=(t:Int):=by rw [ej]
       (repeat' first|simp [*,za]|(apply zb<;>intro _ h<;>try simp [-Nat.le_zero_eq] at h)|(show wpE 0 (zk ..) ..;refine zA ?_)|(refine zq fun v2 H2 fQ aT aF aG aH aI=>?_))
       refine EY (hU.h.1.alloc _) (fun _=>rfl) (by decide) (fun _=>rfl) (by rw [D8];have:=ziC g' t j;unfold zl;omega) ⟨(j:Int),by simp [aD],?_⟩
       intro u4 H4 l6 ha;have QZ:Hide (aC aD 1 H4 u4 (zZ (D9 g' t (j+1)))/\∀ id,Names u4 id->H.nx<=id):=⟨by rw [zgY,if_pos ej];simpa [zZ] using l6,fun id hn=>by have:=ha.new id hn;simp at this;omega⟩
       have Il:Hide (∀ c,c < H.nx->H4.get c=H.get c):=⟨fun c hc=>by rw [ha.get c (by simp;omega) (fun hn=>by have:=hU.h.2 c hn;omega),ze (by omega)];exact ag.h c hc⟩
       have UF:H.nx<=H4.nx:=by have:=ha.nx;simp at this;omega
       clear l6 ha hU ag bu rj eJ;(repeat' first|simp [*,za]|(apply zb<;>intro _ h<;>try simp [-Nat.le_zero_eq] at h)|(show wpE 0 (zk ..) ..;refine zA ?_)|(refine zq fun v2 H2 fQ aT aF aG aH aI=>?_));exact ⟨j+1,by omega,by omega,by omega,QZ⟩
      .have eJ:¬ (g' j:Int)=(t:Int):=by omega
       have C9:=hU.h;rw [show D9 g' t j=D9 g' t (j+1) by rw [zgY,if_neg ej]] at C9;have hU3:=Hide.mk C9;clear C9 hU;(repeat' first|simp [*,za]|(apply zb<;>intro _ h<;>try simp [-Nat.le_zero_eq] at h)|(show wpE 0 (zk ..) ..;refine zA ?_)|(refine zq fun v2 H2 fQ aT aF aG aH aI=>?_));exact ⟨j+1,by omega,by omega,by omega,hU3⟩
     .have DN:j=i:=by omega
      subst DN;(repeat' first|simp [*,za]|(apply zb<;>intro _ h<;>try simp [-Nat.le_zero_eq] at h)|(show wpE 0 (zk ..) ..;refine zA ?_)|(refine zq fun v2 H2 fQ aT aF aG aH aI=>?_));have C9:=hU.h;have UM:D9 g' t j=o7 g' j t:=rfl;rw [UM] at C9;have bL:zZ (o7 g' j t)≠[]:=by
       intro h;have h2:o7 g' j t=[]:=by simpa [zZ] using h
       have h3:t∈o7 g' j t:=by simp [o7,vw,e]
       rw [h2] at h3;simp at h3
      obtain ⟨id,rfl,yG⟩:=C9.1.1.row bL;have L9:=C9.2 id ⟨_,_,_,rfl⟩
      refine zjY (id:=id) (l:=o7 g' j t) (hP.h.keep fun c _ hc=>by rw [ze (by omega)];exact ag.h c hc) (by simp;omega) (by simp [D8]) (by omega) (fun h=>by have:=hP.h.lt h;omega) (by rw [ze (zu yG)];exact yG) (by have:=zgR g' j t;unfold zl;omega) ?_
      intro v4 H4 hP4 AA e01;have e0:=e01 0 (by omega);have e1:=e01 1 (by omega);have h14:H4.get 1=.cells true [.row 0 1 0 j]:=by rw [e1,ze (by omega)];exact h12
      have h04:H4.get 0=.cells true (zm aD (iD g' j)):=by rw [e0,ze (by omega)];exact h02
      have hP5:Hide (Aw 2 H4 v4 (Gz g' j (t+1))):=⟨by rw [zf0,if_pos e];exact hP4⟩
      clear hP4 e0 e1 e01 hP hU C9 ag h12 h02 h1 h0 bu yG bL UM g10;(repeat' first|simp [*,za]|(apply zb<;>intro _ h<;>try simp [-Nat.le_zero_eq] at h)|(show wpE 0 (zk ..) ..;refine zA ?_)|(refine zq fun v2 H2 fQ aT aF aG aH aI=>?_));exact ⟨t+1,by omega,by omega,by omega,hP5⟩
    .have eI:¬ (g' t:Int)=(t:Int):=by omega
     have Fp:Hide (Aw 2 H v (Gz g' i (t+1))):=⟨by rw [zf0,if_neg e];exact hP.h⟩
     clear gt hP;(repeat' first|simp [*,za]|(apply zb<;>intro _ h<;>try simp [-Nat.le_zero_eq] at h)|(show wpE 0 (zk ..) ..;refine zA ?_)|(refine zq fun v2 H2 fQ aT aF aG aH aI=>?_));exact ⟨t+1,by omega,by omega,by omega,Fp⟩
   .have hti:t=i:=by omega
    subst hti;have aY:=Hide.mk hP.h.res;clear hP;(repeat' first|simp [*,za]|(apply zb<;>intro _ h<;>try simp [-Nat.le_zero_eq] at h)|(show wpE 0 (zk ..) ..;refine zA ?_)|(refine zq fun v2 H2 fQ aT aF aG aH aI=>?_));exact aY.h
def GA (l:List Nat):List PV:=[(Sl.mk false (zZ l)).pv aD 1]
theorem Io (l:List Nat):lM l=(Sl.mk false (zZ l)).pv aD 1:=by
 simp only [Sl.pv,lM,zZ,List.map_map];rfl
theorem zib (ps:List (List Nat)):OC ps=(Sl.of ps).pv GA 1:=by
 cases ps with
 | nil=>rfl
 | cons l ps=>simp [OC,Sl.of,Sl.pv,GA,Io]
theorem zjE (b:List Box) (k:Nat):∀ (l:List Nat) (x:Int),jM b x (l++[k])=min (jM b x l*o9 b[k]!) 65537
 | [],x=>rfl
 | i::l,x=>by simp only [List.cons_append,jM];exact zjE b k l _
theorem zkL {b:List Box} (hb:∀ k,k < b.length->1<=o9 b[k]!):∀ (l:List Nat) (x:Int),(∀ k∈l,k < b.length)->1<=x->x<=65537->1<=jM b x l/\jM b x l<=65537
 | [],x,_,h1,h2=>⟨h1,h2⟩
 | i::l,x,hl,h1,h2=>by
  refine zkL hb l _ (fun k hk=>hl k (List.mem_cons_of_mem _ hk)) ?_ (by omega)
  have h3:=hb i (hl i List.mem_cons_self);have h4:=Int.mul_le_mul h1 h3 (by omega) (by omega);omega
def yg (b:List Box) (l:List Nat) (j:Nat):Int:=if 1 < l.length then jM b 1 (l.take j) else 1
def nA (b:List Box) (l:List Nat):Int:=if 1 < l.length then jM b 1 l else 1
def nC (b:List Box) (ps:List (List Nat)):Int:=ps.foldl (fun x l=>max x (nA b l)) 0
theorem zmn (b:List Box) (l:List Nat):yg b l 0=1:=by unfold yg;split<;>simp [jM]
theorem zpp (b:List Box) (l:List Nat):yg b l l.length=nA b l:=by unfold yg nA;rw [List.take_length]
theorem zmS {b:List Box} {l:List Nat} {j:Nat} (h:j < l.length) (hl:1 < l.length):yg b l (j+1)=min (yg b l j*o9 b[l[j]]!) 65537:=by
 unfold yg;rw [if_pos hl,if_pos hl,List.take_add_one,List.getElem?_eq_getElem h];exact zjE b _ _ _
theorem zm4 {b:List Box} {l:List Nat} {j:Nat} (hl:¬ 1 < l.length):yg b l (j+1)=yg b l j:=by
 unfold yg;rw [if_neg hl,if_neg hl]
theorem zpa {b:List Box} {ps:List (List Nat)} {i:Nat} (h:i < ps.length):nC b (ps.take (i+1))=max (nC b (ps.take i)) (nA b ps[i]):=by
 unfold nC;rw [List.take_add_one,List.getElem?_eq_getElem h];show List.foldl (fun x l=>max x (nA b l)) 0 (ps.take i++[ps[i]])=_;rw [List.foldl_append];rfl
theorem zpl {b:List Box} (hb:∀ k,k < b.length->1<=o9 b[k]!) {l:List Nat} (hl:∀ k∈l,k < b.length) (j:Nat):1<=yg b l j/\yg b l j<=65537:=by
 unfold yg
 split
 .exact zkL hb _ _ (fun k hk=>hl k (List.mem_of_mem_take hk)) (by omega) (by omega)
 .omega
theorem zoQ {y u v:Int} (h1:1<=y) (h2:y<=65537) (h3:1<=u) (h4:u<=2097153) (h5:1<=v) (h6:v<=2097153):IntKind.i64.wrap (y*u)=y*u/\IntKind.i64.wrap (y*u*v)=y*u*v:=by
 have a1:=Int.mul_le_mul h2 h4 (by omega) (by omega);have a2:=Int.mul_le_mul h1 h3 (by omega) (by omega);have a3:=Int.mul_le_mul a1 h6 (by omega) (by omega);have a4:=Int.mul_le_mul a2 h5 (by omega) (by omega);exact ⟨wrap64 (by omega) (by omega),wrap64 (by omega) (by omega)⟩
theorem zsf {u v:Int} (h1:1<=u) (h2:u<=2097153) (h3:1<=v) (h4:v<=2097153):IntKind.i64.wrap (u*v)=u*v:=by
 have a1:=Int.mul_le_mul h2 h4 (by omega) (by omega);have a2:=Int.mul_le_mul h1 h3 (by omega) (by omega);exact wrap64 (by omega) (by omega)
theorem sh96:G.shared 96=false:=by decide
theorem e96 (n:Nat) (bs:Sl Box) (s:Sl (List Nat)) (nb:bs.xs.length<=12) (ns:s.xs.length<=12) (hb:∀ b∈bs.xs,ny b=true) (hs:∀ l∈s.xs,l.length<=12/\∀ k∈l,k < bs.xs.length):zF G (n+2) 96 [bs.pv Box.cells 4,s.pv GA 1]=some (.int .i64 (nC bs.xs s.xs)):=by
 refine zx (zw _) rfl g96 rfl ?_
 have Ip:=Hide.mk hb;have Fq:=Hide.mk hs;have fE:Hide (∀ (k:Nat) (h:k < bs.xs.length) (H:Heap),zD (zn G (n+1)) H (.pure (.func 92 [])) [.pure (.agg bs.xs[k].x.cells)]=some (.val (.pure (.int .i64 (bs.xs[k].x.hi - bs.xs[k].x.lo+1))))/\zD (zn G (n+1)) H (.pure (.func 92 [])) [.pure (.agg bs.xs[k].y.cells)]=some (.val (.pure (.int .i64 (bs.xs[k].y.hi - bs.xs[k].y.lo+1))))):=⟨fun k h H=>by
  have hv:=aJ.1 (hb _ (List.getElem_mem h));exact ⟨zg (caps:=[]) (ps:=[_]) sh92 (e92 n bs.xs[k].x (by omega) (by omega)),zg (caps:=[]) (ps:=[_]) sh92 (e92 n bs.xs[k].y (by omega) (by omega))⟩⟩
 have ha:Hide (∀ k,k < bs.xs.length->1<=o9 bs.xs[k]!):=⟨fun k h=>by
  have hv:=aJ.1 (hb _ (List.getElem_mem h));rw [getElem!_pos bs.xs k h];exact QS ⟨by omega,by omega⟩⟩
 clear hb hs;(repeat' first|simp [*,za,c96]|(apply zb<;>intro _ h<;>try simp [-Nat.le_zero_eq] at h))
 refine zN [(5,5),(7,8),(10,10),(13,46)] (fun (i:Nat) env H=>env 13=.pure (.int .i64 i)/\i<=s.xs.length/\∃ x:Int,env 5=.pure (.int .i64 x)/\Hide (x=nC bs.xs (s.xs.take i))) (fun i=>s.xs.length - i) 0 ?_ ?_ ?_ ?_
 .decide
 .exact ⟨by simp,by omega,0,by simp,⟨rfl⟩⟩
 .simp only [zI];omega
 rintro i env H ⟨g13,hi,x,g5,hx⟩
 by_cases aK:i < s.xs.length
 .have w1:IntKind.i64.wrap ((i:Int)+1)=(i+1:Nat):=by rw [wrap64 (by omega) (by omega)];omega
  have pO:(i:Int) < s.xs.length:=by omega
  obtain ⟨l,hl⟩:∃ l,s.xs[i]=l:=⟨_,rfl⟩
  have Hm:=Fq.h _ (List.getElem_mem aK);rw [hl] at Hm;have sM:Hide (∀ y:Int,y=nA bs.xs l->max x y=nC bs.xs (s.xs.take (i+1))):=⟨fun y hy=>by rw [zpa aK,hl,hy,hx.h]⟩
  have nl:=Hm.1;have BV:=Hide.mk Hm.2;have e1:(zZ l).length=l.length:=D8 l;clear Hm hx;(repeat' first|simp [*,za,GA]|(apply zb<;>intro _ h<;>try simp [-Nat.le_zero_eq] at h))
  refine zN [(8,8),(10,10),(19,42)] (fun (j:Nat) env H=>env 19=.pure (.int .i64 j)/\j<=l.length/\∃ y:Int,env 8=.pure (.int .i64 y)/\Hide (y=yg bs.xs l j)) (fun j=>l.length - j) 0 ?_ ?_ ?_ ?_
  .decide
  .exact ⟨by simp,by omega,1,by simp,⟨(zmn _ _).symm⟩⟩
  .simp only [zI];omega
  have g13':=g13;have g5':=g5;clear g13 g5;rintro j env H ⟨g19,hj,y,g8,hy⟩
  by_cases jm:j < l.length
  .have w2:IntKind.i64.wrap ((j:Int)+1)=(j+1:Nat):=by rw [wrap64 (by omega) (by omega)];omega
   have hjI:(j:Int) < l.length:=by omega
   have hk:=BV.h _ (List.getElem_mem jm);obtain ⟨k,Bv⟩:∃ k,l[j]=k:=⟨_,rfl⟩
   rw [Bv] at hk;have hjx:j < (zZ l).length:=by rw [e1];exact jm
   have gj:(zZ l)[j]=(k:Int):=by simp [zZ,Bv]
   have Q0:(k:Int) < bs.xs.length:=by omega
   by_cases h1l:1 < l.length
   .have UN:(1:Int) < l.length:=by omega
    have YQ:=fun H=>(fE.h k hk H).1;have YR:=fun H=>(fE.h k hk H).2;have hv:=aJ.1 (Ip.h _ (List.getElem_mem hk));have hr:=zpl ha.h BV.h j;rw [<- hy.h] at hr;have hw:=zoQ (y:=y) (u:=bs.xs[k].x.hi - bs.xs[k].x.lo+1) (v:=bs.xs[k].y.hi - bs.xs[k].y.lo+1) hr.1 hr.2 (by omega) (by omega) (by omega) (by omega);have UO:=hw.1;have Hw:=hw.2;have YS:Hide (min (y*(bs.xs[k].x.hi - bs.xs[k].x.lo+1)*(bs.xs[k].y.hi - bs.xs[k].y.lo+1)) 65537=yg bs.xs l (j+1)):=⟨by rw [zmS jm h1l,Bv,getElem!_pos bs.xs k hk,hy.h,Int.mul_assoc];rfl⟩
    simp only [Span.cells] at YQ YR;clear hv hr hw hy Bv;(repeat' first|simp [*,za,Box.cells,Span.cells]|(apply zb<;>intro _ h<;>try simp [-Nat.le_zero_eq] at h));exact ⟨j+1,by omega,by omega,by omega,YS⟩
   .have UN:¬ (1:Int) < l.length:=by omega
    have YS:Hide (y=yg bs.xs l (j+1)):=⟨by rw [zm4 h1l];exact hy.h⟩
    clear hy Bv;(repeat' first|simp [*,za]|(apply zb<;>intro _ h<;>try simp [-Nat.le_zero_eq] at h));exact ⟨j+1,by omega,by omega,by omega,YS⟩
  .have hjN:j=l.length:=by omega
   subst hjN;have xR:=hy.h;rw [zpp] at xR;have hx3:=Hide.mk (sM.h y xR);clear hy sM xR;(repeat' first|simp [*,za]|(apply zb<;>intro _ h<;>try simp [-Nat.le_zero_eq] at h));exact ⟨i+1,by omega,by omega,by omega,hx3⟩
 .have wL:i=s.xs.length:=by omega
  subst wL;have sM:=hx.h;rw [List.take_length] at sM;subst sM;clear hx;simp [*,za]
structure Acc where
 n:Nat
 first:Option (List Pt)
 best:List (Option (List Pt))
def jE (j:Nat) (c:List Pt):Int:=jL c[j / 4]! (j % 4)
def nU (B:List (Option (List Pt))) (c:List Pt) (t:Nat):List (Option (List Pt)):=B.mapIdx fun j o=>if j < t then CX (jE j) o c else o
def yh (A:Acc) (c:List Pt):Acc:=⟨A.n+1,if A.n=0 then some c else A.first,A.best.mapIdx fun j o=>CX (jE j) o c⟩
def Iq (M:Nat):Acc:=⟨0,none,List.replicate M none⟩
theorem Mc (B:List (Option (List Pt))) (c:List Pt) (t:Nat):(nU B c t).length=B.length:=by simp [nU]
theorem zkP (B:List (Option (List Pt))) (c:List Pt):nU B c 0=B:=by
 refine List.ext_getElem (by simp [nU]) fun j h1 h2=>by simp [nU]
theorem zij (B:List (Option (List Pt))) (c:List Pt) (t:Nat) (h:B.length<=t):nU B c t=B.mapIdx fun j o=>CX (jE j) o c:=by
 refine List.ext_getElem (by simp [nU]) fun j h1 h2=>?_
 have:j < t:=by rw [Mc] at h1;omega
 simp [nU,this]
theorem znL (B:List (Option (List Pt))) (c:List Pt) (t:Nat) (h:t < (nU B c t).length):(nU B c t)[t]=B[t]'(by rw [Mc] at h;exact h):=by simp [nU]
theorem zmq (B:List (Option (List Pt))) (c:List Pt) (t:Nat) (h:t < B.length) (hb:CX (jE t) B[t] c=some c):(nU B c t).set t (some c)=nU B c (t+1):=by
 refine List.ext_getElem (by simp [Mc]) fun j h1 h2=>?_
 rw [List.getElem_set]
 split
 .rename_i e;subst e;simp [nU,hb]
 .have:(j < t)↔(j < t+1):=⟨fun h=>by omega,fun h=>by omega⟩
  simp [nU,this]
theorem zlW (B:List (Option (List Pt))) (c:List Pt) (t:Nat) (h:t < B.length) (hb:CX (jE t) B[t] c=B[t]):nU B c (t+1)=nU B c t:=by
 refine List.ext_getElem (by simp [Mc]) fun j h1 h2=>?_
 by_cases e:j=t
 .subst e;simp [nU,hb]
 .have:(j < t)↔(j < t+1):=⟨fun h=>by omega,fun h=>by omega⟩
  simp [nU,this]
theorem YT:∀ (S:List (List Pt)) (A:Acc),S.foldl yh A=⟨A.n+S.length,if A.n=0 then (match S with|[]=>A.first|c::_=>some c) else A.first,A.best.mapIdx fun j o=>S.foldl (CX (jE j)) o⟩
 | [],A=>by
  obtain ⟨n,f,b⟩:=A;simp;exact List.ext_getElem (by simp) fun j h1 h2=>by simp
 | c::S,A=>by
  rw [List.foldl_cons,YT S];unfold yh;simp only [List.length_cons,Nat.add_eq_zero_iff,Nat.succ_ne_self,and_false,if_false,List.foldl_cons,Acc.mk.injEq]
  refine ⟨by omega,?_,?_⟩
  .by_cases h:A.n=0<;>simp [h]
  .refine List.ext_getElem (by simp) fun j h1 h2=>by simp
theorem ztq (S:List (List Pt)) (A:Acc):(S.foldl yh A).n=A.n+S.length:=by rw [YT]
theorem zp0 (S:List (List Pt)) (M:Nat):S.foldl yh (Iq M)=⟨S.length,S.head?,(List.range M).map fun j=>QN (jE j) S⟩:=by
 rw [YT];unfold Iq;simp only [Nat.zero_add,if_true,Acc.mk.injEq,true_and]
 refine ⟨by cases S<;>rfl,List.ext_getElem (by simp) fun j h1 h2=>?_⟩
 simp [QN]
theorem zmQ {b:Box} {i k:Nat} (hi:i < (b.x.hi - b.x.lo+1).toNat) (hk:k < (b.y.hi - b.y.lo+1).toNat) :
  ∃ h:i*(b.y.hi - b.y.lo+1).toNat+k < (rf b).length,(rf b)[i*(b.y.hi - b.y.lo+1).toNat+k]=⟨b.x.lo+i,b.y.lo+k⟩:=by
 have key:∀ (m:Nat) (xs ys:List Int),ys.length=m->∀ i k (hi:i < xs.length) (hk:k < ys.length),∃ h:i*m+k < (xs.flatMap fun x=>ys.map fun y=>(⟨x,y⟩:Pt)).length,(xs.flatMap fun x=>ys.map fun y=>(⟨x,y⟩:Pt))[i*m+k]=⟨xs[i],ys[k]⟩:=by
  intro m xs ys hy
  induction xs with
  | nil=>intro i k hi;simp at hi
  | cons x xs ih =>
   intro i k hi hk;simp only [List.flatMap_cons]
   cases i with
   | zero =>
    refine ⟨by simp;omega,?_⟩
    rw [List.getElem_append_left (by simpa using hk)];simp
   | succ i =>
    obtain ⟨h1,h2⟩:=ih i k (by simpa using hi) hk;have e:(i+1)*m+k=m+(i*m+k):=by rw [Nat.add_mul];omega
    refine ⟨by rw [List.length_append,List.length_map,hy,e];omega,?_⟩
    rw [List.getElem_append_right (by rw [List.length_map,hy,e];omega)];simp only [List.length_map,hy,e,Nat.add_sub_cancel_left,h2,List.getElem_cons_succ]
 have h:=key (b.y.hi - b.y.lo+1).toNat (yc b.x) (yc b.y) (QM _) i k (by rw [QM];exact hi) (by rw [QM];exact hk);obtain ⟨h1,h2⟩:=h
 refine ⟨h1,?_⟩
 unfold rf;rw [h2];simp [yc]
def GD (ok:Nat->List Box->Bool) (l:List Box) (i:Nat) (rest:List Nat) (k:Nat) (here:List Box) (t:Nat):List (List Pt) :=
 ((rf l[i]!).take t).flatMap fun x=>if ok k (here.set i (fT x))=true then (tL ok l rest (k+1) (here.set i (fT x))).map (x :: ·) else []
theorem zk6 (ok:Nat->List Box->Bool) (l:List Box) (i:Nat) (rest:List Nat) (k:Nat) (here:List Box):GD ok l i rest k here 0=[]:=by simp [GD]
theorem zmL (ok:Nat->List Box->Bool) (l:List Box) (i:Nat) (rest:List Nat) (k:Nat) (here:List Box) {t:Nat} (h:(rf l[i]!).length<=t):GD ok l i rest k here t=tL ok l (i::rest) k here:=by
 rw [GD,List.take_of_length_le h,tL]
theorem zgZ (ok:Nat->List Box->Bool) (l:List Box) (i:Nat) (rest:List Nat) (k:Nat) (here:List Box) {t:Nat} {x:Pt} (h:(rf l[i]!)[t]?=some x) :
  GD ok l i rest k here (t+1)=GD ok l i rest k here t++(if ok k (here.set i (fT x))=true then (tL ok l rest (k+1) (here.set i (fT x))).map (x :: ·) else []):=by
 unfold GD;rw [List.take_add_one,List.flatMap_append,h];simp
theorem zoG (ok:Nat->List Box->Bool) (l:List Box) (i:Nat) (rest:List Nat) (k:Nat) (here:List Box) (t:Nat):(GD ok l i rest k here t).length<=(tL ok l (i::rest) k here).length:=by
 have e:=List.take_append_drop t (rf l[i]!);rw [tL]
 conv=>rhs;rw [<- e,List.flatMap_append,List.length_append]
 unfold GD;omega
theorem zgT (l:List Box) (i:Nat) (rest:List Nat):(mi l (i::rest)).length=(rf l[i]!).length*(mi l rest).length:=by
 rw [mi,Ye _ (mi l rest).length _ (fun a _=>by simp)]
theorem YU {b:Box} (h:jq b):((rf b).length:Int)=o9 b:=by
 rw [zfm];unfold o9;have h1:=h.1;have h2:=h.2;rw [Int.natCast_mul,Int.toNat_of_nonneg (by omega),Int.toNat_of_nonneg (by omega)]
theorem zkU {l:List Box} (hb:∀ k,k < l.length->1<=o9 l[k]!):∀ (part:List Nat),(∀ k∈part,k < l.length)->jM l 65537 part=65537
 | [],_=>rfl
 | i::rest,hl=>by
  have h1:=hb i (hl i List.mem_cons_self);rw [jM,show min (65537*o9 l[i]!) 65537=65537 by omega];exact zkU hb rest fun k hk=>hl k (List.mem_cons_of_mem _ hk)
theorem zmj {l:List Box} (hw:∀ k,k < l.length->jq l[k]!):∀ (part:List Nat) (n:Int),(∀ k∈part,k < l.length)->1<=n->jM l n part<=65536->n*((mi l part).length:Int)=jM l n part
 | [],n,_,_,_=>by simp [mi,jM]
 | i::rest,n,hl,hn,hv=>by
  have hi:=hw i (hl i List.mem_cons_self);have hb:∀ k,k < l.length->1<=o9 l[k]! := fun k hk=>QS (hw k hk);rw [jM] at hv ⊢;have Oc:∀ k∈rest,k < l.length:=fun k hk=>hl k (List.mem_cons_of_mem _ hk)
  by_cases hc:n*o9 l[i]! <= 65536
  .rw [show min (n*o9 l[i]!) 65537=n*o9 l[i]! by omega] at hv ⊢;have h1:1<=n*o9 l[i]! := by
    have:=Int.mul_le_mul hn (QS hi) (by omega) (by omega);omega
   rw [<- zmj hw rest _ Oc h1 hv,zgT,Int.natCast_mul,YU hi,Int.mul_assoc]
  .rw [show min (n*o9 l[i]!) 65537=65537 by omega,zkU hb rest Oc] at hv;omega
theorem zk2 (ok:Nat->List Box->Bool) (l:List Box) (part:List Nat) (k:Nat) (here:List Box):(tL ok l part k here).length<=(mi l part).length:=by
 rw [Uz];exact List.length_filter_le _ _
theorem zpP {facts:List Fact} {l:List Box} {part:List Nat} (hw:Wf l) (hl:∀ k∈part,k < l.length) (h1:1 < part.length) (hv:nA l part<=65536):(jk facts l part).length<=65536:=by
 have oW:∀ k,k < l.length->jq l[k]! := fun k hk=>by rw [getElem!_pos l k hk];exact hw _ (List.getElem_mem hk)
 unfold nA at hv;rw [if_pos h1] at hv;have h2:=zmj oW part 1 hl (by omega) hv;have h3:=zk2 (qD facts part) l part 0 l;unfold jk;omega
end Go.Proofs.YtmmhnfghklppiaaGreat.Vm
