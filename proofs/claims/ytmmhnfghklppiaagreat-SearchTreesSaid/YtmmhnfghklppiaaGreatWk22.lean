/- Parts: what the program's parts computes. Parts: what the program's parts computes, walked. Volumes of parts: the program's, walked. What look gathers of the choices of a part: how many, the first one, the best ones. Plain Lean. -/
import Derived.Test.YtmmhnfghklppiaaGreatWk17
import Derived.Test.YtmmhnfghklppiaaGreatWk19
import Derived.Test.YtmmhnfghklppiaaGreatWk20
import Derived.Test.YtmmhnfghklppiaaGreatWk21
import Derived.Test.YtmmhnfghklppiaaGreatWk15
import Derived.Test.YtmmhnfghklppiaaGreatWk8
import Derived.Test.YtmmhnfghklppiaaGreatWk18
namespace Go.Proofs.YtmmhnfghklppiaaGreat.Vm
open Go
set_option linter.unusedSimpArgs false
set_option linter.unusedVariables false
set_option maxHeartbeats 4000000
set_option maxRecDepth 4000
theorem BI {n:Nat} {H:Heap} {f:Nat} {caps args:List AV} {k:AV->Heap->Prop} {u} (hs:G.shared f=true) (h:∃ v H',Vm.call G (n+1) (.fn f) (args++caps) H=some (v,H')/\k v H') :
  wpE 0 (zH (zu G (n+1)) H (.func f caps) args) H k u:=by
 obtain ⟨v,H',h1,h2⟩:=h
 refine ⟨.upd v H',?_,by simp,h2⟩
 have oC:(zu G (n+1)).shared f=true:=hs;have tO:(zu G (n+1)).run f (args++caps) H=some (v,H'):=h1;simp only [zH,oC,if_true,tO]
def jm (g:Nat->Nat) (n:Nat):List Int:=(List.range n).map fun i=>(g i:Int)
theorem C8 (g:Nat->Nat) (n:Nat):(jm g n).length=n:=by simp [jm]
theorem Ai {g:Nat->Nat} {n i:Nat} (h:i < (jm g n).length):(jm g n)[i]=g i:=by simp [jm]
def lK (l:List Nat):PV:=.slice false 1 (l.map fun (k:Nat)=>[PV.int .i64 (k:Int)])
def QS (ps:List (List Nat)):PV:=if ps.isEmpty=true then .nils else .slice false 1 (ps.map fun l=>[lK l])
def nU (g:Nat->Nat) (fr to i:Nat):Nat->Nat:=fun j=>if j < i/\g j=fr then to else g j
theorem zpd (g:Nat->Nat) (fr to:Nat):nU g fr to 0=g:=by funext j;simp [nU]
theorem zsW (g:Nat->Nat) (fr to i:Nat):nU g fr to i i=g i:=by simp [nU]
theorem zrN (g:Nat->Nat) (fr to N i:Nat) (h:g i=fr):(jm (nU g fr to i) N).set i to=jm (nU g fr to (i+1)) N:=by
 refine List.ext_getElem (by simp [C8]) fun j h1 h2=>?_
 rw [List.getElem_set,Ai]
 split
 .rename_i e;subst e;rw [Ai];simp [nU,h]
 .rename_i e;rw [Ai];have:(j < i/\g j=fr)↔(j < i+1/\g j=fr):=⟨fun h=>⟨by omega,h.2⟩,fun h=>⟨by omega,h.2⟩⟩
  unfold nU;simp only [this]
theorem zp5 (g:Nat->Nat) (fr to i:Nat) (h:g i≠fr):nU g fr to (i+1)=nU g fr to i:=by
 funext j
 unfold nU
 by_cases e:j=i
 .subst e;simp [h]
 .have:(j < i+1/\g j=fr)↔(j < i/\g j=fr):=⟨fun h=>⟨by omega,h.2⟩,fun h=>⟨by omega,h.2⟩⟩
  simp only [this]
theorem zr0 (g:Nat->Nat) (a b N:Nat):jm (nU g (max (g a) (g b)) (min (g a) (g b)) N) N=jm (Fa g a b) N:=by
 refine List.ext_getElem (by simp [C8]) fun j h1 h2=>?_
 rw [Ai,Ai];rw [C8] at h1;simp [nU,Fa,h1]
theorem zoJ:G.shared 113=true:=by decide
theorem zkf {n:Nat} {H:Heap} {g:Nat->Nat} {N a b:Nat} {k:AV->Heap->Prop} (hN:N < 1000) (ha:a < N) (hb:b < N) (nY:∀ i,i < N->g i < N) (h0:H.get 0=.cells true (zq aI (jm g N))) (h1:H.get 1=.cells true [.row 0 1 0 N])
  (hk:∀ H',H'.nx=H.nx->(∀ j,j≠0->H'.get j=H.get j)->H'.get 0=.cells true (zq aI (jm (Fa g a b) N))->k (.aQ []) H') :
  ∃ v H',Vm.call G (n+1) (.fn 113) ([.pure (.int .i64 a),.pure (.int .i64 b)]++[.box 1 0]) H=some (v,H')/\k v H':=by
 refine Jl rfl g113 rfl ?_
 have nY:=Hide.mk nY;have hk:=Hide.mk hk;have hl:=C8 g N;have ga:=Ai (g:=g) (n:=N) (i:=a) (by rw [hl];exact ha);have gb:=Ai (g:=g) (n:=N) (i:=b) (by rw [hl];exact hb);have ra:=QE (own:=true) (f:=aI) (l:=jm g N) (i:=a) (fun _=>rfl) (by rw [hl];exact ha);have rb:=QE (own:=true) (f:=aI) (l:=jm g N) (i:=b) (fun _=>rfl) (by rw [hl];exact hb);rw [ga] at ra;rw [gb] at rb;simp only [aI,List.map] at ra rb;obtain ⟨fr,qE⟩:∃ m:Nat,m=max (g a) (g b):=⟨_,rfl⟩
 obtain ⟨to,hto⟩:∃ m:Nat,m=min (g a) (g b):=⟨_,rfl⟩
 have m1:max (g a:Int) (g b:Int)=(fr:Int):=by subst qE;omega
 have m2:min (g a:Int) (g b:Int)=(to:Int):=by subst hto;omega
 have haI:(a:Int) < N:=by omega
 have hbI:(b:Int) < N:=by omega
 have fq:=Hide.mk (zr0 g a b N);rw [<- qE,<- hto] at fq;clear qE hto;(repeat' first|simp [*,zb,c113]|(apply za<;>intro _ h<;>try simp [-Nat.le_zero_eq] at h))
 refine zL [(7,7),(28,41)] (fun (i:Nat) env H2=>env 28=.pure (.int .i64 i)/\i<=N/\H2.nx=H.nx/\Hide (∀ j,j≠0->H2.get j=H.get j)/\H2.get 0=.cells true (zq aI (jm (nU g fr to i) N))) (fun i=>N - i) 0 ?_ ?_ ?_ ?_
 .decide
 .exact ⟨by simp,by omega,rfl,⟨fun _ _=>rfl⟩,by rw [zpd];exact h0⟩
 .simp only [zF];omega
 clear ra rb ga gb hl;rintro i env H2 ⟨g28,hi,bX,ah,TY⟩;have tO:H2.get 1=.cells true [.row 0 1 0 N]:=by rw [ah.h 1 (by omega)];exact h1
 have bD:0 < H2.nx:=zx TY;have hl:=C8 (nU g fr to i) N
 by_cases aO:i < N
 .have w1:IntKind.i64.wrap ((i:Int)+1)=(i+1:Nat):=by rw [wrap64 (by omega) (by omega)];omega
  have qh:(i:Int) < N:=by omega
  have gi:=Ai (g:=nU g fr to i) (n:=N) (i:=i) (by rw [hl];exact aO);rw [zsW] at gi;have ri:=QE (own:=true) (f:=aI) (l:=jm (nU g fr to i) N) (i:=i) (fun _=>rfl) (by rw [hl];exact aO);rw [gi] at ri;simp only [aI,List.map] at ri
  by_cases e:g i=fr
  .have pi:=ziE (l:=jm (nU g fr to i) N) (i:=i) (x:=to) (by rw [hl];exact aO);rw [zrN _ _ _ _ _ e] at pi;have eI:((g i:Int) == (fr:Int))=true:=by simp [e]
   have eI':(g i:Int)=(fr:Int):=by simp [e]
   have Ag:Hide (∀ (o:aU) (j:Nat),j≠0->(H2.set 0 o).get j=H.get j):=⟨fun o j hj=>by rw [zf hj];exact ah.h j hj⟩
   clear gi hl ah;(repeat' first|simp [*,zb]|(apply za<;>intro _ h<;>try simp [-Nat.le_zero_eq] at h));exact ⟨i+1,by omega,by omega,by omega,⟨Ag.h _⟩,zn bD⟩
  .have Aj:=Hide.mk (zp5 g fr to i e);have eI:((g i:Int) == (fr:Int))=false:=by simp;omega
   have eI':¬ (g i:Int)=(fr:Int):=by omega
   clear gi hl;(repeat' first|simp [*,zb]|(apply za<;>intro _ h<;>try simp [-Nat.le_zero_eq] at h));exact ⟨i+1,by omega,by omega,by omega,by rw [Aj.h]⟩
 .have xO:i=N:=by omega
  subst xO;rw [fq.h] at TY;have sj:=hk.h H2 bX ah.h TY;clear hk fq ah;simp [*,zb]
def Gp (i:Nat):Nat->Nat:=fun j=>if j < i then j else 0
theorem zol (N:Nat):(List.replicate N (([PV.int .i64 0]).map AV.pure)).flatten=zq aI (jm (Gp 0) N):=by
 have h:jm (Gp 0) N=List.replicate N 0:=by
  refine List.ext_getElem (by simp [C8]) fun j h1 h2=>?_
  rw [Ai];simp [Gp]
 rw [h]
 induction N with
 | zero=>rfl
 | succ N ih=>rw [List.replicate_succ,List.flatten_cons,List.replicate_succ,ih (by
   refine List.ext_getElem (by simp [C8]) fun j h1 h2=>?_
   rw [Ai];simp [Gp])];rfl
theorem zpL (N i:Nat):(jm (Gp i) N).set i i=jm (Gp (i+1)) N:=by
 refine List.ext_getElem (by simp [C8]) fun j h1 h2=>?_
 rw [List.getElem_set,Ai]
 split
 .rename_i e;subst e;rw [Ai];simp [Gp]
 .rename_i e;rw [Ai];have:(j < i)↔(j < i+1):=⟨fun h=>by omega,fun h=>by omega⟩
  unfold Gp;simp only [this]
theorem zqc (N:Nat):jm (Gp N) N=jm (fun i=>i) N:=by
 refine List.ext_getElem (by simp [C8]) fun j h1 h2=>?_
 rw [Ai,Ai];rw [C8] at h1;simp [Gp,h1]
theorem zgd {fs:List Fact} {k:Nat} (h:k < fs.length):pF (fs.take (k+1))=pF (fs.take k)++Af fs[k]:=by
 unfold pF;rw [List.take_add_one,List.flatMap_append,List.getElem?_eq_getElem h];simp
theorem zj4 (fs:List Fact):pF (fs.take fs.length)=pF fs:=by rw [List.take_length]
def MV (ids:List (Nat×List Nat)):List AV:=ids.map fun x=>.row x.1 1 0 x.2.length
def zZ (l:List Nat):List Int:=l.map fun (k:Nat)=>(k:Int)
theorem Ez (l:List Nat):(zZ l).length=l.length:=by simp [zZ]
structure C9 (B:Nat) (H:Heap) (v:AV) (ps:List (List Nat)):Prop where
 ex:∃ ids:List (Nat×List Nat),ids.map Prod.snd=ps/\RowA H v (MV ids)/\∀ x∈ids,B<=x.1/\¬ Names v x.1/\H.get x.1=.cells true (zq aI (zZ x.2))
 low:∀ id,Names v id->B<=id
theorem C9.nil (B:Nat) (H:Heap):C9 B H (.pure .nils) []:=⟨⟨[],rfl,RowA.nil,fun x hx=>by simp at hx⟩,fun id ⟨_,_,_,h⟩=>by simp at h⟩
theorem C9.lt {B:Nat} {H:Heap} {v:AV} {ps:List (List Nat)} (h:C9 B H v ps) {id:Nat} (hn:Names v id):id < H.nx:=by
 obtain ⟨ids,_,hr,_⟩:=h.ex;exact hr.names_lt hn
theorem C9.keep {B:Nat} {H H':Heap} {v:AV} {ps:List (List Nat)} (h:C9 B H v ps) (hk:∀ j,B<=j->j < H.nx->H'.get j=H.get j):C9 B H' v ps:=by
 obtain ⟨ids,h1,h2,h3⟩:=h.ex
 refine ⟨⟨ids,h1,h2.keep fun id hn=>hk id (h.low id hn) (h2.names_lt hn),fun x hx=>?_⟩,h.low⟩
 obtain ⟨a,b,c⟩:=h3 x hx;exact ⟨a,b,by rw [hk x.1 a (zx c)];exact c⟩
theorem zlB {H:Heap}:∀ ids:List (Nat×List Nat),(∀ x∈ids,H.get x.1=.cells true (zq aI (zZ x.2)))->FrzL H false 11 (MV ids) (ids.map fun x=>lK x.2)
 | [],_=>FrzL.nil
 | x::ids,h=>by
  refine FrzL.cons ?_ (zlB ids fun y hy=>h y (List.mem_cons_of_mem _ hy))
  have h1:=sO (n:=9) (f:=aI) (sz:=1) (m:=x.2.length) (fun _=>rfl) (h x List.mem_cons_self) (Ez _);have e:(Sl.mk false (zZ x.2)).pv aI 1=lK x.2:=by
   simp only [Sl.pv,lK,zZ,List.map_map];rfl
  rw [e] at h1;exact h1
theorem C9.res {B:Nat} {H:Heap} {v:AV} {ps:List (List Nat)} (h:C9 B H v ps):FrzK H false 12 v (QS ps):=by
 obtain ⟨ids,h1,h2,h3⟩:=h.ex;have h4:=h2.frz (zlB ids fun x hx=>(h3 x hx).2.2);have e:(if (MV ids).isEmpty=true then PV.nils else .slice false 1 ((ids.map fun x=>lK x.2).map fun p=>[p]))=QS ps:=by
  subst h1
  cases ids with
  | nil=>rfl
  | cons x ids=>simp [MV,QS]
 rw [e] at h4;exact h4
theorem zle {B:Nat} {H:Heap} {v:AV} {ps:List (List Nat)} {bytes id:Nat} {l:List Nat} {b:AV} {k:AV->Heap->Prop} {u} (hp:C9 B H v ps) (h2:B<=H.nx) (hb:zO H 1 b=some ([.row id 1 0 l.length],1)) (au:B<=id) (hn:¬ Names v id)
  (hg:H.get id=.cells true (zq aI (zZ l))) (hm:ps.length+1<=zo/\(ps.length+1)*bytes<=zo)
  (hk:∀ v' H',C9 B H' v' (ps++[l])->B<=H'.nx->(∀ c,c < B->H'.get c=H.get c)->k v' H'):wpE 0 (zm H 1 bytes v b) H k u:=by
 obtain ⟨ids,h1,hr,h3⟩:=hp.ex;have hlen:(MV ids).length=ps.length:=by rw [<- h1];simp [MV]
 refine zhf hr hb rfl (by simp [MV,List.all_map];try (intro a b _;rfl)) (by rw [hlen];exact hm) ?_
 intro v' H' En bX ah aR tO Hu
 refine hk v' H' ⟨⟨ids++[(id,l)],by rw [List.map_append,h1];rfl,by simpa [MV] using En,fun x hx=>?_⟩,fun j hj=>by have:=aR j hj;omega⟩ (by omega) (fun c hc=>ah c (by omega) fun h=>by have:=hp.low c h;omega)
 rcases List.mem_append.1 hx with hx|hx
 .obtain ⟨a,b,c⟩:=h3 x hx;have aO:=zx c;exact ⟨a,fun h=>by have:=aR _ h;omega,by rw [ah _ aO b];exact c⟩
 .simp at hx;subst hx;have aO:=zx hg;exact ⟨au,fun h=>by have:=aR _ h;simp only at this;omega,by rw [ah _ aO hn];exact hg⟩
def Gq (g:Nat->Nat) (i j:Nat):List Nat:=(List.range j).filter fun k=>g k == i
def Jt (g:Nat->Nat) (n t:Nat):List (List Nat):=((List.range t).filter fun i=>g i == i).map (rD g n)
theorem zhy (g:Nat->Nat) (i j:Nat):Gq g i (j+1)=if g j=i then Gq g i j++[j] else Gq g i j:=by
 unfold Gq;rw [List.range_succ,List.filter_append]
 by_cases e:g j=i<;>simp [e]
theorem zgO (g:Nat->Nat) (n t:Nat):Jt g n (t+1)=if g t=t then Jt g n t++[rD g n t] else Jt g n t:=by
 unfold Jt;rw [List.range_succ,List.filter_append]
 by_cases e:g t=t<;>simp [e]
theorem zhz (g:Nat->Nat) (n t:Nat):(Jt g n t).length<=t:=by
 unfold Jt;rw [List.length_map];have:=List.length_filter_le (fun i=>g i == i) (List.range t);rw [List.length_range] at this;exact this
theorem zjc (g:Nat->Nat) (n t:Nat):(Gq g n t).length<=t:=by
 unfold Gq;have:=List.length_filter_le (fun i=>g i == n) (List.range t);rw [List.length_range] at this;exact this
theorem sh95:G.shared 95=false:=by decide
theorem e95 (n:Nat) (p:Problem) (ok:ae p) (g:Nat->Nat) (hg:bV (pF p.facts.xs) p.boxes.xs.length g):zK G (n+2) 95 [.agg p.cells]=some (QS (pG g p.boxes.xs.length)):=by
 refine zz (zy _) rfl g95 rfl ?_
 obtain ⟨bs,fs⟩:=p;have nb:bs.xs.length<=12:=ok.nb;have nf:fs.xs.length<=60:=ok.nf;have OI:Hide (∀ f∈fs.xs,qX f bs.xs.length=true):=⟨ok.fact⟩
 have EA:=Hide.mk hg;clear hg ok;simp only at EA ⊢;obtain ⟨N,hN⟩:∃ N,N=bs.xs.length:=⟨_,rfl⟩
 rw [<- hN] at nb OI EA ⊢;have TZ:N*1<=zo/\N*8<=zo/\N<=zo:=by unfold zo;omega
 have hz:=zol N;simp only [List.map] at hz;have hN':=hN.symm;clear hN;(repeat' first|simp [*,zb,c95,Problem.cells]|(apply za<;>intro _ h<;>try simp [-Nat.le_zero_eq] at h)|(show wpE 0 (zm ..) ..;refine zA ?_)|(refine zt fun v2 H2 fD aY aJ aK aL aM=>?_))
 refine zL [(4,4),(18,25)] (fun (i:Nat) env H=>env 18=.pure (.int .i64 i)/\i<=N/\H.nx=2/\H.get 1=.cells true [.row 0 1 0 N]/\H.get 0=.cells true (zq aI (jm (Gp i) N))) (fun i=>N - i) 0 ?_ ?_ ?_ ?_
 .decide
 .refine ⟨by simp,by omega,by simp,?_,?_⟩
  .rfl
  .rfl
 .simp only [zF];omega
 rintro i env H ⟨g28,hi,bX,h1,h0⟩
 by_cases aO:i < N
 .have w1:IntKind.i64.wrap ((i:Int)+1)=(i+1:Nat):=by rw [wrap64 (by omega) (by omega)];omega
  have qh:(i:Int) < N:=by omega
  have pi:=ziE (l:=jm (Gp i) N) (i:=i) (x:=i) (by rw [C8];exact aO);rw [zpL] at pi;have bD:0 < H.nx:=by omega
  (repeat' first|simp [*,zb]|(apply za<;>intro _ h<;>try simp [-Nat.le_zero_eq] at h)|(show wpE 0 (zm ..) ..;refine zA ?_)|(refine zt fun v2 H2 fD aY aJ aK aL aM=>?_));exact ⟨i+1,by omega,by omega,by omega,rfl⟩
 .have xO:i=N:=by omega
  subst xO;rw [zqc] at h0;have BU:2<=H.nx:=by omega
  have hC0:Hide (bV (pF (fs.xs.take 0)) i (fun j=>j)):=⟨bV.nil i⟩
  clear hz TZ hi;clear aO bX;(repeat' first|simp [*,zb]|(apply za<;>intro _ h<;>try simp [-Nat.le_zero_eq] at h)|(show wpE 0 (zm ..) ..;refine zA ?_)|(refine zt fun v2 H2 fD aY aJ aK aL aM=>?_))
  refine zL [(7,7),(30,49)] (fun (k:Nat) env H=>env 30=.pure (.int .i64 k)/\k<=fs.xs.length/\2<=H.nx/\H.get 1=.cells true [.row 0 1 0 i]/\∃ g,H.get 0=.cells true (zq aI (jm g i))/\Hide (bV (pF (fs.xs.take k)) i g)) (fun k=>fs.xs.length - k) 0 ?_ ?_ ?_ ?_
  .decide
  .exact ⟨by simp,by omega,BU,h1,_,h0,hC0⟩
  .simp only [zF];omega
  clear hC0 h1 h0 BU;rintro k env H ⟨g30,hk,bX,h1,g',h0,hC⟩
  by_cases aO:k < fs.xs.length
  .have w1:IntKind.i64.wrap ((k:Int)+1)=(k+1:Nat):=by rw [wrap64 (by omega) (by omega)];omega
   have qh:(k:Int) < fs.xs.length:=by omega
   have hf:=(CZ _ _).1 (OI.h fs.xs[k] (List.getElem_mem aO));obtain ⟨a,ha⟩:∃ a:Nat,fs.xs[k].a=a:=⟨fs.xs[k].a.toNat,by omega⟩
   obtain ⟨b,hb⟩:∃ b:Nat,fs.xs[k].b=b:=⟨fs.xs[k].b.toNat,by omega⟩
   have MW:a < i:=by omega
   have hbN:b < i:=by omega
   have OJ:0≠H.nx:=by omega
   have T9:1≠H.nx:=by omega
   have hlt0:0 < H.nx:=by omega
   have KA:1 < H.nx:=by omega
   have oK:=Hide.mk aO;have hfH:=Hide.mk hf;clear hf;(repeat' first|simp [*,zb,Fact.cells]|(apply za<;>intro _ h<;>try simp [-Nat.le_zero_eq] at h)|(show wpE 0 (zm ..) ..;refine zA ?_)|(refine zt fun v2 H2 fD aY aJ aK aL aM=>?_))
   refine BI zoJ (zkf (g:=g') (by omega) MW hbN (fun j hj=>by have:=hC.h.le j hj;omega) (by rw [zf OJ,zg hlt0];exact h0) (by rw [zf T9,zg KA];exact h1) ?_)
   intro H3 Fh Da h03;have hgf:=Da H.nx (by omega);rw [zn (by simp)] at hgf;have h13:H3.get 1=.cells true [.row 0 1 0 i]:=by rw [Da 1 (by omega),zf T9,zg KA];exact h1
   have MX:H3.nx=H.nx+1:=by rw [Fh];rfl
   have Ua:=Hide.mk (hC.h.join MW hbN);clear Da Fh hC h1 h0
   by_cases sj:fs.xs[k].kind=2
   .have iZ:=hfH.h.2.2.2.2.2.1 sj;obtain ⟨c,hc⟩:∃ c:Nat,fs.xs[k].c=c:=⟨fs.xs[k].c.toNat,by omega⟩
    have hcN:c < i:=by omega
    have hC2:=Ua.h.join MW hcN;have nY:∀ j,j < i->Fa g' a b j < i:=fun j hj=>by have:=Ua.h.le j hj;omega
    have hglH:=Hide.mk nY;have hN2:Hide (bV (pF (fs.xs.take (k+1))) i (Fa (Fa g' a b) a c)):=⟨by
     rw [zgd oK.h];simp only [Af,ha,hb,hc,if_pos sj];rw [List.append_assoc] at hC2;exact hC2⟩
    clear iZ hC2 Ua nY;(repeat' first|simp [*,zb,Fact.cells]|(apply za<;>intro _ h<;>try simp [-Nat.le_zero_eq] at h)|(show wpE 0 (zm ..) ..;refine zA ?_)|(refine zt fun v2 H2 fD aY aJ aK aL aM=>?_))
    refine BI zoJ (zkf (g:=Fa g' a b) (by omega) MW hcN hglH.h h03 h13 ?_)
    intro H4 OL Io h04;have h14:H4.get 1=.cells true [.row 0 1 0 i]:=by rw [Io 1 (by omega)];exact h13
    have hnx4':H4.nx=H.nx+1:=by rw [OL];exact MX
    clear Io OL h13 h03 hgf MX;(repeat' first|simp [*,zb]|(apply za<;>intro _ h<;>try simp [-Nat.le_zero_eq] at h)|(show wpE 0 (zm ..) ..;refine zA ?_)|(refine zt fun v2 H2 fD aY aJ aK aL aM=>?_));exact ⟨k+1,by omega,by omega,by omega,by omega,_,rfl,hN2⟩
   .have hN2:Hide (bV (pF (fs.xs.take (k+1))) i (Fa g' a b)):=⟨by rw [zgd oK.h];simp only [Af,ha,hb,if_neg sj];exact Ua.h⟩
    clear Ua;(repeat' first|simp [*,zb,Fact.cells]|(apply za<;>intro _ h<;>try simp [-Nat.le_zero_eq] at h)|(show wpE 0 (zm ..) ..;refine zA ?_)|(refine zt fun v2 H2 fD aY aJ aK aL aM=>?_));exact ⟨k+1,by omega,by omega,by omega,by omega,_,rfl,hN2⟩
  .have hkN:k=fs.xs.length:=by omega
   subst hkN;have QT:∀ j,j < i->g' j=g j:=by
    have h:=hC.h;rw [zj4] at h;exact h.unique EA.h
   have sH:Jt g' i i=pG g i:=zeV QT;have Ub:=Hide.mk (C9.nil 2 H);rw [<- sH];clear EA hC QT sH OI hk aO;(repeat' first|simp [*,zb]|(apply za<;>intro _ h<;>try simp [-Nat.le_zero_eq] at h)|(show wpE 0 (zm ..) ..;refine zA ?_)|(refine zt fun v2 H2 fD aY aJ aK aL aM=>?_))
   refine zL [(8,11),(52,81)] (fun (t:Nat) env H=>env 52=.pure (.int .i64 t)/\t<=i/\2<=H.nx/\H.get 1=.cells true [.row 0 1 0 i]/\H.get 0=.cells true (zq aI (jm g' i))/\∃ v,env 8=v/\Hide (C9 2 H v (Jt g' i t))) (fun t=>i - t) 0 ?_ ?_ ?_ ?_
   .decide
   .exact ⟨by simp,by omega,bX,h1,h0,_,rfl,Ub⟩
   .simp only [zF];omega
   clear Ub h1 h0 bX;rintro t env H ⟨g52,ht,bX,h1,h0,v,g8,hP⟩
   by_cases wu:t < i
   .have w1:IntKind.i64.wrap ((t:Int)+1)=(t+1:Nat):=by rw [wrap64 (by omega) (by omega)];omega
    have pQ:(t:Int) < i:=by omega
    have gt:=Ai (g:=g') (n:=i) (i:=t) (by rw [C8];exact wu);have rt:=QE (own:=true) (f:=aI) (l:=jm g' i) (i:=t) (fun _=>rfl) (by rw [C8];exact wu);rw [gt] at rt;simp only [aI,List.map] at rt
    by_cases e:g' t=t
    .have eI:(g' t:Int)=(t:Int):=by rw [e]
     have MZ:aD aI 1 H (.pure .nils) (zZ (Gq g' t 0)):=aD.nil;have MZ:=Hide.mk MZ;clear gt;(repeat' first|simp [*,zb]|(apply za<;>intro _ h<;>try simp [-Nat.le_zero_eq] at h)|(show wpE 0 (zm ..) ..;refine zA ?_)|(refine zt fun v2 H2 fD aY aJ aK aL aM=>?_));clear rt eI
     refine zL [(10,11),(63,76)] (fun (j:Nat) env H2=>env 63=.pure (.int .i64 j)/\j<=i/\H.nx<=H2.nx/\Hide (∀ c,c < H.nx->H2.get c=H.get c)/\∃ u,env 10=u/\Hide (aD aI 1 H2 u (zZ (Gq g' t j))/\∀ id,Names u id->H.nx<=id)) (fun j=>i - j) 0 ?_ ?_ ?_ ?_
     .decide
     .exact ⟨by simp,by omega,Nat.le_refl _,⟨fun _ _=>rfl⟩,_,rfl,⟨MZ.h,fun id ⟨_,_,_,h⟩=>by simp at h⟩⟩
     .simp only [zF];omega
     clear MZ;rintro j env H2 ⟨g63,hj,aY,ah,u,g10,hU⟩;have h12:H2.get 1=.cells true [.row 0 1 0 i]:=by rw [ah.h 1 (by omega)];exact h1
     have h02:H2.get 0=.cells true (zq aI (jm g' i)):=by rw [ah.h 0 (by omega)];exact h0
     have bG:=hU.h.1.1.one
     by_cases j4:j < i
     .have w2:IntKind.i64.wrap ((j:Int)+1)=(j+1:Nat):=by rw [wrap64 (by omega) (by omega)];omega
      have hjI:(j:Int) < i:=by omega
      have gj:=Ai (g:=g') (n:=i) (i:=j) (by rw [C8];exact j4);have rj:=QE (own:=true) (f:=aI) (l:=jm g' i) (i:=j) (fun _=>rfl) (by rw [C8];exact j4);rw [gj] at rj;simp only [aI,List.map] at rj;clear gj
      by_cases ej:g' j=t
      .have eJ:(g' j:Int)=(t:Int):=by rw [ej]
       (repeat' first|simp [*,zb]|(apply za<;>intro _ h<;>try simp [-Nat.le_zero_eq] at h)|(show wpE 0 (zm ..) ..;refine zA ?_)|(refine zt fun v2 H2 fD aY aJ aK aL aM=>?_))
       refine H8 (hU.h.1.alloc _) (fun _=>rfl) (by decide) (fun _=>rfl) (by rw [Ez];have:=zjc g' t j;unfold zo;omega) ⟨(j:Int),by simp [aI],?_⟩
       intro u4 H4 nK ha;have Uc:Hide (aD aI 1 H4 u4 (zZ (Gq g' t (j+1)))/\∀ id,Names u4 id->H.nx<=id):=⟨by rw [zhy,if_pos ej];simpa [zZ] using nK,fun id hn=>by have:=ha.new id hn;simp at this;omega⟩
       have hs4:Hide (∀ c,c < H.nx->H4.get c=H.get c):=⟨fun c hc=>by rw [ha.get c (by simp;omega) (fun hn=>by have:=hU.h.2 c hn;omega),zg (by omega)];exact ah.h c hc⟩
       have WW:H.nx<=H4.nx:=by have:=ha.nx;simp at this;omega
       clear nK ha hU ah bG rj eJ;(repeat' first|simp [*,zb]|(apply za<;>intro _ h<;>try simp [-Nat.le_zero_eq] at h)|(show wpE 0 (zm ..) ..;refine zA ?_)|(refine zt fun v2 H2 fD aY aJ aK aL aM=>?_));exact ⟨j+1,by omega,by omega,by omega,Uc⟩
      .have eJ:¬ (g' j:Int)=(t:Int):=by omega
       have Fj:=hU.h;rw [show Gq g' t j=Gq g' t (j+1) by rw [zhy,if_neg ej]] at Fj;have hU3:=Hide.mk Fj;clear Fj hU;(repeat' first|simp [*,zb]|(apply za<;>intro _ h<;>try simp [-Nat.le_zero_eq] at h)|(show wpE 0 (zm ..) ..;refine zA ?_)|(refine zt fun v2 H2 fD aY aJ aK aL aM=>?_));exact ⟨j+1,by omega,by omega,by omega,hU3⟩
     .have EX:j=i:=by omega
      subst EX;(repeat' first|simp [*,zb]|(apply za<;>intro _ h<;>try simp [-Nat.le_zero_eq] at h)|(show wpE 0 (zm ..) ..;refine zA ?_)|(refine zt fun v2 H2 fD aY aJ aK aL aM=>?_));have Fj:=hU.h;have Xb:Gq g' t j=rD g' j t:=rfl;rw [Xb] at Fj;have bJ:zZ (rD g' j t)≠[]:=by
       intro h;have h2:rD g' j t=[]:=by simpa [zZ] using h
       have h3:t∈rD g' j t:=by simp [rD,wu,e]
       rw [h2] at h3;simp at h3
      obtain ⟨id,rfl,BV⟩:=Fj.1.1.row bJ;have OM:=Fj.2 id ⟨_,_,_,rfl⟩
      refine zle (id:=id) (l:=rD g' j t) (hP.h.keep fun c _ hc=>by rw [zg (by omega)];exact ah.h c hc) (by simp;omega) (by simp [Ez]) (by omega) (fun h=>by have:=hP.h.lt h;omega) (by rw [zg (zx BV)];exact BV) (by have:=zhz g' j t;unfold zo;omega) ?_
      intro v4 H4 hP4 OL e01;have e0:=e01 0 (by omega);have e1:=e01 1 (by omega);have h14:H4.get 1=.cells true [.row 0 1 0 j]:=by rw [e1,zg (by omega)];exact h12
      have h04:H4.get 0=.cells true (zq aI (jm g' j)):=by rw [e0,zg (by omega)];exact h02
      have hP5:Hide (C9 2 H4 v4 (Jt g' j (t+1))):=⟨by rw [zgO,if_pos e];exact hP4⟩
      clear hP4 e0 e1 e01 hP hU Fj ah h12 h02 h1 h0 bG BV bJ Xb g10;(repeat' first|simp [*,zb]|(apply za<;>intro _ h<;>try simp [-Nat.le_zero_eq] at h)|(show wpE 0 (zm ..) ..;refine zA ?_)|(refine zt fun v2 H2 fD aY aJ aK aL aM=>?_));exact ⟨t+1,by omega,by omega,by omega,hP5⟩
    .have eI:¬ (g' t:Int)=(t:Int):=by omega
     have Ip:Hide (C9 2 H v (Jt g' i (t+1))):=⟨by rw [zgO,if_neg e];exact hP.h⟩
     clear gt hP;(repeat' first|simp [*,zb]|(apply za<;>intro _ h<;>try simp [-Nat.le_zero_eq] at h)|(show wpE 0 (zm ..) ..;refine zA ?_)|(refine zt fun v2 H2 fD aY aJ aK aL aM=>?_));exact ⟨t+1,by omega,by omega,by omega,Ip⟩
   .have hti:t=i:=by omega
    subst hti;have bA:=Hide.mk hP.h.res;clear hP;(repeat' first|simp [*,zb]|(apply za<;>intro _ h<;>try simp [-Nat.le_zero_eq] at h)|(show wpE 0 (zm ..) ..;refine zA ?_)|(refine zt fun v2 H2 fD aY aJ aK aL aM=>?_));exact bA.h
def Ju (l:List Nat):List PV:=[(Sl.mk false (zZ l)).pv aI 1]
theorem Jv (l:List Nat):lK l=(Sl.mk false (zZ l)).pv aI 1:=by
 simp only [Sl.pv,lK,zZ,List.map_map];rfl
theorem ziw (ps:List (List Nat)):QS ps=(Sl.of ps).pv Ju 1:=by
 cases ps with
 | nil=>rfl
 | cons l ps=>simp [QS,Sl.of,Sl.pv,Ju,Jv]
theorem zj9 (b:List Box) (k:Nat):∀ (l:List Nat) (x:Int),lZ b x (l++[k])=min (lZ b x l*rF b[k]!) 65537
 | [],x=>rfl
 | i::l,x=>by simp only [List.cons_append,lZ];exact zj9 b k l _
theorem zmG {b:List Box} (hb:∀ k,k < b.length->1<=rF b[k]!):∀ (l:List Nat) (x:Int),(∀ k∈l,k < b.length)->1<=x->x<=65537->1<=lZ b x l/\lZ b x l<=65537
 | [],x,_,h1,h2=>⟨h1,h2⟩
 | i::l,x,hl,h1,h2=>by
  refine zmG hb l _ (fun k hk=>hl k (List.mem_cons_of_mem _ hk)) ?_ (by omega)
  have h3:=hb i (hl i List.mem_cons_self);have h4:=Int.mul_le_mul h1 h3 (by omega) (by omega);omega
def BJ (b:List Box) (l:List Nat) (j:Nat):Int:=if 1 < l.length then lZ b 1 (l.take j) else 1
def pI (b:List Box) (l:List Nat):Int:=if 1 < l.length then lZ b 1 l else 1
def pJ (b:List Box) (ps:List (List Nat)):Int:=ps.foldl (fun x l=>max x (pI b l)) 0
theorem zoa (b:List Box) (l:List Nat):BJ b l 0=1:=by unfold BJ;split<;>simp [lZ]
theorem zpN (b:List Box) (l:List Nat):BJ b l l.length=pI b l:=by unfold BJ pI;rw [List.take_length]
theorem zof {b:List Box} {l:List Nat} {j:Nat} (h:j < l.length) (hl:1 < l.length):BJ b l (j+1)=min (BJ b l j*rF b[l[j]]!) 65537:=by
 unfold BJ;rw [if_pos hl,if_pos hl,List.take_add_one,List.getElem?_eq_getElem h];exact zj9 b _ _ _
theorem znr {b:List Box} {l:List Nat} {j:Nat} (hl:¬ 1 < l.length):BJ b l (j+1)=BJ b l j:=by
 unfold BJ;rw [if_neg hl,if_neg hl]
theorem zqo {b:List Box} {ps:List (List Nat)} {i:Nat} (h:i < ps.length):pJ b (ps.take (i+1))=max (pJ b (ps.take i)) (pI b ps[i]):=by
 unfold pJ;rw [List.take_add_one,List.getElem?_eq_getElem h];show List.foldl (fun x l=>max x (pI b l)) 0 (ps.take i++[ps[i]])=_;rw [List.foldl_append];rfl
theorem zqa {b:List Box} (hb:∀ k,k < b.length->1<=rF b[k]!) {l:List Nat} (hl:∀ k∈l,k < b.length) (j:Nat):1<=BJ b l j/\BJ b l j<=65537:=by
 unfold BJ
 split
 .exact zmG hb _ _ (fun k hk=>hl k (List.mem_of_mem_take hk)) (by omega) (by omega)
 .omega
theorem zqh {y u v:Int} (h1:1<=y) (h2:y<=65537) (h3:1<=u) (h4:u<=2097153) (h5:1<=v) (h6:v<=2097153):IntKind.i64.wrap (y*u)=y*u/\IntKind.i64.wrap (y*u*v)=y*u*v:=by
 have a1:=Int.mul_le_mul h2 h4 (by omega) (by omega);have a2:=Int.mul_le_mul h1 h3 (by omega) (by omega);have a3:=Int.mul_le_mul a1 h6 (by omega) (by omega);have a4:=Int.mul_le_mul a2 h5 (by omega) (by omega);exact ⟨wrap64 (by omega) (by omega),wrap64 (by omega) (by omega)⟩
theorem zta {u v:Int} (h1:1<=u) (h2:u<=2097153) (h3:1<=v) (h4:v<=2097153):IntKind.i64.wrap (u*v)=u*v:=by
 have a1:=Int.mul_le_mul h2 h4 (by omega) (by omega);have a2:=Int.mul_le_mul h1 h3 (by omega) (by omega);exact wrap64 (by omega) (by omega)
theorem sh96:G.shared 96=false:=by decide
theorem e96 (n:Nat) (bs:Sl Box) (s:Sl (List Nat)) (nb:bs.xs.length<=12) (ns:s.xs.length<=12) (hb:∀ b∈bs.xs,o7 b=true) (hs:∀ l∈s.xs,l.length<=12/\∀ k∈l,k < bs.xs.length):zK G (n+2) 96 [bs.pv Box.cells 4,s.pv Ju 1]=some (.int .i64 (pJ bs.xs s.xs)):=by
 refine zz (zy _) rfl g96 rfl ?_
 have KC:=Hide.mk hb;have Iq:=Hide.mk hs;have bZ:Hide (∀ (k:Nat) (h:k < bs.xs.length) (H:Heap),zH (zu G (n+1)) H (.pure (.func 92 [])) [.pure (.agg bs.xs[k].x.cells)]=some (.val (.pure (.int .i64 (bs.xs[k].x.hi - bs.xs[k].x.lo+1))))/\zH (zu G (n+1)) H (.pure (.func 92 [])) [.pure (.agg bs.xs[k].y.cells)]=some (.val (.pure (.int .i64 (bs.xs[k].y.hi - bs.xs[k].y.lo+1))))):=⟨fun k h H=>by
  have hv:=aF.1 (hb _ (List.getElem_mem h));exact ⟨ze (caps:=[]) (ps:=[_]) sh92 (e92 n bs.xs[k].x (by omega) (by omega)),ze (caps:=[]) (ps:=[_]) sh92 (e92 n bs.xs[k].y (by omega) (by omega))⟩⟩
 have ha:Hide (∀ k,k < bs.xs.length->1<=rF bs.xs[k]!):=⟨fun k h=>by
  have hv:=aF.1 (hb _ (List.getElem_mem h));rw [getElem!_pos bs.xs k h];exact TW ⟨by omega,by omega⟩⟩
 clear hb hs;(repeat' first|simp [*,zb,c96]|(apply za<;>intro _ h<;>try simp [-Nat.le_zero_eq] at h))
 refine zL [(5,5),(7,8),(10,10),(13,46)] (fun (i:Nat) env H=>env 13=.pure (.int .i64 i)/\i<=s.xs.length/\∃ x:Int,env 5=.pure (.int .i64 x)/\Hide (x=pJ bs.xs (s.xs.take i))) (fun i=>s.xs.length - i) 0 ?_ ?_ ?_ ?_
 .decide
 .exact ⟨by simp,by omega,0,by simp,⟨rfl⟩⟩
 .simp only [zF];omega
 rintro i env H ⟨g13,hi,x,g5,hx⟩
 by_cases aO:i < s.xs.length
 .have w1:IntKind.i64.wrap ((i:Int)+1)=(i+1:Nat):=by rw [wrap64 (by omega) (by omega)];omega
  have qh:(i:Int) < s.xs.length:=by omega
  obtain ⟨l,hl⟩:∃ l,s.xs[i]=l:=⟨_,rfl⟩
  have JX:=Iq.h _ (List.getElem_mem aO);rw [hl] at JX;have vF:Hide (∀ y:Int,y=pI bs.xs l->max x y=pJ bs.xs (s.xs.take (i+1))):=⟨fun y hy=>by rw [zqo aO,hl,hy,hx.h]⟩
  have nl:=JX.1;have EB:=Hide.mk JX.2;have e1:(zZ l).length=l.length:=Ez l;clear JX hx;(repeat' first|simp [*,zb,Ju]|(apply za<;>intro _ h<;>try simp [-Nat.le_zero_eq] at h))
  refine zL [(8,8),(10,10),(19,42)] (fun (j:Nat) env H=>env 19=.pure (.int .i64 j)/\j<=l.length/\∃ y:Int,env 8=.pure (.int .i64 y)/\Hide (y=BJ bs.xs l j)) (fun j=>l.length - j) 0 ?_ ?_ ?_ ?_
  .decide
  .exact ⟨by simp,by omega,1,by simp,⟨(zoa _ _).symm⟩⟩
  .simp only [zF];omega
  have g13':=g13;have g5':=g5;clear g13 g5;rintro j env H ⟨g19,hj,y,g8,hy⟩
  by_cases j4:j < l.length
  .have w2:IntKind.i64.wrap ((j:Int)+1)=(j+1:Nat):=by rw [wrap64 (by omega) (by omega)];omega
   have hjI:(j:Int) < l.length:=by omega
   have hk:=EB.h _ (List.getElem_mem j4);obtain ⟨k,D7⟩:∃ k,l[j]=k:=⟨_,rfl⟩
   rw [D7] at hk;have hjx:j < (zZ l).length:=by rw [e1];exact j4
   have gj:(zZ l)[j]=(k:Int):=by simp [zZ,D7]
   have M0:(k:Int) < bs.xs.length:=by omega
   by_cases h1l:1 < l.length
   .have Xc:(1:Int) < l.length:=by omega
    have hz1:=fun H=>(bZ.h k hk H).1;have hz2:=fun H=>(bZ.h k hk H).2;have hv:=aF.1 (KC.h _ (List.getElem_mem hk));have hr:=zqa ha.h EB.h j;rw [<- hy.h] at hr;have hw:=zqh (y:=y) (u:=bs.xs[k].x.hi - bs.xs[k].x.lo+1) (v:=bs.xs[k].y.hi - bs.xs[k].y.lo+1) hr.1 hr.2 (by omega) (by omega) (by omega) (by omega);have Xd:=hw.1;have J5:=hw.2;have hy2:Hide (min (y*(bs.xs[k].x.hi - bs.xs[k].x.lo+1)*(bs.xs[k].y.hi - bs.xs[k].y.lo+1)) 65537=BJ bs.xs l (j+1)):=⟨by rw [zof j4 h1l,D7,getElem!_pos bs.xs k hk,hy.h,Int.mul_assoc];rfl⟩
    simp only [Span.cells] at hz1 hz2;clear hv hr hw hy D7;(repeat' first|simp [*,zb,Box.cells,Span.cells]|(apply za<;>intro _ h<;>try simp [-Nat.le_zero_eq] at h));exact ⟨j+1,by omega,by omega,by omega,hy2⟩
   .have Xc:¬ (1:Int) < l.length:=by omega
    have hy2:Hide (y=BJ bs.xs l (j+1)):=⟨by rw [znr h1l];exact hy.h⟩
    clear hy D7;(repeat' first|simp [*,zb]|(apply za<;>intro _ h<;>try simp [-Nat.le_zero_eq] at h));exact ⟨j+1,by omega,by omega,by omega,hy2⟩
  .have hjN:j=l.length:=by omega
   subst hjN;have Bt:=hy.h;rw [zpN] at Bt;have hx3:=Hide.mk (vF.h y Bt);clear hy vF Bt;(repeat' first|simp [*,zb]|(apply za<;>intro _ h<;>try simp [-Nat.le_zero_eq] at h));exact ⟨i+1,by omega,by omega,by omega,hx3⟩
 .have xO:i=s.xs.length:=by omega
  subst xO;have vF:=hx.h;rw [List.take_length] at vF;subst vF;clear hx;simp [*,zb]
structure Acc where
 n:Nat
 first:Option (List Pt)
 best:List (Option (List Pt))
def lL (j:Nat) (c:List Pt):Int:=lY c[j / 4]! (j % 4)
def qi (B:List (Option (List Pt))) (c:List Pt) (t:Nat):List (Option (List Pt)):=B.mapIdx fun j o=>if j < t then Fb (lL j) o c else o
def BK (A:Acc) (c:List Pt):Acc:=⟨A.n+1,if A.n=0 then some c else A.first,A.best.mapIdx fun j o=>Fb (lL j) o c⟩
def KD (M:Nat):Acc:=⟨0,none,List.replicate M none⟩
theorem OO (B:List (Option (List Pt))) (c:List Pt) (t:Nat):(qi B c t).length=B.length:=by simp [qi]
theorem zmC (B:List (Option (List Pt))) (c:List Pt):qi B c 0=B:=by
 refine List.ext_getElem (by simp [qi]) fun j h1 h2=>by simp [qi]
theorem ziI (B:List (Option (List Pt))) (c:List Pt) (t:Nat) (h:B.length<=t):qi B c t=B.mapIdx fun j o=>Fb (lL j) o c:=by
 refine List.ext_getElem (by simp [qi]) fun j h1 h2=>?_
 have:j < t:=by rw [OO] at h1;omega
 simp [qi,this]
theorem znd (B:List (Option (List Pt))) (c:List Pt) (t:Nat) (h:t < (qi B c t).length):(qi B c t)[t]=B[t]'(by rw [OO] at h;exact h):=by simp [qi]
theorem znn (B:List (Option (List Pt))) (c:List Pt) (t:Nat) (h:t < B.length) (hb:Fb (lL t) B[t] c=some c):(qi B c t).set t (some c)=qi B c (t+1):=by
 refine List.ext_getElem (by simp [OO]) fun j h1 h2=>?_
 rw [List.getElem_set]
 split
 .rename_i e;subst e;simp [qi,hb]
 .have:(j < t)↔(j < t+1):=⟨fun h=>by omega,fun h=>by omega⟩
  simp [qi,this]
theorem zl5 (B:List (Option (List Pt))) (c:List Pt) (t:Nat) (h:t < B.length) (hb:Fb (lL t) B[t] c=B[t]):qi B c (t+1)=qi B c t:=by
 refine List.ext_getElem (by simp [OO]) fun j h1 h2=>?_
 by_cases e:j=t
 .subst e;simp [qi,hb]
 .have:(j < t)↔(j < t+1):=⟨fun h=>by omega,fun h=>by omega⟩
  simp [qi,this]
theorem zg2:∀ (S:List (List Pt)) (A:Acc),S.foldl BK A=⟨A.n+S.length,if A.n=0 then (match S with|[]=>A.first|c::_=>some c) else A.first,A.best.mapIdx fun j o=>S.foldl (Fb (lL j)) o⟩
 | [],A=>by
  obtain ⟨n,f,b⟩:=A;simp;exact List.ext_getElem (by simp) fun j h1 h2=>by simp
 | c::S,A=>by
  rw [List.foldl_cons,zg2 S];unfold BK;simp only [List.length_cons,Nat.add_eq_zero_iff,Nat.succ_ne_self,and_false,if_false,List.foldl_cons,Acc.mk.injEq]
  refine ⟨by omega,?_,?_⟩
  .by_cases h:A.n=0<;>simp [h]
  .refine List.ext_getElem (by simp) fun j h1 h2=>by simp
theorem zup (S:List (List Pt)) (A:Acc):(S.foldl BK A).n=A.n+S.length:=by rw [zg2]
theorem zq8 (S:List (List Pt)) (M:Nat):S.foldl BK (KD M)=⟨S.length,S.head?,(List.range M).map fun j=>TL (lL j) S⟩:=by
 rw [zg2];unfold KD;simp only [Nat.zero_add,if_true,Acc.mk.injEq,true_and]
 refine ⟨by cases S<;>rfl,List.ext_getElem (by simp) fun j h1 h2=>?_⟩
 simp [TL]
theorem zm1 {b:Box} {i k:Nat} (hi:i < (b.x.hi - b.x.lo+1).toNat) (hk:k < (b.y.hi - b.y.lo+1).toNat) :
  ∃ h:i*(b.y.hi - b.y.lo+1).toNat+k < (uh b).length,(uh b)[i*(b.y.hi - b.y.lo+1).toNat+k]=⟨b.x.lo+i,b.y.lo+k⟩:=by
 have key:∀ (m:Nat) (xs ys:List Int),ys.length=m->∀ i k (hi:i < xs.length) (hk:k < ys.length),∃ h:i*m+k < (xs.flatMap fun x=>ys.map fun y=>(⟨x,y⟩:Pt)).length,(xs.flatMap fun x=>ys.map fun y=>(⟨x,y⟩:Pt))[i*m+k]=⟨xs[i],ys[k]⟩:=by
  intro m xs ys hy
  induction xs with
  | nil=>intro i k hi;simp at hi
  | cons x xs ih =>
   intro i k hi hk;simp only [List.flatMap_cons]
   cases i with
   | zero =>
    refine ⟨by simp;omega,?_⟩
    rw [List.getElem_append_left (by simpa using hk)];simp
   | succ i =>
    obtain ⟨h1,h2⟩:=ih i k (by simpa using hi) hk;have e:(i+1)*m+k=m+(i*m+k):=by rw [Nat.add_mul];omega
    refine ⟨by rw [List.length_append,List.length_map,hy,e];omega,?_⟩
    rw [List.getElem_append_right (by rw [List.length_map,hy,e];omega)];simp only [List.length_map,hy,e,Nat.add_sub_cancel_left,h2,List.getElem_cons_succ]
 have h:=key (b.y.hi - b.y.lo+1).toNat (BG b.x) (BG b.y) (TK _) i k (by rw [TK];exact hi) (by rw [TK];exact hk);obtain ⟨h1,h2⟩:=h
 refine ⟨h1,?_⟩
 unfold uh;rw [h2];simp [BG]
def Jw (ok:Nat->List Box->Bool) (l:List Box) (i:Nat) (rest:List Nat) (k:Nat) (here:List Box) (t:Nat):List (List Pt) :=
 ((uh l[i]!).take t).flatMap fun x=>if ok k (here.set i (bT x))=true then (wh ok l rest (k+1) (here.set i (bT x))).map (x :: ·) else []
theorem zmN (ok:Nat->List Box->Bool) (l:List Box) (i:Nat) (rest:List Nat) (k:Nat) (here:List Box):Jw ok l i rest k here 0=[]:=by simp [Jw]
theorem zm9 (ok:Nat->List Box->Bool) (l:List Box) (i:Nat) (rest:List Nat) (k:Nat) (here:List Box) {t:Nat} (h:(uh l[i]!).length<=t):Jw ok l i rest k here t=wh ok l (i::rest) k here:=by
 rw [Jw,List.take_of_length_le h,wh]
theorem zhC (ok:Nat->List Box->Bool) (l:List Box) (i:Nat) (rest:List Nat) (k:Nat) (here:List Box) {t:Nat} {x:Pt} (h:(uh l[i]!)[t]?=some x) :
  Jw ok l i rest k here (t+1)=Jw ok l i rest k here t++(if ok k (here.set i (bT x))=true then (wh ok l rest (k+1) (here.set i (bT x))).map (x :: ·) else []):=by
 unfold Jw;rw [List.take_add_one,List.flatMap_append,h];simp
theorem zqt (ok:Nat->List Box->Bool) (l:List Box) (i:Nat) (rest:List Nat) (k:Nat) (here:List Box) (t:Nat):(Jw ok l i rest k here t).length<=(wh ok l (i::rest) k here).length:=by
 have e:=List.take_append_drop t (uh l[i]!);rw [wh]
 conv=>rhs;rw [<- e,List.flatMap_append,List.length_append]
 unfold Jw;omega
theorem zhe (l:List Box) (i:Nat) (rest:List Nat):(nT l (i::rest)).length=(uh l[i]!).length*(nT l rest).length:=by
 rw [nT,zfl _ (nT l rest).length _ (fun a _=>by simp)]
theorem ze6 {b:Box} (h:jl b):((uh b).length:Int)=rF b:=by
 rw [zfT];unfold rF;have h1:=h.1;have h2:=h.2;rw [Int.natCast_mul,Int.toNat_of_nonneg (by omega),Int.toNat_of_nonneg (by omega)]
theorem zlJ {l:List Box} (hb:∀ k,k < l.length->1<=rF l[k]!):∀ (part:List Nat),(∀ k∈part,k < l.length)->lZ l 65537 part=65537
 | [],_=>rfl
 | i::rest,hl=>by
  have h1:=hb i (hl i List.mem_cons_self);rw [lZ,show min (65537*rF l[i]!) 65537=65537 by omega];exact zlJ hb rest fun k hk=>hl k (List.mem_cons_of_mem _ hk)
theorem zma {l:List Box} (hw:∀ k,k < l.length->jl l[k]!):∀ (part:List Nat) (n:Int),(∀ k∈part,k < l.length)->1<=n->lZ l n part<=65536->n*((nT l part).length:Int)=lZ l n part
 | [],n,_,_,_=>by simp [nT,lZ]
 | i::rest,n,hl,hn,hv=>by
  have hi:=hw i (hl i List.mem_cons_self);have hb:∀ k,k < l.length->1<=rF l[k]! := fun k hk=>TW (hw k hk);rw [lZ] at hv ⊢;have QA:∀ k∈rest,k < l.length:=fun k hk=>hl k (List.mem_cons_of_mem _ hk)
  by_cases hc:n*rF l[i]! <= 65536
  .rw [show min (n*rF l[i]!) 65537=n*rF l[i]! by omega] at hv ⊢;have h1:1<=n*rF l[i]! := by
    have:=Int.mul_le_mul hn (TW hi) (by omega) (by omega);omega
   rw [<- zma hw rest _ QA h1 hv,zhe,Int.natCast_mul,ze6 hi,Int.mul_assoc]
  .rw [show min (n*rF l[i]!) 65537=65537 by omega,zlJ hb rest QA] at hv;omega
theorem zlv (ok:Nat->List Box->Bool) (l:List Box) (part:List Nat) (k:Nat) (here:List Box):(wh ok l part k here).length<=(nT l part).length:=by
 rw [WR];exact List.length_filter_le _ _
theorem zrl {facts:List Fact} {l:List Box} {part:List Nat} (hw:Wf l) (hl:∀ k∈part,k < l.length) (h1:1 < part.length) (hv:pI l part<=65536):(jJ facts l part).length<=65536:=by
 have qz:∀ k,k < l.length->jl l[k]! := fun k hk=>by rw [getElem!_pos l k hk];exact hw _ (List.getElem_mem hk)
 unfold pI at hv;rw [if_pos h1] at hv;have h2:=zma qz part 1 hl (by omega) hv;have h3:=zlv (sQ facts part) l part 0 l;unfold jJ;omega
end Go.Proofs.YtmmhnfghklppiaaGreat.Vm
