/- Parts: what the program's parts computes. Parts: what the program's parts computes, walked. Volumes of parts: the program's, walked. What look gathers of the choices of a part: how many, the first one, the best ones. Plain Lean. -/
import Derived.Test.YtleggocccaeemaaOk17
import Derived.Test.YtleggocccaeemaaOk19
import Derived.Test.YtleggocccaeemaaOk20
import Derived.Test.YtleggocccaeemaaOk21
import Derived.Test.YtleggocccaeemaaOk15
import Derived.Test.YtleggocccaeemaaOk9
import Derived.Test.YtleggocccaeemaaOk18
namespace Go.Proofs.Ytleggocccaeemaa.Vm
open Go
set_option linter.unusedSimpArgs false
set_option linter.unusedVariables false
set_option maxHeartbeats 4000000
set_option maxRecDepth 4000
theorem zfc {n:Nat} {H:Heap} {f:Nat} {caps args:List AV} {k:AV->Heap->Prop} {u} (hs:G.shared f=true) (h:∃ v H',Vm.call G (n+1) (.fn f) (args++caps) H=some (v,H')/\k v H') :
  wpE 0 (zM (zq G (n+1)) H (.func f caps) args) H k u:=by
 obtain ⟨v,H',h1,h2⟩:=h
 refine ⟨.upd v H',?_,by simp,h2⟩
 have hs':(zq G (n+1)).shared f=true:=hs;have h1':(zq G (n+1)).run f (args++caps) H=some (v,H'):=h1;simp only [zM,hs',if_true,h1']
def grpL (g:Nat->Nat) (n:Nat):List Int:=(List.range n).map fun i=>(g i:Int)
theorem zaa (g:Nat->Nat) (n:Nat):(grpL g n).length=n:=by simp [grpL]
theorem zaA {g:Nat->Nat} {n i:Nat} (h:i < (grpL g n).length):(grpL g n)[i]=g i:=by simp [grpL]
def zac (l:List Nat):PV:=.slice false 1 (l.map fun (k:Nat)=>[PV.int .i64 (k:Int)])
def zel (ps:List (List Nat)):PV:=if ps.isEmpty=true then .nils else .slice false 1 (ps.map fun l=>[zac l])
def mixG (g:Nat->Nat) (fr to i:Nat):Nat->Nat:=fun j=>if j < i/\g j=fr then to else g j
theorem zm0 (g:Nat->Nat) (fr to:Nat):mixG g fr to 0=g:=by funext j;simp [mixG]
theorem zpc (g:Nat->Nat) (fr to i:Nat):mixG g fr to i i=g i:=by simp [mixG]
theorem zng (g:Nat->Nat) (fr to N i:Nat) (h:g i=fr):(grpL (mixG g fr to i) N).set i to=grpL (mixG g fr to (i+1)) N:=by
 refine List.ext_getElem (by simp [zaa]) fun j h1 h2=>?_
 rw [List.getElem_set,zaA]
 split
 ·rename_i e;subst e;rw [zaA];simp [mixG,h]
 ·rename_i e;rw [zaA];have:(j < i/\g j=fr)↔(j < i+1/\g j=fr):=⟨fun h=>⟨by omega,h.2⟩,fun h=>⟨by omega,h.2⟩⟩
  unfold mixG;simp only [this]
theorem zmO (g:Nat->Nat) (fr to i:Nat) (h:g i≠fr):mixG g fr to (i+1)=mixG g fr to i:=by
 funext j
 unfold mixG
 by_cases e:j=i
 ·subst e;simp [h]
 ·have:(j < i+1/\g j=fr)↔(j < i/\g j=fr):=⟨fun h=>⟨by omega,h.2⟩,fun h=>⟨by omega,h.2⟩⟩
  simp only [this]
theorem znC (g:Nat->Nat) (a b N:Nat):grpL (mixG g (max (g a) (g b)) (min (g a) (g b)) N) N=grpL (zdm g a b) N:=by
 refine List.ext_getElem (by simp [zaa]) fun j h1 h2=>?_
 rw [zaA,zaA];rw [zaa] at h1;simp [mixG,zdm,h1]
theorem zlM:G.shared 68=true:=by decide
theorem zio {n:Nat} {H:Heap} {g:Nat->Nat} {N a b:Nat} {k:AV->Heap->Prop} (hN:N < 1000) (ha:a < N) (hb:b < N) (hgl:∀ i,i < N->g i < N) (h0:H.get 0=.cells true (zm intF (grpL g N))) (h1:H.get 1=.cells true [.row 0 1 0 N])
  (hk:∀ H',H'.nx=H.nx->(∀ j,j≠0->H'.get j=H.get j)->H'.get 0=.cells true (zm intF (grpL (zdm g a b) N))->k (.tup []) H') :
  ∃ v H',Vm.call G (n+1) (.fn 68) ([.pure (.int .i64 a),.pure (.int .i64 b)]++[.box 1 0]) H=some (v,H')/\k v H':=by
 refine zbg rfl g68 rfl ?_
 have hgl:=Hide.mk hgl;have hk:=Hide.mk hk;have hl:=zaa g N;have ga:=zaA (g:=g) (n:=N) (i:=a) (by rw [hl];exact ha);have gb:=zaA (g:=g) (n:=N) (i:=b) (by rw [hl];exact hb);have ra:=zbH (own:=true) (f:=intF) (l:=grpL g N) (i:=a) (fun _=>rfl) (by rw [hl];exact ha);have rb:=zbH (own:=true) (f:=intF) (l:=grpL g N) (i:=b) (fun _=>rfl) (by rw [hl];exact hb);rw [ga] at ra;rw [gb] at rb;simp only [intF,List.map_cons,List.map_nil] at ra rb;obtain ⟨fr,hfr⟩:∃ m:Nat,m=max (g a) (g b):=⟨_,rfl⟩
 obtain ⟨to,hto⟩:∃ m:Nat,m=min (g a) (g b):=⟨_,rfl⟩
 have m1:max (g a:Int) (g b:Int)=(fr:Int):=by subst hfr;omega
 have m2:min (g a:Int) (g b:Int)=(to:Int):=by subst hto;omega
 have haI:(a:Int) < N:=by omega
 have hbI:(b:Int) < N:=by omega
 have hall:=Hide.mk (znC g a b N);rw [<- hfr,<- hto] at hall;clear hfr hto;(repeat' first|simp [*,zb,c68]|(apply za<;>intro _ h<;>try simp [-Nat.le_zero_eq] at h))
 refine zz [(7,7),(28,41)] (fun (i:Nat) env H2=>env 28=.pure (.int .i64 i)/\i<=N/\H2.nx=H.nx/\Hide (∀ j,j≠0->H2.get j=H.get j)/\H2.get 0=.cells true (zm intF (grpL (mixG g fr to i) N))) (fun i=>N - i) 0 ?_ ?_ ?_ ?_
 ·decide
 ·exact ⟨by simp,by omega,rfl,⟨fun _ _=>rfl⟩,by rw [zm0];exact h0⟩
 ·simp only [zx];omega
 clear ra rb ga gb hl;rintro i env H2 ⟨g28,hi,hnx,hsame,h0'⟩;have h1':H2.get 1=.cells true [.row 0 1 0 N]:=by rw [hsame.h 1 (by omega)];exact h1
 have hin:0 < H2.nx:=zC h0';have hl:=zaa (mixG g fr to i) N
 by_cases hlt:i < N
 ·have w1:IntKind.i64.wrap ((i:Int)+1)=(i+1:Nat):=by rw [wrap64 (by omega) (by omega)];omega
  have hltI:(i:Int) < N:=by omega
  have gi:=zaA (g:=mixG g fr to i) (n:=N) (i:=i) (by rw [hl];exact hlt);rw [zpc] at gi;have ri:=zbH (own:=true) (f:=intF) (l:=grpL (mixG g fr to i) N) (i:=i) (fun _=>rfl) (by rw [hl];exact hlt);rw [gi] at ri;simp only [intF,List.map_cons,List.map_nil] at ri
  by_cases e:g i=fr
  ·have pi:=zgT (l:=grpL (mixG g fr to i) N) (i:=i) (x:=to) (by rw [hl];exact hlt);rw [zng _ _ _ _ _ e] at pi;have eI:((g i:Int) == (fr:Int))=true:=by simp [e]
   have eI':(g i:Int)=(fr:Int):=by simp [e]
   have hs2:Hide (∀ (o:AObj) (j:Nat),j≠0->(H2.set 0 o).get j=H.get j):=⟨fun o j hj=>by rw [zg hj];exact hsame.h j hj⟩
   clear gi hl hsame;(repeat' first|simp [*,zb]|(apply za<;>intro _ h<;>try simp [-Nat.le_zero_eq] at h));exact ⟨i+1,by omega,by omega,by omega,⟨hs2.h _⟩,zP hin⟩
  ·have hsk:=Hide.mk (zmO g fr to i e);have eI:((g i:Int) == (fr:Int))=false:=by simp;omega
   have eI':¬ (g i:Int)=(fr:Int):=by omega
   clear gi hl;(repeat' first|simp [*,zb]|(apply za<;>intro _ h<;>try simp [-Nat.le_zero_eq] at h));exact ⟨i+1,by omega,by omega,by omega,by rw [hsk.h]⟩
 ·have hiN:i=N:=by omega
  subst hiN;rw [hall.h] at h0';have hk2:=hk.h H2 hnx hsame.h h0';clear hk hall hsame;(repeat' first|simp [*,zb]|(apply za<;>intro _ h<;>try simp [-Nat.le_zero_eq] at h))
def zdO (i:Nat):Nat->Nat:=fun j=>if j < i then j else 0
theorem zlw (N:Nat):(List.replicate N (([PV.int .i64 0]).map AV.pure)).flatten=zm intF (grpL (zdO 0) N):=by
 have h:grpL (zdO 0) N=List.replicate N 0:=by
  refine List.ext_getElem (by simp [zaa]) fun j h1 h2=>?_
  rw [zaA];simp [zdO]
 rw [h]
 induction N with
 | zero=>rfl
 | succ N ih=>rw [List.replicate_succ,List.flatten_cons,List.replicate_succ,ih (by
   refine List.ext_getElem (by simp [zaa]) fun j h1 h2=>?_
   rw [zaA];simp [zdO])];rfl
theorem zme (N i:Nat):(grpL (zdO i) N).set i i=grpL (zdO (i+1)) N:=by
 refine List.ext_getElem (by simp [zaa]) fun j h1 h2=>?_
 rw [List.getElem_set,zaA]
 split
 ·rename_i e;subst e;rw [zaA];simp [zdO]
 ·rename_i e;rw [zaA];have:(j < i)↔(j < i+1):=⟨fun h=>by omega,fun h=>by omega⟩
  unfold zdO;simp only [this]
theorem zm1 (N:Nat):grpL (zdO N) N=grpL (fun i=>i) N:=by
 refine List.ext_getElem (by simp [zaa]) fun j h1 h2=>?_
 rw [zaA,zaA];rw [zaa] at h1;simp [zdO,h1]
theorem zgx {fs:List Fact} {k:Nat} (h:k < fs.length):zaV (fs.take (k+1))=zaV (fs.take k)++zdy fs[k]:=by
 unfold zaV;rw [List.take_add_one,List.flatMap_append,List.getElem?_eq_getElem h];simp
theorem zmT (fs:List Fact):zaV (fs.take fs.length)=zaV fs:=by rw [List.take_length]
def zfU (ids:List (Nat×List Nat)):List AV:=ids.map fun x=>.row x.1 1 0 x.2.length
def zY (l:List Nat):List Int:=l.map fun (k:Nat)=>(k:Int)
theorem zaw (l:List Nat):(zY l).length=l.length:=by simp [zY]
structure PaJ (B:Nat) (H:Heap) (v:AV) (ps:List (List Nat)):Prop where
 ex:∃ ids:List (Nat×List Nat),ids.map Prod.snd=ps/\RowA H v (zfU ids)/\∀ x∈ids,B<=x.1/\¬ Names v x.1/\H.get x.1=.cells true (zm intF (zY x.2))
 low:∀ id,Names v id->B<=id
theorem PaJ.nil (B:Nat) (H:Heap):PaJ B H (.pure .nils) []:=⟨⟨[],rfl,RowA.nil,fun x hx=>by simp at hx⟩,fun id ⟨_,_,_,h⟩=>by simp at h⟩
theorem PaJ.lt {B:Nat} {H:Heap} {v:AV} {ps:List (List Nat)} (h:PaJ B H v ps) {id:Nat} (hn:Names v id):id < H.nx:=by
 obtain ⟨ids,_,hr,_⟩:=h.ex;exact hr.names_lt hn
theorem PaJ.keep {B:Nat} {H H':Heap} {v:AV} {ps:List (List Nat)} (h:PaJ B H v ps) (hk:∀ j,B<=j->j < H.nx->H'.get j=H.get j):PaJ B H' v ps:=by
 obtain ⟨ids,h1,h2,h3⟩:=h.ex
 refine ⟨⟨ids,h1,h2.keep fun id hn=>hk id (h.low id hn) (h2.names_lt hn),fun x hx=>?_⟩,h.low⟩
 obtain ⟨a,b,c⟩:=h3 x hx;exact ⟨a,b,by rw [hk x.1 a (zC c)];exact c⟩
theorem zj7 {H:Heap}:∀ ids:List (Nat×List Nat),(∀ x∈ids,H.get x.1=.cells true (zm intF (zY x.2)))->FrzL H false 11 (zfU ids) (ids.map fun x=>zac x.2)
 | [],_=>FrzL.nil
 | x::ids,h=>by
  refine FrzL.cons ?_ (zj7 ids fun y hy=>h y (List.mem_cons_of_mem _ hy))
  have h1:=zbz (n:=9) (f:=intF) (sz:=1) (m:=x.2.length) (fun _=>rfl) (h x List.mem_cons_self) (zaw _);have e:(Sl.mk false (zY x.2)).pv intF 1=zac x.2:=by
   simp only [Sl.pv,zac,zY,List.map_map];rfl
  rw [e] at h1;exact h1
theorem PaJ.res {B:Nat} {H:Heap} {v:AV} {ps:List (List Nat)} (h:PaJ B H v ps):FrzK H false 12 v (zel ps):=by
 obtain ⟨ids,h1,h2,h3⟩:=h.ex;have h4:=h2.frz (zj7 ids fun x hx=>(h3 x hx).2.2);have e:(if (zfU ids).isEmpty=true then PV.nils else .slice false 1 ((ids.map fun x=>zac x.2).map fun p=>[p]))=zel ps:=by
  subst h1
  cases ids with
  | nil=>rfl
  | cons x ids=>simp [zfU,zel]
 rw [e] at h4;exact h4
theorem zix {B:Nat} {H:Heap} {v:AV} {ps:List (List Nat)} {bytes id:Nat} {l:List Nat} {b:AV} {k:AV->Heap->Prop} {u} (hp:PaJ B H v ps) (h2:B<=H.nx) (hb:zJ H 1 b=some ([.row id 1 0 l.length],1)) (hid:B<=id) (hn:¬ Names v id)
  (hg:H.get id=.cells true (zm intF (zY l))) (hm:ps.length+1<=zn/\(ps.length+1)*bytes<=zn)
  (hk:∀ v' H',PaJ B H' v' (ps++[l])->B<=H'.nx->(∀ c,c < B->H'.get c=H.get c)->k v' H'):wpE 0 (zi H 1 bytes v b) H k u:=by
 obtain ⟨ids,h1,hr,h3⟩:=hp.ex;have hlen:(zfU ids).length=ps.length:=by rw [<- h1];simp [zfU]
 refine zfR hr hb rfl (by simp [zfU,List.all_map];try (intro a b _;rfl)) (by rw [hlen];exact hm) ?_
 intro v' H' hr' hnx hsame hnew h1' h2'
 refine hk v' H' ⟨⟨ids++[(id,l)],by rw [List.map_append,h1];rfl,by simpa [zfU] using hr',fun x hx=>?_⟩,fun j hj=>by have:=hnew j hj;omega⟩ (by omega) (fun c hc=>hsame c (by omega) fun h=>by have:=hp.low c h;omega)
 rcases List.mem_append.1 hx with hx|hx
 ·obtain ⟨a,b,c⟩:=h3 x hx;have hlt:=zC c;exact ⟨a,fun h=>by have:=hnew _ h;omega,by rw [hsame _ hlt b];exact c⟩
 ·simp at hx;subst hx;have hlt:=zC hg;exact ⟨hid,fun h=>by have:=hnew _ h;simp only at this;omega,by rw [hsame _ hlt hn];exact hg⟩
def zcl (g:Nat->Nat) (i j:Nat):List Nat:=(List.range j).filter fun k=>g k == i
def zb8 (g:Nat->Nat) (n t:Nat):List (List Nat):=((List.range t).filter fun i=>g i == i).map (za1 g n)
theorem zfZ (g:Nat->Nat) (i j:Nat):zcl g i (j+1)=if g j=i then zcl g i j++[j] else zcl g i j:=by
 unfold zcl;rw [List.range_succ,List.filter_append]
 by_cases e:g j=i<;>simp [e]
theorem zeQ (g:Nat->Nat) (n t:Nat):zb8 g n (t+1)=if g t=t then zb8 g n t++[za1 g n t] else zb8 g n t:=by
 unfold zb8;rw [List.range_succ,List.filter_append]
 by_cases e:g t=t<;>simp [e]
theorem zfS (g:Nat->Nat) (n t:Nat):(zb8 g n t).length<=t:=by
 unfold zb8;rw [List.length_map];have:=List.length_filter_le (fun i=>g i == i) (List.range t);rw [List.length_range] at this;exact this
theorem zg2 (g:Nat->Nat) (n t:Nat):(zcl g n t).length<=t:=by
 unfold zcl;have:=List.length_filter_le (fun i=>g i == n) (List.range t);rw [List.length_range] at this;exact this
theorem sh54:G.shared 54=false:=by decide
theorem e54 (n:Nat) (p:Problem) (ok:CheckOk p) (g:Nat->Nat) (hg:IsCls (zaV p.facts.xs) p.boxes.xs.length g):zI G (n+2) 54 [.agg p.cells]=some (zel (zak g p.boxes.xs.length)):=by
 refine zA (zB _) rfl g54 rfl ?_
 obtain ⟨bs,fs⟩:=p;have nb:bs.xs.length<=12:=ok.nb;have nf:fs.xs.length<=60:=ok.nf;have hfm:Hide (∀ f∈fs.xs,zaB f bs.xs.length=true):=⟨ok.fact⟩
 have hgH:=Hide.mk hg;clear hg ok;simp only at hgH ⊢;obtain ⟨N,hN⟩:∃ N,N=bs.xs.length:=⟨_,rfl⟩
 rw [<- hN] at nb hfm hgH ⊢;have hmx:N*1<=zn/\N*8<=zn/\N<=zn:=by unfold zn;omega
 have hz:=zlw N;simp only [List.map_cons,List.map_nil] at hz;have hN':=hN.symm;clear hN;(repeat' first|simp [*,zb,c54,Problem.cells]|(apply za<;>intro _ h<;>try simp [-Nat.le_zero_eq] at h)|(show wpE 0 (zi ..) ..;refine zt ?_)|(refine zk fun v2 H2 hv2 hnx2 hget2 hnew2 hone2 hcel2=>?_))
 refine zz [(4,4),(18,25)] (fun (i:Nat) env H=>env 18=.pure (.int .i64 i)/\i<=N/\H.nx=2/\H.get 1=.cells true [.row 0 1 0 N]/\H.get 0=.cells true (zm intF (grpL (zdO i) N))) (fun i=>N - i) 0 ?_ ?_ ?_ ?_
 ·decide
 ·refine ⟨by simp,by omega,by simp,?_,?_⟩
  ·rfl
  ·rfl
 ·simp only [zx];omega
 rintro i env H ⟨g28,hi,hnx,h1,h0⟩
 by_cases hlt:i < N
 ·have w1:IntKind.i64.wrap ((i:Int)+1)=(i+1:Nat):=by rw [wrap64 (by omega) (by omega)];omega
  have hltI:(i:Int) < N:=by omega
  have pi:=zgT (l:=grpL (zdO i) N) (i:=i) (x:=i) (by rw [zaa];exact hlt);rw [zme] at pi;have hin:0 < H.nx:=by omega
  (repeat' first|simp [*,zb]|(apply za<;>intro _ h<;>try simp [-Nat.le_zero_eq] at h)|(show wpE 0 (zi ..) ..;refine zt ?_)|(refine zk fun v2 H2 hv2 hnx2 hget2 hnew2 hone2 hcel2=>?_));exact ⟨i+1,by omega,by omega,by omega,rfl⟩
 ·have hiN:i=N:=by omega
  subst hiN;rw [zm1] at h0;have hnx':2<=H.nx:=by omega
  have hC0:Hide (IsCls (zaV (fs.xs.take 0)) i (fun j=>j)):=⟨IsCls.nil i⟩
  clear hz hmx hi;clear hlt hnx;(repeat' first|simp [*,zb]|(apply za<;>intro _ h<;>try simp [-Nat.le_zero_eq] at h)|(show wpE 0 (zi ..) ..;refine zt ?_)|(refine zk fun v2 H2 hv2 hnx2 hget2 hnew2 hone2 hcel2=>?_))
  refine zz [(7,7),(30,49)] (fun (k:Nat) env H=>env 30=.pure (.int .i64 k)/\k<=fs.xs.length/\2<=H.nx/\H.get 1=.cells true [.row 0 1 0 i]/\∃ g,H.get 0=.cells true (zm intF (grpL g i))/\Hide (IsCls (zaV (fs.xs.take k)) i g)) (fun k=>fs.xs.length - k) 0 ?_ ?_ ?_ ?_
  ·decide
  ·exact ⟨by simp,by omega,hnx',h1,_,h0,hC0⟩
  ·simp only [zx];omega
  clear hC0 h1 h0 hnx';rintro k env H ⟨g30,hk,hnx,h1,g',h0,hC⟩
  by_cases hlt:k < fs.xs.length
  ·have w1:IntKind.i64.wrap ((k:Int)+1)=(k+1:Nat):=by rw [wrap64 (by omega) (by omega)];omega
   have hltI:(k:Int) < fs.xs.length:=by omega
   have hf:=(za5 _ _).1 (hfm.h fs.xs[k] (List.getElem_mem hlt));obtain ⟨a,ha⟩:∃ a:Nat,fs.xs[k].a=a:=⟨fs.xs[k].a.toNat,by omega⟩
   obtain ⟨b,hb⟩:∃ b:Nat,fs.xs[k].b=b:=⟨fs.xs[k].b.toNat,by omega⟩
   have haN:a < i:=by omega
   have hbN:b < i:=by omega
   have hne0:0≠H.nx:=by omega
   have hne1:1≠H.nx:=by omega
   have hlt0:0 < H.nx:=by omega
   have hlt1:1 < H.nx:=by omega
   have hlt2:=Hide.mk hlt;have hfH:=Hide.mk hf;clear hf;(repeat' first|simp [*,zb,Fact.cells]|(apply za<;>intro _ h<;>try simp [-Nat.le_zero_eq] at h)|(show wpE 0 (zi ..) ..;refine zt ?_)|(refine zk fun v2 H2 hv2 hnx2 hget2 hnew2 hone2 hcel2=>?_))
   refine zfc zlM (zio (g:=g') (by omega) haN hbN (fun j hj=>by have:=hC.h.le j hj;omega) (by rw [zg hne0,zf hlt0];exact h0) (by rw [zg hne1,zf hlt1];exact h1) ?_)
   intro H3 hnx3 hsame3 h03;have hgf:=hsame3 H.nx (by omega);rw [zP (by simp)] at hgf;have h13:H3.get 1=.cells true [.row 0 1 0 i]:=by rw [hsame3 1 (by omega),zg hne1,zf hlt1];exact h1
   have hnx3':H3.nx=H.nx+1:=by rw [hnx3];rfl
   have hC1:=Hide.mk (hC.h.join haN hbN);clear hsame3 hnx3 hC h1 h0
   by_cases hk2:fs.xs[k].kind=2
   ·have hf2:=hfH.h.2.2.2.2.2.1 hk2;obtain ⟨c,hc⟩:∃ c:Nat,fs.xs[k].c=c:=⟨fs.xs[k].c.toNat,by omega⟩
    have hcN:c < i:=by omega
    have hC2:=hC1.h.join haN hcN;have hgl:∀ j,j < i->zdm g' a b j < i:=fun j hj=>by have:=hC1.h.le j hj;omega
    have hglH:=Hide.mk hgl;have hN2:Hide (IsCls (zaV (fs.xs.take (k+1))) i (zdm (zdm g' a b) a c)):=⟨by
     rw [zgx hlt2.h];simp only [zdy,ha,hb,hc,if_pos hk2];rw [List.append_assoc] at hC2;exact hC2⟩
    clear hf2 hC2 hC1 hgl;(repeat' first|simp [*,zb,Fact.cells]|(apply za<;>intro _ h<;>try simp [-Nat.le_zero_eq] at h)|(show wpE 0 (zi ..) ..;refine zt ?_)|(refine zk fun v2 H2 hv2 hnx2 hget2 hnew2 hone2 hcel2=>?_))
    refine zfc zlM (zio (g:=zdm g' a b) (by omega) haN hcN hglH.h h03 h13 ?_)
    intro H4 hnx4 hsame4 h04;have h14:H4.get 1=.cells true [.row 0 1 0 i]:=by rw [hsame4 1 (by omega)];exact h13
    have hnx4':H4.nx=H.nx+1:=by rw [hnx4];exact hnx3'
    clear hsame4 hnx4 h13 h03 hgf hnx3';(repeat' first|simp [*,zb]|(apply za<;>intro _ h<;>try simp [-Nat.le_zero_eq] at h)|(show wpE 0 (zi ..) ..;refine zt ?_)|(refine zk fun v2 H2 hv2 hnx2 hget2 hnew2 hone2 hcel2=>?_));exact ⟨k+1,by omega,by omega,by omega,by omega,_,rfl,hN2⟩
   ·have hN2:Hide (IsCls (zaV (fs.xs.take (k+1))) i (zdm g' a b)):=⟨by rw [zgx hlt2.h];simp only [zdy,ha,hb,if_neg hk2];exact hC1.h⟩
    clear hC1;(repeat' first|simp [*,zb,Fact.cells]|(apply za<;>intro _ h<;>try simp [-Nat.le_zero_eq] at h)|(show wpE 0 (zi ..) ..;refine zt ?_)|(refine zk fun v2 H2 hv2 hnx2 hget2 hnew2 hone2 hcel2=>?_));exact ⟨k+1,by omega,by omega,by omega,by omega,_,rfl,hN2⟩
  ·have hkN:k=fs.xs.length:=by omega
   subst hkN;have hgg:∀ j,j < i->g' j=g j:=by
    have h:=hC.h;rw [zmT] at h;exact h.unique hgH.h
   have hpl:zb8 g' i i=zak g i:=ze2 hgg;have hP0:=Hide.mk (PaJ.nil 2 H);rw [<- hpl];clear hgH hC hgg hpl hfm hk hlt;(repeat' first|simp [*,zb]|(apply za<;>intro _ h<;>try simp [-Nat.le_zero_eq] at h)|(show wpE 0 (zi ..) ..;refine zt ?_)|(refine zk fun v2 H2 hv2 hnx2 hget2 hnew2 hone2 hcel2=>?_))
   refine zz [(8,11),(52,81)] (fun (t:Nat) env H=>env 52=.pure (.int .i64 t)/\t<=i/\2<=H.nx/\H.get 1=.cells true [.row 0 1 0 i]/\H.get 0=.cells true (zm intF (grpL g' i))/\∃ v,env 8=v/\Hide (PaJ 2 H v (zb8 g' i t))) (fun t=>i - t) 0 ?_ ?_ ?_ ?_
   ·decide
   ·exact ⟨by simp,by omega,hnx,h1,h0,_,rfl,hP0⟩
   ·simp only [zx];omega
   clear hP0 h1 h0 hnx;rintro t env H ⟨g52,ht,hnx,h1,h0,v,g8,hP⟩
   by_cases htl:t < i
   ·have w1:IntKind.i64.wrap ((t:Int)+1)=(t+1:Nat):=by rw [wrap64 (by omega) (by omega)];omega
    have htI:(t:Int) < i:=by omega
    have gt:=zaA (g:=g') (n:=i) (i:=t) (by rw [zaa];exact htl);have rt:=zbH (own:=true) (f:=intF) (l:=grpL g' i) (i:=t) (fun _=>rfl) (by rw [zaa];exact htl);rw [gt] at rt;simp only [intF,List.map_cons,List.map_nil] at rt
    by_cases e:g' t=t
    ·have eI:(g' t:Int)=(t:Int):=by rw [e]
     have hT0:GrowV intF 1 H (.pure .nils) (zY (zcl g' t 0)):=GrowV.nil;have hT0:=Hide.mk hT0;clear gt;(repeat' first|simp [*,zb]|(apply za<;>intro _ h<;>try simp [-Nat.le_zero_eq] at h)|(show wpE 0 (zi ..) ..;refine zt ?_)|(refine zk fun v2 H2 hv2 hnx2 hget2 hnew2 hone2 hcel2=>?_));clear rt eI
     refine zz [(10,11),(63,76)] (fun (j:Nat) env H2=>env 63=.pure (.int .i64 j)/\j<=i/\H.nx<=H2.nx/\Hide (∀ c,c < H.nx->H2.get c=H.get c)/\∃ u,env 10=u/\Hide (GrowV intF 1 H2 u (zY (zcl g' t j))/\∀ id,Names u id->H.nx<=id)) (fun j=>i - j) 0 ?_ ?_ ?_ ?_
     ·decide
     ·exact ⟨by simp,by omega,Nat.le_refl _,⟨fun _ _=>rfl⟩,_,rfl,⟨hT0.h,fun id ⟨_,_,_,h⟩=>by simp at h⟩⟩
     ·simp only [zx];omega
     clear hT0;rintro j env H2 ⟨g63,hj,hnx2,hsame,u,g10,hU⟩;have h12:H2.get 1=.cells true [.row 0 1 0 i]:=by rw [hsame.h 1 (by omega)];exact h1
     have h02:H2.get 0=.cells true (zm intF (grpL g' i)):=by rw [hsame.h 0 (by omega)];exact h0
     have hone:=hU.h.1.1.one
     by_cases hjl:j < i
     ·have w2:IntKind.i64.wrap ((j:Int)+1)=(j+1:Nat):=by rw [wrap64 (by omega) (by omega)];omega
      have hjI:(j:Int) < i:=by omega
      have gj:=zaA (g:=g') (n:=i) (i:=j) (by rw [zaa];exact hjl);have rj:=zbH (own:=true) (f:=intF) (l:=grpL g' i) (i:=j) (fun _=>rfl) (by rw [zaa];exact hjl);rw [gj] at rj;simp only [intF,List.map_cons,List.map_nil] at rj;clear gj
      by_cases ej:g' j=t
      ·have eJ:(g' j:Int)=(t:Int):=by rw [ej]
       (repeat' first|simp [*,zb]|(apply za<;>intro _ h<;>try simp [-Nat.le_zero_eq] at h)|(show wpE 0 (zi ..) ..;refine zt ?_)|(refine zk fun v2 H2 hv2 hnx2 hget2 hnew2 hone2 hcel2=>?_))
       refine zaE (hU.h.1.alloc _) (fun _=>rfl) (by decide) (fun _=>rfl) (by rw [zaw];have:=zg2 g' t j;unfold zn;omega) ⟨(j:Int),by simp [intF],?_⟩
       intro u4 H4 hg4 ha;have hU4:Hide (GrowV intF 1 H4 u4 (zY (zcl g' t (j+1)))/\∀ id,Names u4 id->H.nx<=id):=⟨by rw [zfZ,if_pos ej];simpa [zY] using hg4,fun id hn=>by have:=ha.new id hn;simp at this;omega⟩
       have hs4:Hide (∀ c,c < H.nx->H4.get c=H.get c):=⟨fun c hc=>by rw [ha.get c (by simp;omega) (fun hn=>by have:=hU.h.2 c hn;omega),zf (by omega)];exact hsame.h c hc⟩
       have hx4:H.nx<=H4.nx:=by have:=ha.nx;simp at this;omega
       clear hg4 ha hU hsame hone rj eJ;(repeat' first|simp [*,zb]|(apply za<;>intro _ h<;>try simp [-Nat.le_zero_eq] at h)|(show wpE 0 (zi ..) ..;refine zt ?_)|(refine zk fun v2 H2 hv2 hnx2 hget2 hnew2 hone2 hcel2=>?_));exact ⟨j+1,by omega,by omega,by omega,hU4⟩
      ·have eJ:¬ (g' j:Int)=(t:Int):=by omega
       have hU2:=hU.h;rw [show zcl g' t j=zcl g' t (j+1) by rw [zfZ,if_neg ej]] at hU2;have hU3:=Hide.mk hU2;clear hU2 hU;(repeat' first|simp [*,zb]|(apply za<;>intro _ h<;>try simp [-Nat.le_zero_eq] at h)|(show wpE 0 (zi ..) ..;refine zt ?_)|(refine zk fun v2 H2 hv2 hnx2 hget2 hnew2 hone2 hcel2=>?_));exact ⟨j+1,by omega,by omega,by omega,hU3⟩
     ·have hji:j=i:=by omega
      subst hji;(repeat' first|simp [*,zb]|(apply za<;>intro _ h<;>try simp [-Nat.le_zero_eq] at h)|(show wpE 0 (zi ..) ..;refine zt ?_)|(refine zk fun v2 H2 hv2 hnx2 hget2 hnew2 hone2 hcel2=>?_));have hU2:=hU.h;have hel:zcl g' t j=za1 g' j t:=rfl;rw [hel] at hU2;have hne:zY (za1 g' j t)≠[]:=by
       intro h;have h2:za1 g' j t=[]:=by simpa [zY] using h
       have h3:t∈za1 g' j t:=by simp [za1,htl,e]
       rw [h2] at h3;simp at h3
      obtain ⟨id,rfl,hgid⟩:=hU2.1.1.row hne;have hidH:=hU2.2 id ⟨_,_,_,rfl⟩
      refine zix (id:=id) (l:=za1 g' j t) (hP.h.keep fun c _ hc=>by rw [zf (by omega)];exact hsame.h c hc) (by simp;omega) (by simp [zaw]) (by omega) (fun h=>by have:=hP.h.lt h;omega) (by rw [zf (zC hgid)];exact hgid) (by have:=zfS g' j t;unfold zn;omega) ?_
      intro v4 H4 hP4 hnx4 e01;have e0:=e01 0 (by omega);have e1:=e01 1 (by omega);have h14:H4.get 1=.cells true [.row 0 1 0 j]:=by rw [e1,zf (by omega)];exact h12
      have h04:H4.get 0=.cells true (zm intF (grpL g' j)):=by rw [e0,zf (by omega)];exact h02
      have hP5:Hide (PaJ 2 H4 v4 (zb8 g' j (t+1))):=⟨by rw [zeQ,if_pos e];exact hP4⟩
      clear hP4 e0 e1 e01 hP hU hU2 hsame h12 h02 h1 h0 hone hgid hne hel g10;(repeat' first|simp [*,zb]|(apply za<;>intro _ h<;>try simp [-Nat.le_zero_eq] at h)|(show wpE 0 (zi ..) ..;refine zt ?_)|(refine zk fun v2 H2 hv2 hnx2 hget2 hnew2 hone2 hcel2=>?_));exact ⟨t+1,by omega,by omega,by omega,hP5⟩
    ·have eI:¬ (g' t:Int)=(t:Int):=by omega
     have hP2:Hide (PaJ 2 H v (zb8 g' i (t+1))):=⟨by rw [zeQ,if_neg e];exact hP.h⟩
     clear gt hP;(repeat' first|simp [*,zb]|(apply za<;>intro _ h<;>try simp [-Nat.le_zero_eq] at h)|(show wpE 0 (zi ..) ..;refine zt ?_)|(refine zk fun v2 H2 hv2 hnx2 hget2 hnew2 hone2 hcel2=>?_));exact ⟨t+1,by omega,by omega,by omega,hP2⟩
   ·have hti:t=i:=by omega
    subst hti;have hres:=Hide.mk hP.h.res;clear hP;(repeat' first|simp [*,zb]|(apply za<;>intro _ h<;>try simp [-Nat.le_zero_eq] at h)|(show wpE 0 (zi ..) ..;refine zt ?_)|(refine zk fun v2 H2 hv2 hnx2 hget2 hnew2 hone2 hcel2=>?_));exact hres.h
def ze0 (l:List Nat):List PV:=[(Sl.mk false (zY l)).pv intF 1]
theorem zeg (l:List Nat):zac l=(Sl.mk false (zY l)).pv intF 1:=by
 simp only [Sl.pv,zac,zY,List.map_map];rfl
theorem zln (ps:List (List Nat)):zel ps=(Sl.of ps).pv ze0 1:=by
 cases ps with
 | nil=>rfl
 | cons l ps=>simp [zel,Sl.of,Sl.pv,ze0,zeg]
theorem zhU (b:List Box) (k:Nat):∀ (l:List Nat) (x:Int),volG b x (l++[k])=min (volG b x l*zbt b[k]!) 65537
 | [],x=>rfl
 | i::l,x=>by simp only [List.cons_append,volG];exact zhU b k l _
theorem zjz {b:List Box} (hb:∀ k,k < b.length->1<=zbt b[k]!):∀ (l:List Nat) (x:Int),(∀ k∈l,k < b.length)->1<=x->x<=65537->1<=volG b x l/\volG b x l<=65537
 | [],x,_,h1,h2=>⟨h1,h2⟩
 | i::l,x,hl,h1,h2=>by
  refine zjz hb l _ (fun k hk=>hl k (List.mem_cons_of_mem _ hk)) ?_ (by omega)
  have h3:=hb i (hl i List.mem_cons_self);have h4:=Int.mul_le_mul h1 h3 (by omega) (by omega);omega
def zco (b:List Box) (l:List Nat) (j:Nat):Int:=if 1 < l.length then volG b 1 (l.take j) else 1
def volP (b:List Box) (l:List Nat):Int:=if 1 < l.length then volG b 1 l else 1
def volL (b:List Box) (ps:List (List Nat)):Int:=ps.foldl (fun x l=>max x (volP b l)) 0
theorem zkx (b:List Box) (l:List Nat):zco b l 0=1:=by unfold zco;split<;>simp [volG]
theorem zmk (b:List Box) (l:List Nat):zco b l l.length=volP b l:=by unfold zco volP;rw [List.take_length]
theorem zkK {b:List Box} {l:List Nat} {j:Nat} (h:j < l.length) (hl:1 < l.length):zco b l (j+1)=min (zco b l j*zbt b[l[j]]!) 65537:=by
 unfold zco;rw [if_pos hl,if_pos hl,List.take_add_one,List.getElem?_eq_getElem h];exact zhU b _ _ _
theorem zlf {b:List Box} {l:List Nat} {j:Nat} (hl:¬ 1 < l.length):zco b l (j+1)=zco b l j:=by
 unfold zco;rw [if_neg hl,if_neg hl]
theorem zmI {b:List Box} {ps:List (List Nat)} {i:Nat} (h:i < ps.length):volL b (ps.take (i+1))=max (volL b (ps.take i)) (volP b ps[i]):=by
 unfold volL;rw [List.take_add_one,List.getElem?_eq_getElem h];show List.foldl (fun x l=>max x (volP b l)) 0 (ps.take i++[ps[i]])=_;rw [List.foldl_append];rfl
theorem zmU {b:List Box} (hb:∀ k,k < b.length->1<=zbt b[k]!) {l:List Nat} (hl:∀ k∈l,k < b.length) (j:Nat):1<=zco b l j/\zco b l j<=65537:=by
 unfold zco
 split
 ·exact zjz hb _ _ (fun k hk=>hl k (List.mem_of_mem_take hk)) (by omega) (by omega)
 ·omega
theorem zmX {y u v:Int} (h1:1<=y) (h2:y<=65537) (h3:1<=u) (h4:u<=2097153) (h5:1<=v) (h6:v<=2097153):IntKind.i64.wrap (y*u)=y*u/\IntKind.i64.wrap (y*u*v)=y*u*v:=by
 have a1:=Int.mul_le_mul h2 h4 (by omega) (by omega);have a2:=Int.mul_le_mul h1 h3 (by omega) (by omega);have a3:=Int.mul_le_mul a1 h6 (by omega) (by omega);have a4:=Int.mul_le_mul a2 h5 (by omega) (by omega);exact ⟨wrap64 (by omega) (by omega),wrap64 (by omega) (by omega)⟩
theorem zoU {u v:Int} (h1:1<=u) (h2:u<=2097153) (h3:1<=v) (h4:v<=2097153):IntKind.i64.wrap (u*v)=u*v:=by
 have a1:=Int.mul_le_mul h2 h4 (by omega) (by omega);have a2:=Int.mul_le_mul h1 h3 (by omega) (by omega);exact wrap64 (by omega) (by omega)
theorem sh55:G.shared 55=false:=by decide
theorem e55 (n:Nat) (bs:Sl Box) (s:Sl (List Nat)) (nb:bs.xs.length<=12) (ns:s.xs.length<=12) (hb:∀ b∈bs.xs,zaz b=true) (hs:∀ l∈s.xs,l.length<=12/\∀ k∈l,k < bs.xs.length):zI G (n+2) 55 [bs.pv Box.cells 4,s.pv ze0 1]=some (.int .i64 (volL bs.xs s.xs)):=by
 refine zA (zB _) rfl g55 rfl ?_
 have hbH:=Hide.mk hb;have hsH:=Hide.mk hs;have hsz:Hide (∀ (k:Nat) (h:k < bs.xs.length) (H:Heap),zM (zq G (n+1)) H (.pure (.func 21 [])) [.pure (.agg bs.xs[k].x.cells)]=some (.val (.pure (.int .i64 (bs.xs[k].x.hi - bs.xs[k].x.lo+1))))/\zM (zq G (n+1)) H (.pure (.func 21 [])) [.pure (.agg bs.xs[k].y.cells)]=some (.val (.pure (.int .i64 (bs.xs[k].y.hi - bs.xs[k].y.lo+1))))):=⟨fun k h H=>by
  have hv:=valid_iff.1 (hb _ (List.getElem_mem h));exact ⟨zh (caps:=[]) (ps:=[_]) sh21 (e21 n bs.xs[k].x (by omega) (by omega)),zh (caps:=[]) (ps:=[_]) sh21 (e21 n bs.xs[k].y (by omega) (by omega))⟩⟩
 have ha:Hide (∀ k,k < bs.xs.length->1<=zbt bs.xs[k]!):=⟨fun k h=>by
  have hv:=valid_iff.1 (hb _ (List.getElem_mem h));rw [getElem!_pos bs.xs k h];exact zdQ ⟨by omega,by omega⟩⟩
 clear hb hs;(repeat' first|simp [*,zb,c55]|(apply za<;>intro _ h<;>try simp [-Nat.le_zero_eq] at h))
 refine zz [(5,5),(7,8),(10,10),(13,46)] (fun (i:Nat) env H=>env 13=.pure (.int .i64 i)/\i<=s.xs.length/\∃ x:Int,env 5=.pure (.int .i64 x)/\Hide (x=volL bs.xs (s.xs.take i))) (fun i=>s.xs.length - i) 0 ?_ ?_ ?_ ?_
 ·decide
 ·exact ⟨by simp,by omega,0,by simp,⟨rfl⟩⟩
 ·simp only [zx];omega
 rintro i env H ⟨g13,hi,x,g5,hx⟩
 by_cases hlt:i < s.xs.length
 ·have w1:IntKind.i64.wrap ((i:Int)+1)=(i+1:Nat):=by rw [wrap64 (by omega) (by omega)];omega
  have hltI:(i:Int) < s.xs.length:=by omega
  obtain ⟨l,hl⟩:∃ l,s.xs[i]=l:=⟨_,rfl⟩
  have hlm:=hsH.h _ (List.getElem_mem hlt);rw [hl] at hlm;have hx2:Hide (∀ y:Int,y=volP bs.xs l->max x y=volL bs.xs (s.xs.take (i+1))):=⟨fun y hy=>by rw [zmI hlt,hl,hy,hx.h]⟩
  have nl:=hlm.1;have hlk:=Hide.mk hlm.2;have e1:(zY l).length=l.length:=zaw l;clear hlm hx;(repeat' first|simp [*,zb,ze0]|(apply za<;>intro _ h<;>try simp [-Nat.le_zero_eq] at h))
  refine zz [(8,8),(10,10),(19,42)] (fun (j:Nat) env H=>env 19=.pure (.int .i64 j)/\j<=l.length/\∃ y:Int,env 8=.pure (.int .i64 y)/\Hide (y=zco bs.xs l j)) (fun j=>l.length - j) 0 ?_ ?_ ?_ ?_
  ·decide
  ·exact ⟨by simp,by omega,1,by simp,⟨(zkx _ _).symm⟩⟩
  ·simp only [zx];omega
  have g13':=g13;have g5':=g5;clear g13 g5;rintro j env H ⟨g19,hj,y,g8,hy⟩
  by_cases hjl:j < l.length
  ·have w2:IntKind.i64.wrap ((j:Int)+1)=(j+1:Nat):=by rw [wrap64 (by omega) (by omega)];omega
   have hjI:(j:Int) < l.length:=by omega
   have hk:=hlk.h _ (List.getElem_mem hjl);obtain ⟨k,hkk⟩:∃ k,l[j]=k:=⟨_,rfl⟩
   rw [hkk] at hk;have hjx:j < (zY l).length:=by rw [e1];exact hjl
   have gj:(zY l)[j]=(k:Int):=by simp [zY,hkk]
   have hkI:(k:Int) < bs.xs.length:=by omega
   by_cases h1l:1 < l.length
   ·have h1I:(1:Int) < l.length:=by omega
    have hz1:=fun H=>(hsz.h k hk H).1;have hz2:=fun H=>(hsz.h k hk H).2;have hv:=valid_iff.1 (hbH.h _ (List.getElem_mem hk));have hr:=zmU ha.h hlk.h j;rw [<- hy.h] at hr;have hw:=zmX (y:=y) (u:=bs.xs[k].x.hi - bs.xs[k].x.lo+1) (v:=bs.xs[k].y.hi - bs.xs[k].y.lo+1) hr.1 hr.2 (by omega) (by omega) (by omega) (by omega);have hw1:=hw.1;have hw2:=hw.2;have hy2:Hide (min (y*(bs.xs[k].x.hi - bs.xs[k].x.lo+1)*(bs.xs[k].y.hi - bs.xs[k].y.lo+1)) 65537=zco bs.xs l (j+1)):=⟨by rw [zkK hjl h1l,hkk,getElem!_pos bs.xs k hk,hy.h,Int.mul_assoc];rfl⟩
    simp only [Span.cells] at hz1 hz2;clear hv hr hw hy hkk;(repeat' first|simp [*,zb,Box.cells,Span.cells]|(apply za<;>intro _ h<;>try simp [-Nat.le_zero_eq] at h));exact ⟨j+1,by omega,by omega,by omega,hy2⟩
   ·have h1I:¬ (1:Int) < l.length:=by omega
    have hy2:Hide (y=zco bs.xs l (j+1)):=⟨by rw [zlf h1l];exact hy.h⟩
    clear hy hkk;(repeat' first|simp [*,zb]|(apply za<;>intro _ h<;>try simp [-Nat.le_zero_eq] at h));exact ⟨j+1,by omega,by omega,by omega,hy2⟩
  ·have hjN:j=l.length:=by omega
   subst hjN;have hyv:=hy.h;rw [zmk] at hyv;have hx3:=Hide.mk (hx2.h y hyv);clear hy hx2 hyv;(repeat' first|simp [*,zb]|(apply za<;>intro _ h<;>try simp [-Nat.le_zero_eq] at h));exact ⟨i+1,by omega,by omega,by omega,hx3⟩
 ·have hiN:i=s.xs.length:=by omega
  subst hiN;have hx2:=hx.h;rw [List.take_length] at hx2;subst hx2;clear hx;(repeat' first|simp [*,zb]|(apply za<;>intro _ h<;>try simp [-Nat.le_zero_eq] at h))
structure Acc where
 n:Nat
 first:Option (List Pt)
 best:List (Option (List Pt))
def keyC (j:Nat) (c:List Pt):Int:=keyS c[j / 4]! (j % 4)
def zam (B:List (Option (List Pt))) (c:List Pt) (t:Nat):List (Option (List Pt)):=B.mapIdx fun j o=>if j < t then zbq (keyC j) o c else o
def zcm (A:Acc) (c:List Pt):Acc:=⟨A.n+1,if A.n=0 then some c else A.first,A.best.mapIdx fun j o=>zbq (keyC j) o c⟩
def ze7 (M:Nat):Acc:=⟨0,none,List.replicate M none⟩
theorem zbC (B:List (Option (List Pt))) (c:List Pt) (t:Nat):(zam B c t).length=B.length:=by simp [zam]
theorem zjN (B:List (Option (List Pt))) (c:List Pt):zam B c 0=B:=by
 refine List.ext_getElem (by simp [zam]) fun j h1 h2=>by simp [zam]
theorem zgq (B:List (Option (List Pt))) (c:List Pt) (t:Nat) (h:B.length<=t):zam B c t=B.mapIdx fun j o=>zbq (keyC j) o c:=by
 refine List.ext_getElem (by simp [zam]) fun j h1 h2=>?_
 have:j < t:=by rw [zbC] at h1;omega
 simp [zam,this]
theorem zle (B:List (Option (List Pt))) (c:List Pt) (t:Nat) (h:t < (zam B c t).length):(zam B c t)[t]=B[t]'(by rw [zbC] at h;exact h):=by simp [zam]
theorem zkU (B:List (Option (List Pt))) (c:List Pt) (t:Nat) (h:t < B.length) (hb:zbq (keyC t) B[t] c=some c):(zam B c t).set t (some c)=zam B c (t+1):=by
 refine List.ext_getElem (by simp [zbC]) fun j h1 h2=>?_
 rw [List.getElem_set]
 split
 ·rename_i e;subst e;simp [zam,hb]
 ·have:(j < t)↔(j < t+1):=⟨fun h=>by omega,fun h=>by omega⟩
  simp [zam,this]
theorem zjt (B:List (Option (List Pt))) (c:List Pt) (t:Nat) (h:t < B.length) (hb:zbq (keyC t) B[t] c=B[t]):zam B c (t+1)=zam B c t:=by
 refine List.ext_getElem (by simp [zbC]) fun j h1 h2=>?_
 by_cases e:j=t
 ·subst e;simp [zam,hb]
 ·have:(j < t)↔(j < t+1):=⟨fun h=>by omega,fun h=>by omega⟩
  simp [zam,this]
theorem zfu:∀ (S:List (List Pt)) (A:Acc),S.foldl zcm A=⟨A.n+S.length,if A.n=0 then (match S with|[]=>A.first|c::_=>some c) else A.first,A.best.mapIdx fun j o=>S.foldl (zbq (keyC j)) o⟩
 | [],A=>by
  obtain ⟨n,f,b⟩:=A;simp;exact List.ext_getElem (by simp) fun j h1 h2=>by simp
 | c::S,A=>by
  rw [List.foldl_cons,zfu S];unfold zcm;simp only [List.length_cons,Nat.add_eq_zero_iff,Nat.succ_ne_self,and_false,if_false,List.foldl_cons,Acc.mk.injEq]
  refine ⟨by omega,?_,?_⟩
  ·by_cases h:A.n=0<;>simp [h]
  ·refine List.ext_getElem (by simp) fun j h1 h2=>by simp
theorem zp7 (S:List (List Pt)) (A:Acc):(S.foldl zcm A).n=A.n+S.length:=by rw [zfu]
theorem zom (S:List (List Pt)) (M:Nat):S.foldl zcm (ze7 M)=⟨S.length,S.head?,(List.range M).map fun j=>zj9 (keyC j) S⟩:=by
 rw [zfu];unfold ze7;simp only [Nat.zero_add,if_true,Acc.mk.injEq,true_and]
 refine ⟨by cases S<;>rfl,List.ext_getElem (by simp) fun j h1 h2=>?_⟩
 simp [zj9]
theorem zkm {b:Box} {i k:Nat} (hi:i < (b.x.hi - b.x.lo+1).toNat) (hk:k < (b.y.hi - b.y.lo+1).toNat) :
  ∃ h:i*(b.y.hi - b.y.lo+1).toNat+k < (zao b).length,(zao b)[i*(b.y.hi - b.y.lo+1).toNat+k]=⟨b.x.lo+i,b.y.lo+k⟩:=by
 have key:∀ (m:Nat) (xs ys:List Int),ys.length=m->∀ i k (hi:i < xs.length) (hk:k < ys.length),∃ h:i*m+k < (xs.flatMap fun x=>ys.map fun y=>(⟨x,y⟩:Pt)).length,(xs.flatMap fun x=>ys.map fun y=>(⟨x,y⟩:Pt))[i*m+k]=⟨xs[i],ys[k]⟩:=by
  intro m xs ys hy
  induction xs with
  | nil=>intro i k hi;simp at hi
  | cons x xs ih =>
   intro i k hi hk;simp only [List.flatMap_cons]
   cases i with
   | zero =>
    refine ⟨by simp;omega,?_⟩
    rw [List.getElem_append_left (by simpa using hk)];simp
   | succ i =>
    obtain ⟨h1,h2⟩:=ih i k (by simpa using hi) hk;have e:(i+1)*m+k=m+(i*m+k):=by rw [Nat.add_mul];omega
    refine ⟨by rw [List.length_append,List.length_map,hy,e];omega,?_⟩
    rw [List.getElem_append_right (by rw [List.length_map,hy,e];omega)];simp only [List.length_map,hy,e,Nat.add_sub_cancel_left,h2,List.getElem_cons_succ]
 have h:=key (b.y.hi - b.y.lo+1).toNat (zer b.x) (zer b.y) (zcc _) i k (by rw [zcc];exact hi) (by rw [zcc];exact hk);obtain ⟨h1,h2⟩:=h
 refine ⟨h1,?_⟩
 unfold zao;rw [h2];simp [zer]
def zdb (ok:Nat->List Box->Bool) (l:List Box) (i:Nat) (rest:List Nat) (k:Nat) (here:List Box) (t:Nat):List (List Pt) :=
 ((zao l[i]!).take t).flatMap fun x=>if ok k (here.set i (atB x))=true then (zbw ok l rest (k+1) (here.set i (atB x))).map (x :: ·) else []
theorem zjG (ok:Nat->List Box->Bool) (l:List Box) (i:Nat) (rest:List Nat) (k:Nat) (here:List Box):zdb ok l i rest k here 0=[]:=by simp [zdb]
theorem zk9 (ok:Nat->List Box->Bool) (l:List Box) (i:Nat) (rest:List Nat) (k:Nat) (here:List Box) {t:Nat} (h:(zao l[i]!).length<=t):zdb ok l i rest k here t=zbw ok l (i::rest) k here:=by
 rw [zdb,List.take_of_length_le h,zbw]
theorem zfV (ok:Nat->List Box->Bool) (l:List Box) (i:Nat) (rest:List Nat) (k:Nat) (here:List Box) {t:Nat} {x:Pt} (h:(zao l[i]!)[t]?=some x) :
  zdb ok l i rest k here (t+1)=zdb ok l i rest k here t++(if ok k (here.set i (atB x))=true then (zbw ok l rest (k+1) (here.set i (atB x))).map (x :: ·) else []):=by
 unfold zdb;rw [List.take_add_one,List.flatMap_append,h];simp
theorem zmt (ok:Nat->List Box->Bool) (l:List Box) (i:Nat) (rest:List Nat) (k:Nat) (here:List Box) (t:Nat):(zdb ok l i rest k here t).length<=(zbw ok l (i::rest) k here).length:=by
 have e:=List.take_append_drop t (zao l[i]!);rw [zbw]
 conv=>rhs;rw [<- e,List.flatMap_append,List.length_append]
 unfold zdb;omega
theorem zjv (l:List Box) (i:Nat) (rest:List Nat):(allC l (i::rest)).length=(zao l[i]!).length*(allC l rest).length:=by
 rw [allC,zdR _ (allC l rest).length _ (fun a _=>by simp)]
theorem zfQ {b:Box} (h:wfB b):((zao b).length:Int)=zbt b:=by
 rw [zen];unfold zbt;have h1:=h.1;have h2:=h.2;rw [Int.natCast_mul,Int.toNat_of_nonneg (by omega),Int.toNat_of_nonneg (by omega)]
theorem zj6 {l:List Box} (hb:∀ k,k < l.length->1<=zbt l[k]!):∀ (part:List Nat),(∀ k∈part,k < l.length)->volG l 65537 part=65537
 | [],_=>rfl
 | i::rest,hl=>by
  have h1:=hb i (hl i List.mem_cons_self);rw [volG,show min (65537*zbt l[i]!) 65537=65537 by omega];exact zj6 hb rest fun k hk=>hl k (List.mem_cons_of_mem _ hk)
theorem zjd {l:List Box} (hw:∀ k,k < l.length->wfB l[k]!):∀ (part:List Nat) (n:Int),(∀ k∈part,k < l.length)->1<=n->volG l n part<=65536->n*((allC l part).length:Int)=volG l n part
 | [],n,_,_,_=>by simp [allC,volG]
 | i::rest,n,hl,hn,hv=>by
  have hi:=hw i (hl i List.mem_cons_self);have hb:∀ k,k < l.length->1<=zbt l[k]! := fun k hk=>zdQ (hw k hk);rw [volG] at hv ⊢;have hlr:∀ k∈rest,k < l.length:=fun k hk=>hl k (List.mem_cons_of_mem _ hk)
  by_cases hc:n*zbt l[i]! <= 65536
  ·rw [show min (n*zbt l[i]!) 65537=n*zbt l[i]! by omega] at hv ⊢;have h1:1<=n*zbt l[i]! := by
    have:=Int.mul_le_mul hn (zdQ hi) (by omega) (by omega);omega
   rw [<- zjd hw rest _ hlr h1 hv,zjv,Int.natCast_mul,zfQ hi,Int.mul_assoc]
  ·rw [show min (n*zbt l[i]!) 65537=65537 by omega,zj6 hb rest hlr] at hv;omega
theorem zm3 (ok:Nat->List Box->Bool) (l:List Box) (part:List Nat) (k:Nat) (here:List Box):(zbw ok l part k here).length<=(allC l part).length:=by
 rw [zc2];exact List.length_filter_le _ _
theorem zm7 {facts:List Fact} {l:List Box} {part:List Nat} (hw:Wf l) (hl:∀ k∈part,k < l.length) (h1:1 < part.length) (hv:volP l part<=65536):(zal facts l part).length<=65536:=by
 have hw':∀ k,k < l.length->wfB l[k]! := fun k hk=>by rw [getElem!_pos l k hk];exact hw _ (List.getElem_mem hk)
 unfold volP at hv;rw [if_pos h1] at hv;have h2:=zjd hw' part 1 hl (by omega) hv;have h3:=zm3 (okK facts part) l part 0 l;unfold zal;omega
end Go.Proofs.Ytleggocccaeemaa.Vm
