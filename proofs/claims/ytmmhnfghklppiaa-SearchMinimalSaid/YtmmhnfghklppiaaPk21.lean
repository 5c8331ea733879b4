/- Parts: what the program's parts computes. Parts: what the program's parts computes, walked. Volumes of parts: the program's, walked. What look gathers of the choices of a part: how many, the first one, the best ones. Plain Lean. -/
import Derived.Test.YtmmhnfghklppiaaPk16
import Derived.Test.YtmmhnfghklppiaaPk18
import Derived.Test.YtmmhnfghklppiaaPk19
import Derived.Test.YtmmhnfghklppiaaPk20
import Derived.Test.YtmmhnfghklppiaaPk14
import Derived.Test.YtmmhnfghklppiaaPk9
import Derived.Test.YtmmhnfghklppiaaPk17
namespace Go.Proofs.Ytmmhnfghklppiaa.Vm
open Go
set_option linter.unusedSimpArgs false
set_option linter.unusedVariables false
set_option maxHeartbeats 4000000
set_option maxRecDepth 4000
theorem wpE_runA {n:Nat} {H:Heap} {f:Nat} {caps args:List AV} {k:AV→Heap→Prop} {u} (hs:G.shared f=true) (h:∃ v H',Vm.call G (n+1) (.fn f) (args++caps) H=some (v,H')∧k v H') :
  wpE 0 (doCall (calleeOf G (n+1)) H (.func f caps) args) H k u:=by
 obtain ⟨v,H',h1,h2⟩:=h
 refine ⟨.upd v H',?_,by simp,h2⟩
 have hs':(calleeOf G (n+1)).shared f=true:=hs;have h1':(calleeOf G (n+1)).run f (args++caps) H=some (v,H'):=h1;simp only [doCall,hs',if_true,h1']
def grpL (g:Nat→Nat) (n:Nat):List Int:=(List.range n).map fun i=>(g i:Int)
theorem grpL_length (g:Nat→Nat) (n:Nat):(grpL g n).length=n:=by simp [grpL]
theorem grpL_get {g:Nat→Nat} {n i:Nat} (h:i < (grpL g n).length):(grpL g n)[i]=g i:=by simp [grpL]
def partPV (l:List Nat):PV:=.slice false 1 (l.map fun (k:Nat)=>[PV.int .i64 (k:Int)])
def partsPV (ps:List (List Nat)):PV:=if ps.isEmpty=true then .nils else .slice false 1 (ps.map fun l=>[partPV l])
def mixG (g:Nat→Nat) (fr to i:Nat):Nat→Nat:=fun j=>if j < i∧g j=fr then to else g j
theorem mixG_zero (g:Nat→Nat) (fr to:Nat):mixG g fr to 0=g:=by funext j;simp [mixG]
theorem mixG_at (g:Nat→Nat) (fr to i:Nat):mixG g fr to i i=g i:=by simp [mixG]
theorem mixG_set (g:Nat→Nat) (fr to N i:Nat) (h:g i=fr):(grpL (mixG g fr to i) N).set i to=grpL (mixG g fr to (i+1)) N:=by
 refine List.ext_getElem (by simp [grpL_length]) fun j h1 h2=>?_
 rw [List.getElem_set,grpL_get]
 split
 ·rename_i e;subst e;rw [grpL_get];simp [mixG,h]
 ·rename_i e;rw [grpL_get];have:(j < i∧g j=fr)↔(j < i+1∧g j=fr):=⟨fun h=>⟨by omega,h.2⟩,fun h=>⟨by omega,h.2⟩⟩
  unfold mixG;simp only [this]
theorem mixG_skip (g:Nat→Nat) (fr to i:Nat) (h:g i≠fr):mixG g fr to (i+1)=mixG g fr to i:=by
 funext j
 unfold mixG
 by_cases e:j=i
 ·subst e;simp [h]
 ·have:(j < i+1∧g j=fr)↔(j < i∧g j=fr):=⟨fun h=>⟨by omega,h.2⟩,fun h=>⟨by omega,h.2⟩⟩
  simp only [this]
theorem mixG_all (g:Nat→Nat) (a b N:Nat):grpL (mixG g (max (g a) (g b)) (min (g a) (g b)) N) N=grpL (joinG g a b) N:=by
 refine List.ext_getElem (by simp [grpL_length]) fun j h1 h2=>?_
 rw [grpL_get,grpL_get];rw [grpL_length] at h1;simp [mixG,joinG,h1]
theorem sh_join:G.shared 65=true:=by decide
theorem join_call {n:Nat} {H:Heap} {g:Nat→Nat} {N a b:Nat} {k:AV→Heap→Prop} (hN:N < 1000) (ha:a < N) (hb:b < N) (hgl:∀ i,i < N→g i < N) (h0:H.get 0=.cells true (rowOf intF (grpL g N))) (h1:H.get 1=.cells true [.row 0 1 0 N])
  (hk:∀ H',H'.nx=H.nx→(∀ j,j≠0→H'.get j=H.get j)→H'.get 0=.cells true (rowOf intF (grpL (joinG g a b) N))→k (.tup []) H') :
  ∃ v H',Vm.call G (n+1) (.fn 65) ([.pure (.int .i64 a),.pure (.int .i64 b)]++[.box 1 0]) H=some (v,H')∧k v H':=by
 refine call_of rfl g65 rfl ?_
 have hgl:=Hide.mk hgl;have hk:=Hide.mk hk;have hl:=grpL_length g N;have ga:=grpL_get (g:=g) (n:=N) (i:=a) (by rw [hl];exact ha);have gb:=grpL_get (g:=g) (n:=N) (i:=b) (by rw [hl];exact hb);have ra:=loadIn_row1 (own:=true) (f:=intF) (l:=grpL g N) (i:=a) (fun _=>rfl) (by rw [hl];exact ha);have rb:=loadIn_row1 (own:=true) (f:=intF) (l:=grpL g N) (i:=b) (fun _=>rfl) (by rw [hl];exact hb);rw [ga] at ra;rw [gb] at rb;simp only [intF,List.map_cons,List.map_nil] at ra rb;obtain ⟨fr,hfr⟩:∃ m:Nat,m=max (g a) (g b):=⟨_,rfl⟩
 obtain ⟨to,hto⟩:∃ m:Nat,m=min (g a) (g b):=⟨_,rfl⟩
 have m1:max (g a:Int) (g b:Int)=(fr:Int):=by subst hfr;omega
 have m2:min (g a:Int) (g b:Int)=(to:Int):=by subst hto;omega
 have haI:(a:Int) < N:=by omega
 have hbI:(b:Int) < N:=by omega
 have hall:=Hide.mk (mixG_all g a b N);rw [← hfr,← hto] at hall;clear hfr hto;(repeat' first|simp [*,initEnv,c65]|(apply wpIf_two<;>intro _ h<;>try simp [-Nat.le_zero_eq] at h))
 refine wp_loopF [(7,7),(28,41)] (fun (i:Nat) env H2=>env 28=.pure (.int .i64 i)∧i≤N∧H2.nx=H.nx∧Hide (∀ j,j≠0→H2.get j=H.get j)∧H2.get 0=.cells true (rowOf intF (grpL (mixG g fr to i) N))) (fun i=>N - i) 0 ?_ ?_ ?_ ?_
 ·decide
 ·exact ⟨by simp,by omega,rfl,⟨fun _ _=>rfl⟩,by rw [mixG_zero];exact h0⟩
 ·simp only [loopFuel];omega
 clear ra rb ga gb hl;rintro i env H2 ⟨g28,hi,hnx,hsame,h0'⟩;have h1':H2.get 1=.cells true [.row 0 1 0 N]:=by rw [hsame.h 1 (by omega)];exact h1
 have hin:0 < H2.nx:=nx_of_get h0';have hl:=grpL_length (mixG g fr to i) N
 by_cases hlt:i < N
 ·have w1:IntKind.i64.wrap ((i:Int)+1)=(i+1:Nat):=by rw [wrap64 (by omega) (by omega)];omega
  have hltI:(i:Int) < N:=by omega
  have gi:=grpL_get (g:=mixG g fr to i) (n:=N) (i:=i) (by rw [hl];exact hlt);rw [mixG_at] at gi;have ri:=loadIn_row1 (own:=true) (f:=intF) (l:=grpL (mixG g fr to i) N) (i:=i) (fun _=>rfl) (by rw [hl];exact hlt);rw [gi] at ri;simp only [intF,List.map_cons,List.map_nil] at ri
  by_cases e:g i=fr
  ·have pi:=putIn_rowI (l:=grpL (mixG g fr to i) N) (i:=i) (x:=to) (by rw [hl];exact hlt);rw [mixG_set _ _ _ _ _ e] at pi;have eI:((g i:Int) == (fr:Int))=true:=by simp [e]
   have eI':(g i:Int)=(fr:Int):=by simp [e]
   have hs2:Hide (∀ (o:AObj) (j:Nat),j≠0→(H2.set 0 o).get j=H.get j):=⟨fun o j hj=>by rw [get_set_ne hj];exact hsame.h j hj⟩
   clear gi hl hsame;(repeat' first|simp [*,initEnv]|(apply wpIf_two<;>intro _ h<;>try simp [-Nat.le_zero_eq] at h));exact ⟨i+1,by omega,by omega,by omega,⟨hs2.h _⟩,get_set_own hin⟩
  ·have hsk:=Hide.mk (mixG_skip g fr to i e);have eI:((g i:Int) == (fr:Int))=false:=by simp;omega
   have eI':¬ (g i:Int)=(fr:Int):=by omega
   clear gi hl;(repeat' first|simp [*,initEnv]|(apply wpIf_two<;>intro _ h<;>try simp [-Nat.le_zero_eq] at h));exact ⟨i+1,by omega,by omega,by omega,by rw [hsk.h]⟩
 ·have hiN:i=N:=by omega
  subst hiN;rw [hall.h] at h0';have hk2:=hk.h H2 hnx hsame.h h0';clear hk hall hsame;(repeat' first|simp [*,initEnv]|(apply wpIf_two<;>intro _ h<;>try simp [-Nat.le_zero_eq] at h))
def fillG (i:Nat):Nat→Nat:=fun j=>if j < i then j else 0
theorem fillG_zero (N:Nat):(List.replicate N (([PV.int .i64 0]).map AV.pure)).flatten=rowOf intF (grpL (fillG 0) N):=by
 have h:grpL (fillG 0) N=List.replicate N 0:=by
  refine List.ext_getElem (by simp [grpL_length]) fun j h1 h2=>?_
  rw [grpL_get];simp [fillG]
 rw [h]
 induction N with
 | zero=>rfl
 | succ N ih=>rw [List.replicate_succ,List.flatten_cons,List.replicate_succ,ih (by
   refine List.ext_getElem (by simp [grpL_length]) fun j h1 h2=>?_
   rw [grpL_get];simp [fillG])];rfl
theorem fillG_set (N i:Nat):(grpL (fillG i) N).set i i=grpL (fillG (i+1)) N:=by
 refine List.ext_getElem (by simp [grpL_length]) fun j h1 h2=>?_
 rw [List.getElem_set,grpL_get]
 split
 ·rename_i e;subst e;rw [grpL_get];simp [fillG]
 ·rename_i e;rw [grpL_get];have:(j < i)↔(j < i+1):=⟨fun h=>by omega,fun h=>by omega⟩
  unfold fillG;simp only [this]
theorem fillG_all (N:Nat):grpL (fillG N) N=grpL (fun i=>i) N:=by
 refine List.ext_getElem (by simp [grpL_length]) fun j h1 h2=>?_
 rw [grpL_get,grpL_get];rw [grpL_length] at h1;simp [fillG,h1]
theorem edges_next {fs:List Fact} {k:Nat} (h:k < fs.length):edgesL (fs.take (k+1))=edgesL (fs.take k)++edgesF fs[k]:=by
 unfold edgesL;rw [List.take_add_one,List.flatMap_append,List.getElem?_eq_getElem h];simp
theorem edges_all (fs:List Fact):edgesL (fs.take fs.length)=edgesL fs:=by rw [List.take_length]
def rowsV (ids:List (Nat×List Nat)):List AV:=ids.map fun x=>.row x.1 1 0 x.2.length
def intsN (l:List Nat):List Int:=l.map fun (k:Nat)=>(k:Int)
theorem intsN_length (l:List Nat):(intsN l).length=l.length:=by simp [intsN]
structure PaJ (B:Nat) (H:Heap) (v:AV) (ps:List (List Nat)):Prop where
 ex:∃ ids:List (Nat×List Nat),ids.map Prod.snd=ps∧RowA H v (rowsV ids)∧∀ x∈ids,B≤x.1∧¬ Names v x.1∧H.get x.1=.cells true (rowOf intF (intsN x.2))
 low:∀ id,Names v id→B≤id
theorem PaJ.nil (B:Nat) (H:Heap):PaJ B H (.pure .nils) []:=⟨⟨[],rfl,RowA.nil,fun x hx=>by simp at hx⟩,fun id ⟨_,_,_,h⟩=>by simp at h⟩
theorem PaJ.lt {B:Nat} {H:Heap} {v:AV} {ps:List (List Nat)} (h:PaJ B H v ps) {id:Nat} (hn:Names v id):id < H.nx:=by
 obtain ⟨ids,_,hr,_⟩:=h.ex;exact hr.names_lt hn
theorem PaJ.keep {B:Nat} {H H':Heap} {v:AV} {ps:List (List Nat)} (h:PaJ B H v ps) (hk:∀ j,B≤j→j < H.nx→H'.get j=H.get j):PaJ B H' v ps:=by
 obtain ⟨ids,h1,h2,h3⟩:=h.ex
 refine ⟨⟨ids,h1,h2.keep fun id hn=>hk id (h.low id hn) (h2.names_lt hn),fun x hx=>?_⟩,h.low⟩
 obtain ⟨a,b,c⟩:=h3 x hx;exact ⟨a,b,by rw [hk x.1 a (nx_of_get c)];exact c⟩
theorem rows_frz {H:Heap}:∀ ids:List (Nat×List Nat),(∀ x∈ids,H.get x.1=.cells true (rowOf intF (intsN x.2)))→FrzL H false 11 (rowsV ids) (ids.map fun x=>partPV x.2)
 | [],_=>FrzL.nil
 | x::ids,h=>by
  refine FrzL.cons ?_ (rows_frz ids fun y hy=>h y (List.mem_cons_of_mem _ hy))
  have h1:=row_res (n:=9) (f:=intF) (sz:=1) (m:=x.2.length) (fun _=>rfl) (h x List.mem_cons_self) (intsN_length _);have e:(Sl.mk false (intsN x.2)).pv intF 1=partPV x.2:=by
   simp only [Sl.pv,partPV,intsN,List.map_map];rfl
  rw [e] at h1;exact h1
theorem PaJ.res {B:Nat} {H:Heap} {v:AV} {ps:List (List Nat)} (h:PaJ B H v ps):FrzK H false 12 v (partsPV ps):=by
 obtain ⟨ids,h1,h2,h3⟩:=h.ex;have h4:=h2.frz (rows_frz ids fun x hx=>(h3 x hx).2.2);have e:(if (rowsV ids).isEmpty=true then PV.nils else .slice false 1 ((ids.map fun x=>partPV x.2).map fun p=>[p]))=partsPV ps:=by
  subst h1
  cases ids with
  | nil=>rfl
  | cons x ids=>simp [rowsV,partsPV]
 rw [e] at h4;exact h4
theorem wpE_appendPJ {B:Nat} {H:Heap} {v:AV} {ps:List (List Nat)} {bytes id:Nat} {l:List Nat} {b:AV} {k:AV→Heap→Prop} {u} (hp:PaJ B H v ps) (h2:B≤H.nx) (hb:sliceCells H 1 b=some ([.row id 1 0 l.length],1)) (hid:B≤id) (hn:¬ Names v id)
  (hg:H.get id=.cells true (rowOf intF (intsN l))) (hm:ps.length+1≤maxCells∧(ps.length+1)*bytes≤maxCells)
  (hk:∀ v' H',PaJ B H' v' (ps++[l])→B≤H'.nx→(∀ c,c < B→H'.get c=H.get c)→k v' H'):wpE 0 (doAppend H 1 bytes v b) H k u:=by
 obtain ⟨ids,h1,hr,h3⟩:=hp.ex;have hlen:(rowsV ids).length=ps.length:=by rw [← h1];simp [rowsV]
 refine wpE_appendA hr hb rfl (by simp [rowsV,List.all_map];try (intro a b _;rfl)) (by rw [hlen];exact hm) ?_
 intro v' H' hr' hnx hsame hnew h1' h2'
 refine hk v' H' ⟨⟨ids++[(id,l)],by rw [List.map_append,h1];rfl,by simpa [rowsV] using hr',fun x hx=>?_⟩,fun j hj=>by have:=hnew j hj;omega⟩ (by omega) (fun c hc=>hsame c (by omega) fun h=>by have:=hp.low c h;omega)
 rcases List.mem_append.1 hx with hx|hx
 ·obtain ⟨a,b,c⟩:=h3 x hx;have hlt:=nx_of_get c;exact ⟨a,fun h=>by have:=hnew _ h;omega,by rw [hsame _ hlt b];exact c⟩
 ·simp at hx;subst hx;have hlt:=nx_of_get hg;exact ⟨hid,fun h=>by have:=hnew _ h;simp only at this;omega,by rw [hsame _ hlt hn];exact hg⟩
def partTo (g:Nat→Nat) (i j:Nat):List Nat:=(List.range j).filter fun k=>g k == i
def partsTo (g:Nat→Nat) (n t:Nat):List (List Nat):=((List.range t).filter fun i=>g i == i).map (partL g n)
theorem partTo_next (g:Nat→Nat) (i j:Nat):partTo g i (j+1)=if g j=i then partTo g i j++[j] else partTo g i j:=by
 unfold partTo;rw [List.range_succ,List.filter_append]
 by_cases e:g j=i<;>simp [e]
theorem partsTo_next (g:Nat→Nat) (n t:Nat):partsTo g n (t+1)=if g t=t then partsTo g n t++[partL g n t] else partsTo g n t:=by
 unfold partsTo;rw [List.range_succ,List.filter_append]
 by_cases e:g t=t<;>simp [e]
theorem partsTo_len (g:Nat→Nat) (n t:Nat):(partsTo g n t).length≤t:=by
 unfold partsTo;rw [List.length_map];have:=List.length_filter_le (fun i=>g i == i) (List.range t);rw [List.length_range] at this;exact this
theorem partTo_len (g:Nat→Nat) (n t:Nat):(partTo g n t).length≤t:=by
 unfold partTo;have:=List.length_filter_le (fun i=>g i == n) (List.range t);rw [List.length_range] at this;exact this
theorem sh40:G.shared 40=false:=by decide
theorem e40 (n:Nat) (p:Problem) (ok:CheckOk p) (g:Nat→Nat) (hg:IsCls (edgesL p.facts.xs) p.boxes.xs.length g):callP G (n+2) 40 [.agg p.cells]=some (partsPV (partsL' g p.boxes.xs.length)):=by
 refine callP_of (ext_none _) rfl g40 rfl ?_
 obtain ⟨bs,fs⟩:=p;have nb:bs.xs.length≤12:=ok.nb;have nf:fs.xs.length≤60:=ok.nf;have hfm:Hide (∀ f∈fs.xs,formedB f bs.xs.length=true):=⟨ok.fact⟩
 have hgH:=Hide.mk hg;clear hg ok;simp only at hgH ⊢;obtain ⟨N,hN⟩:∃ N,N=bs.xs.length:=⟨_,rfl⟩
 rw [← hN] at nb hfm hgH ⊢;have hmx:N*1≤maxCells∧N*8≤maxCells∧N≤maxCells:=by unfold maxCells;omega
 have hz:=fillG_zero N;simp only [List.map_cons,List.map_nil] at hz;have hN':=hN.symm;clear hN;(repeat' first|simp [*,initEnv,c40,Problem.cells]|(apply wpIf_two<;>intro _ h<;>try simp [-Nat.le_zero_eq] at h)|(show wpE 0 (doAppend ..) ..;refine wpE_appW ?_)|(refine after_intro fun v2 H2 hv2 hnx2 hget2 hnew2 hone2 hcel2=>?_))
 refine wp_loopF [(4,4),(18,25)] (fun (i:Nat) env H=>env 18=.pure (.int .i64 i)∧i≤N∧H.nx=2∧H.get 1=.cells true [.row 0 1 0 N]∧H.get 0=.cells true (rowOf intF (grpL (fillG i) N))) (fun i=>N - i) 0 ?_ ?_ ?_ ?_
 ·decide
 ·refine ⟨by simp,by omega,by simp,?_,?_⟩
  ·rfl
  ·rfl
 ·simp only [loopFuel];omega
 rintro i env H ⟨g28,hi,hnx,h1,h0⟩
 by_cases hlt:i < N
 ·have w1:IntKind.i64.wrap ((i:Int)+1)=(i+1:Nat):=by rw [wrap64 (by omega) (by omega)];omega
  have hltI:(i:Int) < N:=by omega
  have pi:=putIn_rowI (l:=grpL (fillG i) N) (i:=i) (x:=i) (by rw [grpL_length];exact hlt);rw [fillG_set] at pi;have hin:0 < H.nx:=by omega
  (repeat' first|simp [*,initEnv]|(apply wpIf_two<;>intro _ h<;>try simp [-Nat.le_zero_eq] at h)|(show wpE 0 (doAppend ..) ..;refine wpE_appW ?_)|(refine after_intro fun v2 H2 hv2 hnx2 hget2 hnew2 hone2 hcel2=>?_));exact ⟨i+1,by omega,by omega,by omega,rfl⟩
 ·have hiN:i=N:=by omega
  subst hiN;rw [fillG_all] at h0;have hnx':2≤H.nx:=by omega
  have hC0:Hide (IsCls (edgesL (fs.xs.take 0)) i (fun j=>j)):=⟨IsCls.nil i⟩
  clear hz hmx hi;clear hlt hnx;(repeat' first|simp [*,initEnv]|(apply wpIf_two<;>intro _ h<;>try simp [-Nat.le_zero_eq] at h)|(show wpE 0 (doAppend ..) ..;refine wpE_appW ?_)|(refine after_intro fun v2 H2 hv2 hnx2 hget2 hnew2 hone2 hcel2=>?_))
  refine wp_loopF [(7,7),(30,49)] (fun (k:Nat) env H=>env 30=.pure (.int .i64 k)∧k≤fs.xs.length∧2≤H.nx∧H.get 1=.cells true [.row 0 1 0 i]∧∃ g,H.get 0=.cells true (rowOf intF (grpL g i))∧Hide (IsCls (edgesL (fs.xs.take k)) i g)) (fun k=>fs.xs.length - k) 0 ?_ ?_ ?_ ?_
  ·decide
  ·exact ⟨by simp,by omega,hnx',h1,_,h0,hC0⟩
  ·simp only [loopFuel];omega
  clear hC0 h1 h0 hnx';rintro k env H ⟨g30,hk,hnx,h1,g',h0,hC⟩
  by_cases hlt:k < fs.xs.length
  ·have w1:IntKind.i64.wrap ((k:Int)+1)=(k+1:Nat):=by rw [wrap64 (by omega) (by omega)];omega
   have hltI:(k:Int) < fs.xs.length:=by omega
   have hf:=(formedB_iff _ _).1 (hfm.h fs.xs[k] (List.getElem_mem hlt));obtain ⟨a,ha⟩:∃ a:Nat,fs.xs[k].a=a:=⟨fs.xs[k].a.toNat,by omega⟩
   obtain ⟨b,hb⟩:∃ b:Nat,fs.xs[k].b=b:=⟨fs.xs[k].b.toNat,by omega⟩
   have haN:a < i:=by omega
   have hbN:b < i:=by omega
   have hne0:0≠H.nx:=by omega
   have hne1:1≠H.nx:=by omega
   have hlt0:0 < H.nx:=by omega
   have hlt1:1 < H.nx:=by omega
   have hlt2:=Hide.mk hlt;have hfH:=Hide.mk hf;clear hf;(repeat' first|simp [*,initEnv,Fact.cells]|(apply wpIf_two<;>intro _ h<;>try simp [-Nat.le_zero_eq] at h)|(show wpE 0 (doAppend ..) ..;refine wpE_appW ?_)|(refine after_intro fun v2 H2 hv2 hnx2 hget2 hnew2 hone2 hcel2=>?_))
   refine wpE_runA sh_join (join_call (g:=g') (by omega) haN hbN (fun j hj=>by have:=hC.h.le j hj;omega) (by rw [get_set_ne hne0,get_alloc_lt hlt0];exact h0) (by rw [get_set_ne hne1,get_alloc_lt hlt1];exact h1) ?_)
   intro H3 hnx3 hsame3 h03;have hgf:=hsame3 H.nx (by omega);rw [get_set_own (by simp)] at hgf;have h13:H3.get 1=.cells true [.row 0 1 0 i]:=by rw [hsame3 1 (by omega),get_set_ne hne1,get_alloc_lt hlt1];exact h1
   have hnx3':H3.nx=H.nx+1:=by rw [hnx3];rfl
   have hC1:=Hide.mk (hC.h.join haN hbN);clear hsame3 hnx3 hC h1 h0
   by_cases hk2:fs.xs[k].kind=2
   ·have hf2:=hfH.h.2.2.2.2.2.1 hk2;obtain ⟨c,hc⟩:∃ c:Nat,fs.xs[k].c=c:=⟨fs.xs[k].c.toNat,by omega⟩
    have hcN:c < i:=by omega
    have hC2:=hC1.h.join haN hcN;have hgl:∀ j,j < i→joinG g' a b j < i:=fun j hj=>by have:=hC1.h.le j hj;omega
    have hglH:=Hide.mk hgl;have hN2:Hide (IsCls (edgesL (fs.xs.take (k+1))) i (joinG (joinG g' a b) a c)):=⟨by
     rw [edges_next hlt2.h];simp only [edgesF,ha,hb,hc,if_pos hk2];rw [List.append_assoc] at hC2;exact hC2⟩
    clear hf2 hC2 hC1 hgl;(repeat' first|simp [*,initEnv,Fact.cells]|(apply wpIf_two<;>intro _ h<;>try simp [-Nat.le_zero_eq] at h)|(show wpE 0 (doAppend ..) ..;refine wpE_appW ?_)|(refine after_intro fun v2 H2 hv2 hnx2 hget2 hnew2 hone2 hcel2=>?_))
    refine wpE_runA sh_join (join_call (g:=joinG g' a b) (by omega) haN hcN hglH.h h03 h13 ?_)
    intro H4 hnx4 hsame4 h04;have h14:H4.get 1=.cells true [.row 0 1 0 i]:=by rw [hsame4 1 (by omega)];exact h13
    have hnx4':H4.nx=H.nx+1:=by rw [hnx4];exact hnx3'
    clear hsame4 hnx4 h13 h03 hgf hnx3';(repeat' first|simp [*,initEnv]|(apply wpIf_two<;>intro _ h<;>try simp [-Nat.le_zero_eq] at h)|(show wpE 0 (doAppend ..) ..;refine wpE_appW ?_)|(refine after_intro fun v2 H2 hv2 hnx2 hget2 hnew2 hone2 hcel2=>?_));exact ⟨k+1,by omega,by omega,by omega,by omega,_,rfl,hN2⟩
   ·have hN2:Hide (IsCls (edgesL (fs.xs.take (k+1))) i (joinG g' a b)):=⟨by rw [edges_next hlt2.h];simp only [edgesF,ha,hb,if_neg hk2];exact hC1.h⟩
    clear hC1;(repeat' first|simp [*,initEnv,Fact.cells]|(apply wpIf_two<;>intro _ h<;>try simp [-Nat.le_zero_eq] at h)|(show wpE 0 (doAppend ..) ..;refine wpE_appW ?_)|(refine after_intro fun v2 H2 hv2 hnx2 hget2 hnew2 hone2 hcel2=>?_));exact ⟨k+1,by omega,by omega,by omega,by omega,_,rfl,hN2⟩
  ·have hkN:k=fs.xs.length:=by omega
   subst hkN;have hgg:∀ j,j < i→g' j=g j:=by
    have h:=hC.h;rw [edges_all] at h;exact h.unique hgH.h
   have hpl:partsTo g' i i=partsL' g i:=partsL_congr hgg;have hP0:=Hide.mk (PaJ.nil 2 H);rw [← hpl];clear hgH hC hgg hpl hfm hk hlt;(repeat' first|simp [*,initEnv]|(apply wpIf_two<;>intro _ h<;>try simp [-Nat.le_zero_eq] at h)|(show wpE 0 (doAppend ..) ..;refine wpE_appW ?_)|(refine after_intro fun v2 H2 hv2 hnx2 hget2 hnew2 hone2 hcel2=>?_))
   refine wp_loopF [(8,11),(52,81)] (fun (t:Nat) env H=>env 52=.pure (.int .i64 t)∧t≤i∧2≤H.nx∧H.get 1=.cells true [.row 0 1 0 i]∧H.get 0=.cells true (rowOf intF (grpL g' i))∧∃ v,env 8=v∧Hide (PaJ 2 H v (partsTo g' i t))) (fun t=>i - t) 0 ?_ ?_ ?_ ?_
   ·decide
   ·exact ⟨by simp,by omega,hnx,h1,h0,_,rfl,hP0⟩
   ·simp only [loopFuel];omega
   clear hP0 h1 h0 hnx;rintro t env H ⟨g52,ht,hnx,h1,h0,v,g8,hP⟩
   by_cases htl:t < i
   ·have w1:IntKind.i64.wrap ((t:Int)+1)=(t+1:Nat):=by rw [wrap64 (by omega) (by omega)];omega
    have htI:(t:Int) < i:=by omega
    have gt:=grpL_get (g:=g') (n:=i) (i:=t) (by rw [grpL_length];exact htl);have rt:=loadIn_row1 (own:=true) (f:=intF) (l:=grpL g' i) (i:=t) (fun _=>rfl) (by rw [grpL_length];exact htl);rw [gt] at rt;simp only [intF,List.map_cons,List.map_nil] at rt
    by_cases e:g' t=t
    ·have eI:(g' t:Int)=(t:Int):=by rw [e]
     have hT0:GrowV intF 1 H (.pure .nils) (intsN (partTo g' t 0)):=GrowV.nil;have hT0:=Hide.mk hT0;clear gt;(repeat' first|simp [*,initEnv]|(apply wpIf_two<;>intro _ h<;>try simp [-Nat.le_zero_eq] at h)|(show wpE 0 (doAppend ..) ..;refine wpE_appW ?_)|(refine after_intro fun v2 H2 hv2 hnx2 hget2 hnew2 hone2 hcel2=>?_));clear rt eI
     refine wp_loopF [(10,11),(63,76)] (fun (j:Nat) env H2=>env 63=.pure (.int .i64 j)∧j≤i∧H.nx≤H2.nx∧Hide (∀ c,c < H.nx→H2.get c=H.get c)∧∃ u,env 10=u∧Hide (GrowV intF 1 H2 u (intsN (partTo g' t j))∧∀ id,Names u id→H.nx≤id)) (fun j=>i - j) 0 ?_ ?_ ?_ ?_
     ·decide
     ·exact ⟨by simp,by omega,Nat.le_refl _,⟨fun _ _=>rfl⟩,_,rfl,⟨hT0.h,fun id ⟨_,_,_,h⟩=>by simp at h⟩⟩
     ·simp only [loopFuel];omega
     clear hT0;rintro j env H2 ⟨g63,hj,hnx2,hsame,u,g10,hU⟩;have h12:H2.get 1=.cells true [.row 0 1 0 i]:=by rw [hsame.h 1 (by omega)];exact h1
     have h02:H2.get 0=.cells true (rowOf intF (grpL g' i)):=by rw [hsame.h 0 (by omega)];exact h0
     have hone:=hU.h.1.1.one
     by_cases hjl:j < i
     ·have w2:IntKind.i64.wrap ((j:Int)+1)=(j+1:Nat):=by rw [wrap64 (by omega) (by omega)];omega
      have hjI:(j:Int) < i:=by omega
      have gj:=grpL_get (g:=g') (n:=i) (i:=j) (by rw [grpL_length];exact hjl);have rj:=loadIn_row1 (own:=true) (f:=intF) (l:=grpL g' i) (i:=j) (fun _=>rfl) (by rw [grpL_length];exact hjl);rw [gj] at rj;simp only [intF,List.map_cons,List.map_nil] at rj;clear gj
      by_cases ej:g' j=t
      ·have eJ:(g' j:Int)=(t:Int):=by rw [ej]
       (repeat' first|simp [*,initEnv]|(apply wpIf_two<;>intro _ h<;>try simp [-Nat.le_zero_eq] at h)|(show wpE 0 (doAppend ..) ..;refine wpE_appW ?_)|(refine after_intro fun v2 H2 hv2 hnx2 hget2 hnew2 hone2 hcel2=>?_))
       refine wpE_appendV (hU.h.1.alloc _) (fun _=>rfl) (by decide) (fun _=>rfl) (by rw [intsN_length];have:=partTo_len g' t j;unfold maxCells;omega) ⟨(j:Int),by simp [intF],?_⟩
       intro u4 H4 hg4 ha;have hU4:Hide (GrowV intF 1 H4 u4 (intsN (partTo g' t (j+1)))∧∀ id,Names u4 id→H.nx≤id):=⟨by rw [partTo_next,if_pos ej];simpa [intsN] using hg4,fun id hn=>by have:=ha.new id hn;simp at this;omega⟩
       have hs4:Hide (∀ c,c < H.nx→H4.get c=H.get c):=⟨fun c hc=>by rw [ha.get c (by simp;omega) (fun hn=>by have:=hU.h.2 c hn;omega),get_alloc_lt (by omega)];exact hsame.h c hc⟩
       have hx4:H.nx≤H4.nx:=by have:=ha.nx;simp at this;omega
       clear hg4 ha hU hsame hone rj eJ;(repeat' first|simp [*,initEnv]|(apply wpIf_two<;>intro _ h<;>try simp [-Nat.le_zero_eq] at h)|(show wpE 0 (doAppend ..) ..;refine wpE_appW ?_)|(refine after_intro fun v2 H2 hv2 hnx2 hget2 hnew2 hone2 hcel2=>?_));exact ⟨j+1,by omega,by omega,by omega,hU4⟩
      ·have eJ:¬ (g' j:Int)=(t:Int):=by omega
       have hU2:=hU.h;rw [show partTo g' t j=partTo g' t (j+1) by rw [partTo_next,if_neg ej]] at hU2;have hU3:=Hide.mk hU2;clear hU2 hU;(repeat' first|simp [*,initEnv]|(apply wpIf_two<;>intro _ h<;>try simp [-Nat.le_zero_eq] at h)|(show wpE 0 (doAppend ..) ..;refine wpE_appW ?_)|(refine after_intro fun v2 H2 hv2 hnx2 hget2 hnew2 hone2 hcel2=>?_));exact ⟨j+1,by omega,by omega,by omega,hU3⟩
     ·have hji:j=i:=by omega
      subst hji;(repeat' first|simp [*,initEnv]|(apply wpIf_two<;>intro _ h<;>try simp [-Nat.le_zero_eq] at h)|(show wpE 0 (doAppend ..) ..;refine wpE_appW ?_)|(refine after_intro fun v2 H2 hv2 hnx2 hget2 hnew2 hone2 hcel2=>?_));have hU2:=hU.h;have hel:partTo g' t j=partL g' j t:=rfl;rw [hel] at hU2;have hne:intsN (partL g' j t)≠[]:=by
       intro h;have h2:partL g' j t=[]:=by simpa [intsN] using h
       have h3:t∈partL g' j t:=by simp [partL,htl,e]
       rw [h2] at h3;simp at h3
      obtain ⟨id,rfl,hgid⟩:=hU2.1.1.row hne;have hidH:=hU2.2 id ⟨_,_,_,rfl⟩
      refine wpE_appendPJ (id:=id) (l:=partL g' j t) (hP.h.keep fun c _ hc=>by rw [get_alloc_lt (by omega)];exact hsame.h c hc) (by simp;omega) (by simp [intsN_length]) (by omega) (fun h=>by have:=hP.h.lt h;omega) (by rw [get_alloc_lt (nx_of_get hgid)];exact hgid) (by have:=partsTo_len g' j t;unfold maxCells;omega) ?_
      intro v4 H4 hP4 hnx4 e01;have e0:=e01 0 (by omega);have e1:=e01 1 (by omega);have h14:H4.get 1=.cells true [.row 0 1 0 j]:=by rw [e1,get_alloc_lt (by omega)];exact h12
      have h04:H4.get 0=.cells true (rowOf intF (grpL g' j)):=by rw [e0,get_alloc_lt (by omega)];exact h02
      have hP5:Hide (PaJ 2 H4 v4 (partsTo g' j (t+1))):=⟨by rw [partsTo_next,if_pos e];exact hP4⟩
      clear hP4 e0 e1 e01 hP hU hU2 hsame h12 h02 h1 h0 hone hgid hne hel g10;(repeat' first|simp [*,initEnv]|(apply wpIf_two<;>intro _ h<;>try simp [-Nat.le_zero_eq] at h)|(show wpE 0 (doAppend ..) ..;refine wpE_appW ?_)|(refine after_intro fun v2 H2 hv2 hnx2 hget2 hnew2 hone2 hcel2=>?_));exact ⟨t+1,by omega,by omega,by omega,hP5⟩
    ·have eI:¬ (g' t:Int)=(t:Int):=by omega
     have hP2:Hide (PaJ 2 H v (partsTo g' i (t+1))):=⟨by rw [partsTo_next,if_neg e];exact hP.h⟩
     clear gt hP;(repeat' first|simp [*,initEnv]|(apply wpIf_two<;>intro _ h<;>try simp [-Nat.le_zero_eq] at h)|(show wpE 0 (doAppend ..) ..;refine wpE_appW ?_)|(refine after_intro fun v2 H2 hv2 hnx2 hget2 hnew2 hone2 hcel2=>?_));exact ⟨t+1,by omega,by omega,by omega,hP2⟩
   ·have hti:t=i:=by omega
    subst hti;have hres:=Hide.mk hP.h.res;clear hP;(repeat' first|simp [*,initEnv]|(apply wpIf_two<;>intro _ h<;>try simp [-Nat.le_zero_eq] at h)|(show wpE 0 (doAppend ..) ..;refine wpE_appW ?_)|(refine after_intro fun v2 H2 hv2 hnx2 hget2 hnew2 hone2 hcel2=>?_));exact hres.h
def partF (l:List Nat):List PV:=[(Sl.mk false (intsN l)).pv intF 1]
theorem partPV_sl (l:List Nat):partPV l=(Sl.mk false (intsN l)).pv intF 1:=by
 simp only [Sl.pv,partPV,intsN,List.map_map];rfl
theorem partsPV_sl (ps:List (List Nat)):partsPV ps=(Sl.of ps).pv partF 1:=by
 cases ps with
 | nil=>rfl
 | cons l ps=>simp [partsPV,Sl.of,Sl.pv,partF,partPV_sl]
theorem volG_snoc (b:List Box) (k:Nat):∀ (l:List Nat) (x:Int),volG b x (l++[k])=min (volG b x l*areaB b[k]!) 65537
 | [],x=>rfl
 | i::l,x=>by simp only [List.cons_append,volG];exact volG_snoc b k l _
theorem volG_rng {b:List Box} (hb:∀ k,k < b.length→1≤areaB b[k]!):∀ (l:List Nat) (x:Int),(∀ k∈l,k < b.length)→1≤x→x≤65537→1≤volG b x l∧volG b x l≤65537
 | [],x,_,h1,h2=>⟨h1,h2⟩
 | i::l,x,hl,h1,h2=>by
  refine volG_rng hb l _ (fun k hk=>hl k (List.mem_cons_of_mem _ hk)) ?_ (by omega)
  have h3:=hb i (hl i List.mem_cons_self);have h4:=Int.mul_le_mul h1 h3 (by omega) (by omega);omega
def volTo (b:List Box) (l:List Nat) (j:Nat):Int:=if 1 < l.length then volG b 1 (l.take j) else 1
def volP (b:List Box) (l:List Nat):Int:=if 1 < l.length then volG b 1 l else 1
def volL (b:List Box) (ps:List (List Nat)):Int:=ps.foldl (fun x l=>max x (volP b l)) 0
theorem volTo_zero (b:List Box) (l:List Nat):volTo b l 0=1:=by unfold volTo;split<;>simp [volG]
theorem volTo_all (b:List Box) (l:List Nat):volTo b l l.length=volP b l:=by unfold volTo volP;rw [List.take_length]
theorem volTo_next {b:List Box} {l:List Nat} {j:Nat} (h:j < l.length) (hl:1 < l.length):volTo b l (j+1)=min (volTo b l j*areaB b[l[j]]!) 65537:=by
 unfold volTo;rw [if_pos hl,if_pos hl,List.take_add_one,List.getElem?_eq_getElem h];exact volG_snoc b _ _ _
theorem volTo_skip {b:List Box} {l:List Nat} {j:Nat} (hl:¬ 1 < l.length):volTo b l (j+1)=volTo b l j:=by
 unfold volTo;rw [if_neg hl,if_neg hl]
theorem volL_next {b:List Box} {ps:List (List Nat)} {i:Nat} (h:i < ps.length):volL b (ps.take (i+1))=max (volL b (ps.take i)) (volP b ps[i]):=by
 unfold volL;rw [List.take_add_one,List.getElem?_eq_getElem h];show List.foldl (fun x l=>max x (volP b l)) 0 (ps.take i++[ps[i]])=_;rw [List.foldl_append];rfl
theorem volTo_rng {b:List Box} (hb:∀ k,k < b.length→1≤areaB b[k]!) {l:List Nat} (hl:∀ k∈l,k < b.length) (j:Nat):1≤volTo b l j∧volTo b l j≤65537:=by
 unfold volTo
 split
 ·exact volG_rng hb _ _ (fun k hk=>hl k (List.mem_of_mem_take hk)) (by omega) (by omega)
 ·omega
theorem wraps_vol {y u v:Int} (h1:1≤y) (h2:y≤65537) (h3:1≤u) (h4:u≤2097153) (h5:1≤v) (h6:v≤2097153):IntKind.i64.wrap (y*u)=y*u∧IntKind.i64.wrap (y*u*v)=y*u*v:=by
 have a1:=Int.mul_le_mul h2 h4 (by omega) (by omega);have a2:=Int.mul_le_mul h1 h3 (by omega) (by omega);have a3:=Int.mul_le_mul a1 h6 (by omega) (by omega);have a4:=Int.mul_le_mul a2 h5 (by omega) (by omega);exact ⟨wrap64 (by omega) (by omega),wrap64 (by omega) (by omega)⟩
theorem wrap_uv {u v:Int} (h1:1≤u) (h2:u≤2097153) (h3:1≤v) (h4:v≤2097153):IntKind.i64.wrap (u*v)=u*v:=by
 have a1:=Int.mul_le_mul h2 h4 (by omega) (by omega);have a2:=Int.mul_le_mul h1 h3 (by omega) (by omega);exact wrap64 (by omega) (by omega)
theorem sh41:G.shared 41=false:=by decide
theorem e41 (n:Nat) (bs:Sl Box) (s:Sl (List Nat)) (nb:bs.xs.length≤12) (ns:s.xs.length≤12) (hb:∀ b∈bs.xs,validB b=true) (hs:∀ l∈s.xs,l.length≤12∧∀ k∈l,k < bs.xs.length):callP G (n+2) 41 [bs.pv Box.cells 4,s.pv partF 1]=some (.int .i64 (volL bs.xs s.xs)):=by
 refine callP_of (ext_none _) rfl g41 rfl ?_
 have hbH:=Hide.mk hb;have hsH:=Hide.mk hs;have hsz:Hide (∀ (k:Nat) (h:k < bs.xs.length) (H:Heap),doCall (calleeOf G (n+1)) H (.pure (.func 46 [])) [.pure (.agg bs.xs[k].x.cells)]=some (.val (.pure (.int .i64 (bs.xs[k].x.hi - bs.xs[k].x.lo+1))))∧doCall (calleeOf G (n+1)) H (.pure (.func 46 [])) [.pure (.agg bs.xs[k].y.cells)]=some (.val (.pure (.int .i64 (bs.xs[k].y.hi - bs.xs[k].y.lo+1))))):=⟨fun k h H=>by
  have hv:=valid_iff.1 (hb _ (List.getElem_mem h));exact ⟨call_pureC (caps:=[]) (ps:=[_]) sh46 (e46 n bs.xs[k].x (by omega) (by omega)),call_pureC (caps:=[]) (ps:=[_]) sh46 (e46 n bs.xs[k].y (by omega) (by omega))⟩⟩
 have ha:Hide (∀ k,k < bs.xs.length→1≤areaB bs.xs[k]!):=⟨fun k h=>by
  have hv:=valid_iff.1 (hb _ (List.getElem_mem h));rw [getElem!_pos bs.xs k h];exact area_pos ⟨by omega,by omega⟩⟩
 clear hb hs;(repeat' first|simp [*,initEnv,c41]|(apply wpIf_two<;>intro _ h<;>try simp [-Nat.le_zero_eq] at h))
 refine wp_loopF [(5,5),(7,8),(10,10),(13,46)] (fun (i:Nat) env H=>env 13=.pure (.int .i64 i)∧i≤s.xs.length∧∃ x:Int,env 5=.pure (.int .i64 x)∧Hide (x=volL bs.xs (s.xs.take i))) (fun i=>s.xs.length - i) 0 ?_ ?_ ?_ ?_
 ·decide
 ·exact ⟨by simp,by omega,0,by simp,⟨rfl⟩⟩
 ·simp only [loopFuel];omega
 rintro i env H ⟨g13,hi,x,g5,hx⟩
 by_cases hlt:i < s.xs.length
 ·have w1:IntKind.i64.wrap ((i:Int)+1)=(i+1:Nat):=by rw [wrap64 (by omega) (by omega)];omega
  have hltI:(i:Int) < s.xs.length:=by omega
  obtain ⟨l,hl⟩:∃ l,s.xs[i]=l:=⟨_,rfl⟩
  have hlm:=hsH.h _ (List.getElem_mem hlt);rw [hl] at hlm;have hx2:Hide (∀ y:Int,y=volP bs.xs l→max x y=volL bs.xs (s.xs.take (i+1))):=⟨fun y hy=>by rw [volL_next hlt,hl,hy,hx.h]⟩
  have nl:=hlm.1;have hlk:=Hide.mk hlm.2;have e1:(intsN l).length=l.length:=intsN_length l;clear hlm hx;(repeat' first|simp [*,initEnv,partF]|(apply wpIf_two<;>intro _ h<;>try simp [-Nat.le_zero_eq] at h))
  refine wp_loopF [(8,8),(10,10),(19,42)] (fun (j:Nat) env H=>env 19=.pure (.int .i64 j)∧j≤l.length∧∃ y:Int,env 8=.pure (.int .i64 y)∧Hide (y=volTo bs.xs l j)) (fun j=>l.length - j) 0 ?_ ?_ ?_ ?_
  ·decide
  ·exact ⟨by simp,by omega,1,by simp,⟨(volTo_zero _ _).symm⟩⟩
  ·simp only [loopFuel];omega
  have g13':=g13;have g5':=g5;clear g13 g5;rintro j env H ⟨g19,hj,y,g8,hy⟩
  by_cases hjl:j < l.length
  ·have w2:IntKind.i64.wrap ((j:Int)+1)=(j+1:Nat):=by rw [wrap64 (by omega) (by omega)];omega
   have hjI:(j:Int) < l.length:=by omega
   have hk:=hlk.h _ (List.getElem_mem hjl);obtain ⟨k,hkk⟩:∃ k,l[j]=k:=⟨_,rfl⟩
   rw [hkk] at hk;have hjx:j < (intsN l).length:=by rw [e1];exact hjl
   have gj:(intsN l)[j]=(k:Int):=by simp [intsN,hkk]
   have hkI:(k:Int) < bs.xs.length:=by omega
   by_cases h1l:1 < l.length
   ·have h1I:(1:Int) < l.length:=by omega
    have hz1:=fun H=>(hsz.h k hk H).1;have hz2:=fun H=>(hsz.h k hk H).2;have hv:=valid_iff.1 (hbH.h _ (List.getElem_mem hk));have hr:=volTo_rng ha.h hlk.h j;rw [← hy.h] at hr;have hw:=wraps_vol (y:=y) (u:=bs.xs[k].x.hi - bs.xs[k].x.lo+1) (v:=bs.xs[k].y.hi - bs.xs[k].y.lo+1) hr.1 hr.2 (by omega) (by omega) (by omega) (by omega);have hw1:=hw.1;have hw2:=hw.2;have hy2:Hide (min (y*(bs.xs[k].x.hi - bs.xs[k].x.lo+1)*(bs.xs[k].y.hi - bs.xs[k].y.lo+1)) 65537=volTo bs.xs l (j+1)):=⟨by rw [volTo_next hjl h1l,hkk,getElem!_pos bs.xs k hk,hy.h,Int.mul_assoc];rfl⟩
    simp only [Span.cells] at hz1 hz2;clear hv hr hw hy hkk;(repeat' first|simp [*,initEnv,Box.cells,Span.cells]|(apply wpIf_two<;>intro _ h<;>try simp [-Nat.le_zero_eq] at h));exact ⟨j+1,by omega,by omega,by omega,hy2⟩
   ·have h1I:¬ (1:Int) < l.length:=by omega
    have hy2:Hide (y=volTo bs.xs l (j+1)):=⟨by rw [volTo_skip h1l];exact hy.h⟩
    clear hy hkk;(repeat' first|simp [*,initEnv]|(apply wpIf_two<;>intro _ h<;>try simp [-Nat.le_zero_eq] at h));exact ⟨j+1,by omega,by omega,by omega,hy2⟩
  ·have hjN:j=l.length:=by omega
   subst hjN;have hyv:=hy.h;rw [volTo_all] at hyv;have hx3:=Hide.mk (hx2.h y hyv);clear hy hx2 hyv;(repeat' first|simp [*,initEnv]|(apply wpIf_two<;>intro _ h<;>try simp [-Nat.le_zero_eq] at h));exact ⟨i+1,by omega,by omega,by omega,hx3⟩
 ·have hiN:i=s.xs.length:=by omega
  subst hiN;have hx2:=hx.h;rw [List.take_length] at hx2;subst hx2;clear hx;(repeat' first|simp [*,initEnv]|(apply wpIf_two<;>intro _ h<;>try simp [-Nat.le_zero_eq] at h))
structure Acc where
 n:Nat
 first:Option (List Pt)
 best:List (Option (List Pt))
def keyC (j:Nat) (c:List Pt):Int:=keyS c[j / 4]! (j % 4)
def bestTo (B:List (Option (List Pt))) (c:List Pt) (t:Nat):List (Option (List Pt)):=B.mapIdx fun j o=>if j < t then betterO (keyC j) o c else o
def leafA (A:Acc) (c:List Pt):Acc:=⟨A.n+1,if A.n=0 then some c else A.first,A.best.mapIdx fun j o=>betterO (keyC j) o c⟩
def accOf (M:Nat):Acc:=⟨0,none,List.replicate M none⟩
theorem bestTo_len (B:List (Option (List Pt))) (c:List Pt) (t:Nat):(bestTo B c t).length=B.length:=by simp [bestTo]
theorem bestTo_zero (B:List (Option (List Pt))) (c:List Pt):bestTo B c 0=B:=by
 refine List.ext_getElem (by simp [bestTo]) fun j h1 h2=>by simp [bestTo]
theorem bestTo_all (B:List (Option (List Pt))) (c:List Pt) (t:Nat) (h:B.length≤t):bestTo B c t=B.mapIdx fun j o=>betterO (keyC j) o c:=by
 refine List.ext_getElem (by simp [bestTo]) fun j h1 h2=>?_
 have:j < t:=by rw [bestTo_len] at h1;omega
 simp [bestTo,this]
theorem bestTo_get (B:List (Option (List Pt))) (c:List Pt) (t:Nat) (h:t < (bestTo B c t).length):(bestTo B c t)[t]=B[t]'(by rw [bestTo_len] at h;exact h):=by simp [bestTo]
theorem bestTo_set (B:List (Option (List Pt))) (c:List Pt) (t:Nat) (h:t < B.length) (hb:betterO (keyC t) B[t] c=some c):(bestTo B c t).set t (some c)=bestTo B c (t+1):=by
 refine List.ext_getElem (by simp [bestTo_len]) fun j h1 h2=>?_
 rw [List.getElem_set]
 split
 ·rename_i e;subst e;simp [bestTo,hb]
 ·have:(j < t)↔(j < t+1):=⟨fun h=>by omega,fun h=>by omega⟩
  simp [bestTo,this]
theorem bestTo_skip (B:List (Option (List Pt))) (c:List Pt) (t:Nat) (h:t < B.length) (hb:betterO (keyC t) B[t] c=B[t]):bestTo B c (t+1)=bestTo B c t:=by
 refine List.ext_getElem (by simp [bestTo_len]) fun j h1 h2=>?_
 by_cases e:j=t
 ·subst e;simp [bestTo,hb]
 ·have:(j < t)↔(j < t+1):=⟨fun h=>by omega,fun h=>by omega⟩
  simp [bestTo,this]
theorem leaf_fold:∀ (S:List (List Pt)) (A:Acc),S.foldl leafA A=⟨A.n+S.length,if A.n=0 then (match S with|[]=>A.first|c::_=>some c) else A.first,A.best.mapIdx fun j o=>S.foldl (betterO (keyC j)) o⟩
 | [],A=>by
  obtain ⟨n,f,b⟩:=A;simp;exact List.ext_getElem (by simp) fun j h1 h2=>by simp
 | c::S,A=>by
  rw [List.foldl_cons,leaf_fold S];unfold leafA;simp only [List.length_cons,Nat.add_eq_zero_iff,Nat.succ_ne_self,and_false,if_false,List.foldl_cons,Acc.mk.injEq]
  refine ⟨by omega,?_,?_⟩
  ·by_cases h:A.n=0<;>simp [h]
  ·refine List.ext_getElem (by simp) fun j h1 h2=>by simp
theorem leaf_n (S:List (List Pt)) (A:Acc):(S.foldl leafA A).n=A.n+S.length:=by rw [leaf_fold]
theorem leaf_all (S:List (List Pt)) (M:Nat):S.foldl leafA (accOf M)=⟨S.length,S.head?,(List.range M).map fun j=>bestL (keyC j) S⟩:=by
 rw [leaf_fold];unfold accOf;simp only [Nat.zero_add,if_true,Acc.mk.injEq,true_and]
 refine ⟨by cases S<;>rfl,List.ext_getElem (by simp) fun j h1 h2=>?_⟩
 simp [bestL]
theorem placesB_at {b:Box} {i k:Nat} (hi:i < (b.x.hi - b.x.lo+1).toNat) (hk:k < (b.y.hi - b.y.lo+1).toNat) :
  ∃ h:i*(b.y.hi - b.y.lo+1).toNat+k < (placesB b).length,(placesB b)[i*(b.y.hi - b.y.lo+1).toNat+k]=⟨b.x.lo+i,b.y.lo+k⟩:=by
 have key:∀ (m:Nat) (xs ys:List Int),ys.length=m→∀ i k (hi:i < xs.length) (hk:k < ys.length),∃ h:i*m+k < (xs.flatMap fun x=>ys.map fun y=>(⟨x,y⟩:Pt)).length,(xs.flatMap fun x=>ys.map fun y=>(⟨x,y⟩:Pt))[i*m+k]=⟨xs[i],ys[k]⟩:=by
  intro m xs ys hy
  induction xs with
  | nil=>intro i k hi;simp at hi
  | cons x xs ih =>
   intro i k hi hk;simp only [List.flatMap_cons]
   cases i with
   | zero =>
    refine ⟨by simp;omega,?_⟩
    rw [List.getElem_append_left (by simpa using hk)];simp
   | succ i =>
    obtain ⟨h1,h2⟩:=ih i k (by simpa using hi) hk;have e:(i+1)*m+k=m+(i*m+k):=by rw [Nat.add_mul];omega
    refine ⟨by rw [List.length_append,List.length_map,hy,e];omega,?_⟩
    rw [List.getElem_append_right (by rw [List.length_map,hy,e];omega)];simp only [List.length_map,hy,e,Nat.add_sub_cancel_left,h2,List.getElem_cons_succ]
 have h:=key (b.y.hi - b.y.lo+1).toNat (numsS b.x) (numsS b.y) (nums_length _) i k (by rw [nums_length];exact hi) (by rw [nums_length];exact hk);obtain ⟨h1,h2⟩:=h
 refine ⟨h1,?_⟩
 unfold placesB;rw [h2];simp [numsS]
def enumTo (ok:Nat→List Box→Bool) (l:List Box) (i:Nat) (rest:List Nat) (k:Nat) (here:List Box) (t:Nat):List (List Pt) :=
 ((placesB l[i]!).take t).flatMap fun x=>if ok k (here.set i (atB x))=true then (enumC ok l rest (k+1) (here.set i (atB x))).map (x :: ·) else []
theorem enumTo_zero (ok:Nat→List Box→Bool) (l:List Box) (i:Nat) (rest:List Nat) (k:Nat) (here:List Box):enumTo ok l i rest k here 0=[]:=by simp [enumTo]
theorem enumTo_all (ok:Nat→List Box→Bool) (l:List Box) (i:Nat) (rest:List Nat) (k:Nat) (here:List Box) {t:Nat} (h:(placesB l[i]!).length≤t):enumTo ok l i rest k here t=enumC ok l (i::rest) k here:=by
 rw [enumTo,List.take_of_length_le h,enumC]
theorem enumTo_next (ok:Nat→List Box→Bool) (l:List Box) (i:Nat) (rest:List Nat) (k:Nat) (here:List Box) {t:Nat} {x:Pt} (h:(placesB l[i]!)[t]?=some x) :
  enumTo ok l i rest k here (t+1)=enumTo ok l i rest k here t++(if ok k (here.set i (atB x))=true then (enumC ok l rest (k+1) (here.set i (atB x))).map (x :: ·) else []):=by
 unfold enumTo;rw [List.take_add_one,List.flatMap_append,h];simp
theorem enumTo_le (ok:Nat→List Box→Bool) (l:List Box) (i:Nat) (rest:List Nat) (k:Nat) (here:List Box) (t:Nat):(enumTo ok l i rest k here t).length≤(enumC ok l (i::rest) k here).length:=by
 have e:=List.take_append_drop t (placesB l[i]!);rw [enumC]
 conv=>rhs;rw [← e,List.flatMap_append,List.length_append]
 unfold enumTo;omega
theorem allC_length (l:List Box) (i:Nat) (rest:List Nat):(allC l (i::rest)).length=(placesB l[i]!).length*(allC l rest).length:=by
 rw [allC,flat_length _ (allC l rest).length _ (fun a _=>by simp)]
theorem places_area {b:Box} (h:wfB b):((placesB b).length:Int)=areaB b:=by
 rw [places_length];unfold areaB;have h1:=h.1;have h2:=h.2;rw [Int.natCast_mul,Int.toNat_of_nonneg (by omega),Int.toNat_of_nonneg (by omega)]
theorem volG_top {l:List Box} (hb:∀ k,k < l.length→1≤areaB l[k]!):∀ (part:List Nat),(∀ k∈part,k < l.length)→volG l 65537 part=65537
 | [],_=>rfl
 | i::rest,hl=>by
  have h1:=hb i (hl i List.mem_cons_self);rw [volG,show min (65537*areaB l[i]!) 65537=65537 by omega];exact volG_top hb rest fun k hk=>hl k (List.mem_cons_of_mem _ hk)
theorem volG_len {l:List Box} (hw:∀ k,k < l.length→wfB l[k]!):∀ (part:List Nat) (n:Int),(∀ k∈part,k < l.length)→1≤n→volG l n part≤65536→n*((allC l part).length:Int)=volG l n part
 | [],n,_,_,_=>by simp [allC,volG]
 | i::rest,n,hl,hn,hv=>by
  have hi:=hw i (hl i List.mem_cons_self);have hb:∀ k,k < l.length→1≤areaB l[k]! := fun k hk=>area_pos (hw k hk);rw [volG] at hv ⊢;have hlr:∀ k∈rest,k < l.length:=fun k hk=>hl k (List.mem_cons_of_mem _ hk)
  by_cases hc:n*areaB l[i]! ≤ 65536
  ·rw [show min (n*areaB l[i]!) 65537=n*areaB l[i]! by omega] at hv ⊢;have h1:1≤n*areaB l[i]! := by
    have:=Int.mul_le_mul hn (area_pos hi) (by omega) (by omega);omega
   rw [← volG_len hw rest _ hlr h1 hv,allC_length,Int.natCast_mul,places_area hi,Int.mul_assoc]
  ·rw [show min (n*areaB l[i]!) 65537=65537 by omega,volG_top hb rest hlr] at hv;omega
theorem enum_len (ok:Nat→List Box→Bool) (l:List Box) (part:List Nat) (k:Nat) (here:List Box):(enumC ok l part k here).length≤(allC l part).length:=by
 rw [enum_filter];exact List.length_filter_le _ _
theorem sols_few {facts:List Fact} {l:List Box} {part:List Nat} (hw:Wf l) (hl:∀ k∈part,k < l.length) (h1:1 < part.length) (hv:volP l part≤65536):(solsC facts l part).length≤65536:=by
 have hw':∀ k,k < l.length→wfB l[k]! := fun k hk=>by rw [getElem!_pos l k hk];exact hw _ (List.getElem_mem hk)
 unfold volP at hv;rw [if_pos h1] at hv;have h2:=volG_len hw' part 1 hl (by omega) hv;have h3:=enum_len (okK facts part) l part 0 l;unfold solsC;omega
end Go.Proofs.Ytmmhnfghklppiaa.Vm
