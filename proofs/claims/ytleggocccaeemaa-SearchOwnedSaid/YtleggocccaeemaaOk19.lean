/- Lists of facts, and strips: names, all, about, bad, of, strip of the program. Boxes of one's own: of, Clone, strip. -/
import Derived.Test.YtleggocccaeemaaOk16
namespace Go.Proofs.Ytleggocccaeemaa.Vm
open Go
set_option linter.unusedSimpArgs false
set_option linter.unusedVariables false
set_option maxHeartbeats 4000000
def zbj (f:Fact) (i:Int):Bool:=decide (f.a=i)||(decide (f.b=i)||(decide (f.kind=2)&&decide (f.c=i)))
theorem sh61:G.shared 61=false:=by decide
theorem e61 (n:Nat) (f:Fact) (i:Int):zI G (n+1) 61 [.agg f.cells,.int .i64 i]=some (.bool (zbj f i)):=by
 refine zA (zB _) rfl g61 rfl ?_
 (repeat' first|simp [*,zb,c61,Fact.cells,zbj]|(apply za<;>intro _ h<;>try simp [-Nat.le_zero_eq] at h))
 all_goals try (simp_all [zbj];done)
def zah (n:Nat):List Int:=(List.range n).map fun (i:Nat)=>(i:Int)
theorem zay (n:Nat):(zah n).length=n:=by simp [zah]
theorem zmE (n i:Nat) (h:i < (zah n).length):(zah n)[i]=i:=by simp [zah]
theorem sh46:G.shared 46=false:=by decide
theorem e46 (n:Nat) (l:Sl Fact) (hl:l.xs.length < 1000):zI G (n+1) 46 [l.pv Fact.cells 9]=some ((Sl.mk false (zah l.xs.length)).pv intF 1):=by
 refine zA (zB _) rfl g46 rfl ?_
 have hm:l.xs.length*1<=zn/\l.xs.length*8<=zn/\l.xs.length<=zn:=by simp only [zn];omega
 (repeat' first|simp [*,zb,c46]|(apply za<;>intro _ h<;>try simp [-Nat.le_zero_eq] at h))
 refine zz [(4,4),(10,17)] (fun (i:Nat) env H=>env 10=.pure (.int .i64 i)/\i<=l.xs.length/\∃ L:List Int,H.get 0=.cells true (zm intF L)/\L.length=l.xs.length/\Hide (∀ j (h:j < L.length),j < i->L[j]=j)) (fun i=>l.xs.length - i) 0 ?_ ?_ ?_ ?_
 ·decide
 ·refine ⟨by simp,by omega,List.replicate l.xs.length 0,?_,by simp,⟨fun _ _ h=>by omega⟩⟩
  simp [zm]
 ·simp only [zx];omega
 rintro i env H ⟨g0,hi,L,hg,hL,hn⟩
 by_cases hlt:i < l.xs.length
 ·have w1:IntKind.i64.wrap ((i:Int)+1)=(i+1:Nat):=by rw [wrap64 (by omega) (by omega)];omega
  have hlt':i < L.length:=by omega
  have hn':Hide (∀ j (h:j < (L.set i (i:Int)).length),j < i+1->(L.set i (i:Int))[j]=j):=⟨fun j h hj=>by
   rw [List.getElem_set]
   split
   ·rename_i e;subst e;rfl
   ·exact hn.h j (by simpa using h) (by omega)⟩
  have hp:=zbm (f:=intF) (sz:=1) (l:=L) (a:=(i:Int)) (fun _=>rfl) (fun _=>rfl) (by decide) hlt';simp only [Nat.mul_one] at hp;clear hn;(repeat' first|simp [*,zb]|(apply za<;>intro _ h<;>try simp [-Nat.le_zero_eq] at h))
  refine ⟨i+1,by omega,by omega,by omega,L.set i i,zP (zC hg),by simp [hL],hn'⟩
 ·have hil:i=l.xs.length:=by omega
  subst hil;have hLe:L=zah l.xs.length:=List.ext_getElem (by rw [zay,hL]) fun j h1 h2=>by rw [zmE,hn.h j h1 (by omega)]
  subst hLe;have h1:=zbz (n:=10) (f:=intF) (sz:=1) (fun _=>rfl) hg hL;clear hn;(repeat' first|simp [*,zb]|(apply za<;>intro _ h<;>try simp [-Nat.le_zero_eq] at h));exact h1
def badI (fs:List Fact) (l:List Box):List Int->Int
 | []=>-1
 | i::is=>if zQ fs[i.toNat]! l=true then i else badI fs l is
theorem zf8 {fs:List Fact} {l:List Box}:∀ {is:List Int},(∀ i∈is,0<=i)->(0<=badI fs l is↔∃ i∈is,zQ fs[i.toNat]! l=true)
 | [],_=>by simp [badI]
 | i::is,h=>by
  rw [badI]
  split
  ·rename_i hf;exact ⟨fun _=>⟨i,by simp,hf⟩,fun _=>h i (by simp)⟩
  ·rename_i hf;rw [zf8 (is:=is) fun j hj=>h j (by simp [hj])]
   constructor
   ·rintro ⟨j,hj,h2⟩;exact ⟨j,by simp [hj],h2⟩
   ·rintro ⟨j,hj,h2⟩;rcases List.mem_cons.1 hj with rfl|hj
    ·exact absurd h2 hf
    ·exact ⟨j,hj,h2⟩
theorem zfq {fs:List Fact} {l:List Box}:∀ (is:List Int) (k:Nat),(∀ j (h:j < is.length),j < k->zQ fs[is[j].toNat]! l=false)->badI fs l is=badI fs l (is.drop k)
 | is,0,_=>rfl
 | [],k+1,_=>by simp
 | i::is,k+1,h=>by
  have h0:=h 0 (by simp) (by omega);simp only [List.getElem_cons_zero] at h0;rw [badI,h0,if_neg (by simp),List.drop_succ_cons];exact zfq is k fun j hj hk=>h (j+1) (by simpa using hj) (by omega)
def zpr (fs:List Fact) (l:List Box) (is:List Int) (i:Nat):Prop:=∀ j (h:j < is.length),j < i->zQ fs[is[j].toNat]! l=false
def okIs (fs:List Fact) (is:List Int):Prop:=∀ i∈is,0<=i/\i < fs.length
theorem zjc {fs:List Fact} {is:List Int} (h:okIs fs is) {j:Nat} (hj:j < is.length):∃ k:Nat,∃ hk:k < fs.length,is[j]=(k:Int)/\fs[is[j].toNat]! = fs[k]:=by
 obtain ⟨h1,h2⟩:=h _ (List.getElem_mem hj);obtain ⟨k,e⟩:=Int.eq_ofNat_of_zero_le h1;have hk:k < fs.length:=by omega
 exact ⟨k,hk,e,by rw [e];simp [hk]⟩
theorem sh47:G.shared 47=false:=by decide
theorem e47 (n:Nat) (fs:Sl Fact) (is:Sl Int) (l:Sl Box) (hi:okIs fs.xs is.xs) (hl:is.xs.length < 1000) (hr:∀ f∈fs.xs,ROk f l.xs):zI G (n+6) 47 [fs.pv Fact.cells 9,is.pv intF 1,l.pv Box.cells 4]=some (.int .i64 (badI fs.xs l.xs is.xs)):=by
 refine zA (zB _) rfl g47 rfl ?_
 have hfv:=Hide.mk fun (f:Fact) (hf:f∈fs.xs) H=>zh (G:=G) (n:=n+5) (H:=H) (caps:=[]) (ps:=[.agg f.cells,l.pv Box.cells 4]) sh33 (e33 n f l (hr f hf));have hok:=Hide.mk hi;clear hr hi;generalize hR:badI fs.xs l.xs is.xs=R;have hR:=Hide.mk hR;(repeat' first|simp [*,zb,c47]|(apply za<;>intro _ h<;>try simp [-Nat.le_zero_eq] at h))
 refine zz [(6,6),(8,8),(11,22)] (fun (i:Nat) env H=>env 11=.pure (.int .i64 i)/\i<=is.xs.length/\Hide (zpr fs.xs l.xs is.xs i)) (fun i=>is.xs.length - i) 0 ?_ ?_ ?_ ?_
 ·decide
 ·exact ⟨by simp,by omega,⟨fun _ _ h=>by omega⟩⟩
 ·simp only [zx];omega
 rintro i env H ⟨g0,hi,hn⟩
 by_cases hlt:i < is.xs.length
 ·have w1:IntKind.i64.wrap ((i:Int)+1)=(i+1:Nat):=by rw [wrap64 (by omega) (by omega)];omega
  obtain ⟨k,hk,e1,e2⟩:=zjc hok.h hlt;have hv:=hfv.h fs.xs[k] (List.getElem_mem hk);simp only [Fact.cells,List.map_cons,List.map_nil] at hv
  cases hf:zQ fs.xs[k] l.xs with
  | true =>
   have hRk:R=(k:Int):=by
    rw [<- hR.h,zfq is.xs i hn.h,List.drop_eq_getElem_cons hlt,badI,e2,hf,if_pos rfl,e1]
   rw [hf] at hv;clear hf hn hfv hok hR e2;subst hRk;(repeat' first|simp [*,zb,Fact.cells]|(apply za<;>intro _ h<;>try simp [-Nat.le_zero_eq] at h))
  | false =>
   have hn':Hide (zpr fs.xs l.xs is.xs (i+1)):=⟨fun j h hj=>by
    by_cases e:j=i
    ·subst e;rw [e2];exact hf
    ·exact hn.h j h (by omega)⟩
   rw [hf] at hv;clear hf hn hfv hok hR e2;(repeat' first|simp [*,zb,Fact.cells]|(apply za<;>intro _ h<;>try simp [-Nat.le_zero_eq] at h));exact ⟨i+1,by omega,rfl,by omega,hn'⟩
 ·have hil:i=is.xs.length:=by omega
  subst hil;have hRk:R=-1:=by rw [<- hR.h,zfq is.xs is.xs.length hn.h,List.drop_length];rfl
  subst hRk;clear hn hfv hok hR;(repeat' first|simp [*,zb]|(apply za<;>intro _ h<;>try simp [-Nat.le_zero_eq] at h))
def zaN (fs:List Fact) (is:List Int) (i:Int):List Int:=is.filter fun k=>zbj fs[k.toNat]! i
theorem zko {fs:List Fact} {is:List Int} {i:Int} {k:Nat} (h:k < is.length):zaN fs (is.take (k+1)) i=if zbj fs[is[k].toNat]! i=true then zaN fs (is.take k) i++[is[k]] else zaN fs (is.take k) i:=by
 unfold zaN;rw [<- zcN h,List.filter_append];simp only [List.filter_cons,List.filter_nil]
 split<;>simp
theorem sh48:G.shared 48=false:=by decide
theorem e48 (n:Nat) (fs:Sl Fact) (is:Sl Int) (i:Int) (hi:okIs fs.xs is.xs) (hl:is.xs.length < 1000):zI G (n+2) 48 [fs.pv Fact.cells 9,is.pv intF 1,.int .i64 i]=some ((Sl.of (zaN fs.xs is.xs i)).pv intF 1):=by
 refine zA (zB _) rfl g48 rfl ?_
 have hfv:=Hide.mk fun (f:Fact) H=>zh (G:=G) (n:=n+1) (H:=H) (caps:=[]) (ps:=[.agg f.cells,.int .i64 i]) sh61 (e61 n f i);have hok:=Hide.mk hi;clear hi;(repeat' first|simp [*,zb,c48]|(apply za<;>intro _ h<;>try simp [-Nat.le_zero_eq] at h)|(show wpE 0 (zi ..) ..;refine zt ?_)|(refine zk fun v2 H2 hv2 hnx2 hget2 hnew2 hone2 hcel2=>?_))
 refine zz [(7,7),(9,9),(12,26)] (fun (k:Nat) env H=>env 12=.pure (.int .i64 k)/\k<=is.xs.length/\GrowV intF 1 H (env 7) (zaN fs.xs (is.xs.take k) i)) (fun k=>is.xs.length - k) 0 ?_ ?_ ?_ ?_
 ·decide
 ·exact ⟨by simp,by omega,by simpa [zaN] using GrowV.nil⟩
 ·simp only [zx];omega
 rintro k env H ⟨g0,hi,hv1⟩;generalize g7:env 7=v at *
 by_cases hlt:k < is.xs.length
 ·have w1:IntKind.i64.wrap ((k:Int)+1)=(k+1:Nat):=by rw [wrap64 (by omega) (by omega)];omega
  obtain ⟨m,hm,e1,e2⟩:=zjc hok.h hlt;have hv:=hfv.h fs.xs[m];simp only [Fact.cells,List.map_cons,List.map_nil] at hv;have hst:=Hide.mk (zko (fs:=fs.xs) (i:=i) hlt);have hle:(zaN fs.xs (is.xs.take k) i).length < 1000:=by
   have h1:(zaN fs.xs (is.xs.take k) i).length<=(is.xs.take k).length:=List.length_filter_le _ _;have h2:(is.xs.take k).length<=is.xs.length:=by rw [List.length_take];omega
   omega
  rw [e2] at hst;generalize hA:zaN fs.xs (is.xs.take k) i=A at *
  cases hf:zbj fs.xs[m] i with
  | true =>
   have hst2:Hide (zaN fs.xs (is.xs.take (k+1)) i=A++[(m:Int)]):=⟨by rw [hst.h,hf,if_pos rfl,e1]⟩
   rw [hf] at hv;clear hf hfv hok e2 hA hst;(repeat' first|simp [*,zb,Fact.cells]|(apply za<;>intro _ h<;>try simp [-Nat.le_zero_eq] at h)|(show wpE 0 (zi ..) ..;refine zt ?_)|(refine zk fun v2 H2 hv2 hnx2 hget2 hnew2 hone2 hcel2=>?_));exact ⟨k+1,by omega,by omega,by omega,hv2.cast hst2.h.symm⟩
  | false =>
   have hst2:Hide (zaN fs.xs (is.xs.take (k+1)) i=A):=⟨by rw [hst.h,hf,if_neg (by simp)]⟩
   rw [hf] at hv;clear hf hfv hok e2 hA hst;(repeat' first|simp [*,zb,Fact.cells]|(apply za<;>intro _ h<;>try simp [-Nat.le_zero_eq] at h)|(show wpE 0 (zi ..) ..;refine zt ?_)|(refine zk fun v2 H2 hv2 hnx2 hget2 hnew2 hone2 hcel2=>?_));exact ⟨k+1,by omega,by omega,by omega,hv1.cast hst2.h.symm⟩
 ·have hil:k=is.xs.length:=by omega
  subst hil;rw [List.take_length] at hv1;have h1:=hv1.res (n:=10) (fun _=>rfl);clear hfv hok;(repeat' first|simp [*,zb]|(apply za<;>intro _ h<;>try simp [-Nat.le_zero_eq] at h)|(show wpE 0 (zi ..) ..;refine zt ?_)|(refine zk fun v2 H2 hv2 hnx2 hget2 hnew2 hone2 hcel2=>?_));exact h1
def nilV (v:AV):Option Eff:=match isNil .pointer v,isNil .func v with
  | some false,_|_,some false=>some (.val v)
  | _,_=>none
@[simp] theorem zan {cl:Callee} {env:Env} {H:Heap} (x:Opnd):step cl env H (.nilCheck x)=nilV (x.eval env):=by
 simp only [step,nilV];rfl
@[simp] theorem zrn (id off:Nat):nilV (.box id off)=some (.val (.box id off)):=rfl
@[simp] theorem zrt (h:Bool) (cs:List PV) (off:Nat):nilV (.pure (.ptr h cs off))=some (.val (.pure (.ptr h cs off))):=rfl
theorem zrc:G.shared 50=true:=by decide
theorem zna (n:Nat) (H:Heap) (id off:Nat) (a:Int):zM (zq G (n+1)) H (.pure (.func 50 [])) [.box id off,.pure (.int .i64 a)]=some (.upd (.box id (off+if a=0 then 0 else 2)) H):=by
 have h:∃ v H',Vm.call G (n+1) (.fn 50) [.box id off,.pure (.int .i64 a)] H=some (v,H')/\(v=.box id (off+if a=0 then 0 else 2)/\H'=H):=by
  refine zbg (k:=fun v H'=>v=.box id (off+if a=0 then 0 else 2)/\H'=H) rfl g50 rfl ?_
  by_cases ha:a=0
  ·(repeat' first|simp [*,zb,c50]|(apply za<;>intro _ h<;>try simp [-Nat.le_zero_eq] at h))
  ·(repeat' first|simp [*,zb,c50]|(apply za<;>intro _ h<;>try simp [-Nat.le_zero_eq] at h))
 obtain ⟨v,H',h1,rfl,rfl⟩:=h;have h2:(zq G (n+1)).shared 50=true:=zrc;have h3:(zq G (n+1)).run 50 [.box id off,.pure (.int .i64 a)] H'=some (.box id (off+if a=0 then 0 else 2),H'):=h1;simp only [zM,List.map_nil,List.append_nil,h2,if_true,h3]
theorem zmB:G.shared 45=true:=by decide
theorem zaW {n:Nat} {H:Heap} {s:Sl Box} {k:AV->Heap->Prop} {u} (hl:s.xs.length < 1000)
  (hk:∀ v' H',OwnV Box.cells 4 H' v' s.xs->isNil .slice v'=some s.isNil->H.nx<=H'.nx->(∀ id,id < H.nx->H'.get id=H.get id)->(∀ id,Names v' id->H.nx<=id)->k v' H') :
  wpE 0 (zM (zq G (n+1)) H (.pure (.func 45 [])) [.pure (s.pv Box.cells 4)]) H k u:=by
 refine zoF zmB ?_
 refine zkN (f:=Box.cells) (sz:=4) (bytes:=32) (l:=s.xs) (b:=s.isNil) (fun _=>rfl) g45 ?_ ?_ (fun h=>?_) (fun _=>rfl) (by decide) (fun _=>rfl) ?_ hk
 ·exact zbU (f:=Box.cells) (sz:=4) (fun _=>rfl) _
 ·simp
 ·cases s with
  | nil=>rfl
  | mk h l=>simp [Sl.isNil] at h
 ·simp only [zn];omega
theorem zcM {α:Type} {f:α->List PV} {sz:Nat} {l:List α} {i off size:Nat} {vs:List PV} {b:α} (hf:∀ a,(f a).length=sz) (hone:vs.all PV.one=true) (h0:size≠0) (h:i < l.length) (ho:off+size<=sz) (hl:vs.length=size)
  (hb:f b=(f l[i]).take off++vs++(f l[i]).drop (off+size)):zbK (.cells true (zm f l)) size (i*sz+off) (vs.map .pure)=some (.cells true (zm f (l.set i b))):=by
 simp only [zbK];have hle:i*sz+sz<=(zm f l).length:=by
  rw [zar hf,<- Nat.succ_mul];exact Nat.mul_le_mul_right sz h
 rw [if_pos ⟨by rw [List.length_map,hl],h0,zb9 _ hone,by omega⟩,<- zid hf h b,hb];obtain ⟨p,q,h1,h2⟩:=zeL hf h;have hX:((f l[i]).map AV.pure).length=sz:=by rw [List.length_map,hf]
 rw [h1,<- h2,List.append_assoc,List.append_assoc];have e1:(p++((f l[i]).map AV.pure++q)).take (p.length+off)=p++((f l[i]).map AV.pure).take off:=by
  rw [List.take_length_add_append,List.take_append_of_le_length (by omega)]
 have e2:(p++((f l[i]).map AV.pure++q)).drop (p.length+off+size)=((f l[i]).map AV.pure).drop (off+size)++q:=by
  rw [Nat.add_assoc,List.drop_length_add_append,List.drop_append_of_le_length (by omega)]
 have e3:(p++((f l[i]).map AV.pure++q)).take p.length=p:=by
  simp
 have e4:(p++((f l[i]).map AV.pure++q)).drop (p.length+sz)=q:=by
  rw [List.drop_length_add_append,<- hX,List.drop_left]
 rw [e1,e2,e3,e4];simp [List.map_append,List.map_take,List.map_drop,List.append_assoc]
theorem zdt {l:List Box} {i:Nat} (h:i < l.length) (v:Int):zbK (.cells true (zm Box.cells l)) 1 (i*4) [.pure (.int .i64 v)]=some (.cells true (zm Box.cells (l.set i ⟨⟨v,l[i].x.hi⟩,l[i].y⟩))) :=
 zcM (off:=0) (f:=Box.cells) (sz:=4) (vs:=[.int .i64 v]) (b:=⟨⟨v,l[i].x.hi⟩,l[i].y⟩) (fun _=>rfl) rfl (by decide) h (by decide) rfl rfl
theorem zfv {l:List Box} {i:Nat} (h:i < l.length) (v:Int):zbK (.cells true (zm Box.cells l)) 1 (i*4+1) [.pure (.int .i64 v)]=some (.cells true (zm Box.cells (l.set i ⟨⟨l[i].x.lo,v⟩,l[i].y⟩))) :=
 zcM (off:=1) (f:=Box.cells) (sz:=4) (vs:=[.int .i64 v]) (b:=⟨⟨l[i].x.lo,v⟩,l[i].y⟩) (fun _=>rfl) rfl (by decide) h (by decide) rfl rfl
theorem zfC {l:List Box} {i:Nat} (h:i < l.length) (v:Int):zbK (.cells true (zm Box.cells l)) 1 (i*4+2) [.pure (.int .i64 v)]=some (.cells true (zm Box.cells (l.set i ⟨l[i].x,⟨v,l[i].y.hi⟩⟩))) :=
 zcM (off:=2) (f:=Box.cells) (sz:=4) (vs:=[.int .i64 v]) (b:=⟨l[i].x,⟨v,l[i].y.hi⟩⟩) (fun _=>rfl) rfl (by decide) h (by decide) rfl rfl
theorem zfD {l:List Box} {i:Nat} (h:i < l.length) (v:Int):zbK (.cells true (zm Box.cells l)) 1 (i*4+3) [.pure (.int .i64 v)]=some (.cells true (zm Box.cells (l.set i ⟨l[i].x,⟨l[i].y.lo,v⟩⟩))) :=
 zcM (off:=3) (f:=Box.cells) (sz:=4) (vs:=[.int .i64 v]) (b:=⟨l[i].x,⟨l[i].y.lo,v⟩⟩) (fun _=>rfl) rfl (by decide) h (by decide) rfl rfl
structure Side where
 point:Int
 axis:Int
 high:Bool
 deriving Inhabited
@[simp] def Side.cells (s:Side):List PV:=[.int .i64 s.point,.int .i64 s.axis,.bool s.high]
@[simp] theorem Side.eta (s:Side):(⟨s.point,s.axis,s.high⟩:Side)=s:=rfl
def zdS (i k:Nat):Side:=⟨i,(k / 2:Nat),decide (k % 2=1)⟩
theorem e49 (n:Nat) (l:Sl Box) (i k:Nat) (hi:i < l.xs.length) (hk:k < 4) (hl:l.xs.length < 1000):zI G (n+2) 49 [l.pv Box.cells 4,.agg (zdS i k).cells]=some ((Sl.mk false (zat l.xs i k)).pv Box.cells 4):=by
 refine zA (zB _) rfl g49 rfl ?_
 have ho:=zna n;have hst:=Hide.mk (zba hi k);have hk4:k=0\/k=1\/k=2\/k=3:=by omega
 have p1:=zdt hi;have p2:=zfv hi;have p3:=zfC hi;have p4:=zfD hi;have q3:=zcf (own:=true) (f:=Box.cells) (sz:=4) (l:=l.xs) (i:=i) (size:=1) (off:=3) (fun _=>rfl) hi (by decide);have e3:i*4+2+1=i*4+3:=rfl;have hlen:∀ b,(l.xs.set i b).length=l.xs.length:=fun b=>by simp
 rcases hk4 with rfl|rfl|rfl|rfl
 ·(repeat' first|simp [*,zb,c49,zdS,Side.cells]|(apply za<;>intro _ h<;>try simp [-Nat.le_zero_eq] at h))
  refine zaW hl ?_
  intro v' H' hv hn hnx hsame hnew;obtain ⟨id,rfl,hg⟩:=hv.row (by intro e;rw [e] at hi;simp at hi);have hid:=zC hg;clear hv hn hsame hnew;have hres:=fun (H2:Heap) b (hg2:H2.get id=.cells true (zm Box.cells (l.xs.set i b)))=>zbz (n:=10) (f:=Box.cells) (sz:=4) (fun _=>rfl) hg2 (hlen b);have hres:=Hide.mk hres;(repeat' first|simp [*,zb]|(apply za<;>intro _ h<;>try simp [-Nat.le_zero_eq] at h));rw [hst.h];exact hres.h _ _ (zP hid)
 ·(repeat' first|simp [*,zb,c49,zdS,Side.cells]|(apply za<;>intro _ h<;>try simp [-Nat.le_zero_eq] at h))
  refine zaW hl ?_
  intro v' H' hv hn hnx hsame hnew;obtain ⟨id,rfl,hg⟩:=hv.row (by intro e;rw [e] at hi;simp at hi);have hid:=zC hg;clear hv hn hsame hnew;have hres:=fun (H2:Heap) b (hg2:H2.get id=.cells true (zm Box.cells (l.xs.set i b)))=>zbz (n:=10) (f:=Box.cells) (sz:=4) (fun _=>rfl) hg2 (hlen b);have hres:=Hide.mk hres;(repeat' first|simp [*,zb]|(apply za<;>intro _ h<;>try simp [-Nat.le_zero_eq] at h));rw [hst.h];exact hres.h _ _ (zP hid)
 ·(repeat' first|simp [*,zb,c49,zdS,Side.cells]|(apply za<;>intro _ h<;>try simp [-Nat.le_zero_eq] at h))
  refine zaW hl ?_
  intro v' H' hv hn hnx hsame hnew;obtain ⟨id,rfl,hg⟩:=hv.row (by intro e;rw [e] at hi;simp at hi);have hid:=zC hg;clear hv hn hsame hnew;have hres:=fun (H2:Heap) b (hg2:H2.get id=.cells true (zm Box.cells (l.xs.set i b)))=>zbz (n:=10) (f:=Box.cells) (sz:=4) (fun _=>rfl) hg2 (hlen b);have hres:=Hide.mk hres;(repeat' first|simp [*,zb]|(apply za<;>intro _ h<;>try simp [-Nat.le_zero_eq] at h));rw [hst.h];exact hres.h _ _ (zP hid)
 ·(repeat' first|simp [*,zb,c49,zdS,Side.cells]|(apply za<;>intro _ h<;>try simp [-Nat.le_zero_eq] at h))
  refine zaW hl ?_
  intro v' H' hv hn hnx hsame hnew;obtain ⟨id,rfl,hg⟩:=hv.row (by intro e;rw [e] at hi;simp at hi);have hid:=zC hg;clear hv hn hsame hnew;have hres:=fun (H2:Heap) b (hg2:H2.get id=.cells true (zm Box.cells (l.xs.set i b)))=>zbz (n:=10) (f:=Box.cells) (sz:=4) (fun _=>rfl) hg2 (hlen b);have hres:=Hide.mk hres;(repeat' first|simp [*,zb]|(apply za<;>intro _ h<;>try simp [-Nat.le_zero_eq] at h));rw [hst.h];exact hres.h _ _ (zP hid)
end Go.Proofs.Ytleggocccaeemaa.Vm
