/- Lists of facts, and strips: names, all, about, bad, of, strip of the program. Boxes of one's own: of, Clone, strip. -/
import Derived.Test.YtmmhnfghklppiaaGreatUk16
namespace Go.Proofs.YtmmhnfghklppiaaGreat.Vm
open Go
set_option linter.unusedSimpArgs false
set_option linter.unusedVariables false
set_option maxHeartbeats 4000000
def rU (f:Fact) (i:Int):Bool:=decide (f.a=i)||(decide (f.b=i)||(decide (f.kind=2)&&decide (f.c=i)))
theorem zwg:G.shared 126=false:=by decide
theorem e126 (n:Nat) (f:Fact) (i:Int):zF G (n+1) 126 [.agg f.cells,.int .i64 i]=some (.bool (rU f i)):=by
 refine zy (zx _) rfl g126 rfl ?_
 (repeat' first|simp [*,zb,c126,Fact.cells,rU]|(apply za<;>intro _ h<;>try simp [-Nat.le_zero_eq] at h))
 all_goals try (simp_all [rU];done)
def jQ (n:Nat):List Int:=(List.range n).map fun (i:Nat)=>(i:Int)
theorem Ku (n:Nat):(jQ n).length=n:=by simp [jQ]
theorem zpM (n i:Nat) (h:i < (jQ n).length):(jQ n)[i]=i:=by simp [jQ]
theorem ztI:G.shared 105=false:=by decide
theorem e105 (n:Nat) (l:Sl Fact) (hl:l.xs.length < 1000):zF G (n+1) 105 [l.pv Fact.cells 9]=some ((Sl.mk false (jQ l.xs.length)).pv aF 1):=by
 refine zy (zx _) rfl g105 rfl ?_
 have hm:l.xs.length*1<=zu/\l.xs.length*8<=zu/\l.xs.length<=zu:=by simp only [zu];omega
 (repeat' first|simp [*,zb,c105]|(apply za<;>intro _ h<;>try simp [-Nat.le_zero_eq] at h))
 refine zA [(4,4),(10,17)] (fun (i:Nat) env H=>env 10=.pure (.int .i64 i)/\i<=l.xs.length/\∃ L:List Int,H.get 0=.cells true (zq aF L)/\L.length=l.xs.length/\Hide (∀ j (h:j < L.length),j < i->L[j]=j)) (fun i=>l.xs.length - i) 0 ?_ ?_ ?_ ?_
 .decide
 .refine ⟨by simp,by omega,List.replicate l.xs.length 0,?_,by simp,⟨fun _ _ h=>by omega⟩⟩
  simp [zq]
 .simp only [zz];omega
 rintro i env H ⟨g0,hi,L,hg,hL,hn⟩
 by_cases aK:i < l.xs.length
 .have w1:IntKind.i64.wrap ((i:Int)+1)=(i+1:Nat):=by rw [wrap64 (by omega) (by omega)];omega
  have tQ:i < L.length:=by omega
  have jc:Hide (∀ j (h:j < (L.set i (i:Int)).length),j < i+1->(L.set i (i:Int))[j]=j):=⟨fun j h hj=>by
   rw [List.getElem_set]
   split
   .rename_i e;subst e;rfl
   .exact hn.h j (by simpa using h) (by omega)⟩
  have hp:=Fj (f:=aF) (sz:=1) (l:=L) (a:=(i:Int)) (fun _=>rfl) (fun _=>rfl) (by decide) tQ;simp only [Nat.mul_one] at hp;clear hn;(repeat' first|simp [*,zb]|(apply za<;>intro _ h<;>try simp [-Nat.le_zero_eq] at h))
  refine ⟨i+1,by omega,by omega,by omega,L.set i i,zn (zo hg),by simp [hL],jc⟩
 .have aT:i=l.xs.length:=by omega
  subst aT;have hLe:L=jQ l.xs.length:=List.ext_getElem (by rw [Ku,hL]) fun j h1 h2=>by rw [zpM,hn.h j h1 (by omega)]
  subst hLe;have h1:=sI (n:=10) (f:=aF) (sz:=1) (fun _=>rfl) hg hL;clear hn;(repeat' first|simp [*,zb]|(apply za<;>intro _ h<;>try simp [-Nat.le_zero_eq] at h));exact h1
def fI (fs:List Fact) (l:List Box):List Int->Int
 | []=>-1
 | i::is=>if zD fs[i.toNat]! l=true then i else fI fs l is
theorem Vo {fs:List Fact} {l:List Box}:∀ {is:List Int},(∀ i∈is,0<=i)->(0<=fI fs l is↔∃ i∈is,zD fs[i.toNat]! l=true)
 | [],_=>by simp [fI]
 | i::is,h=>by
  rw [fI]
  split
  .rename_i hf;exact ⟨fun _=>⟨i,by simp,hf⟩,fun _=>h i (by simp)⟩
  .rename_i hf;rw [Vo (is:=is) fun j hj=>h j (by simp [hj])]
   constructor
   .rintro ⟨j,hj,h2⟩;exact ⟨j,by simp [hj],h2⟩
   .rintro ⟨j,hj,h2⟩;rcases List.mem_cons.1 hj with rfl|hj
    .exact absurd h2 hf
    .exact ⟨j,hj,h2⟩
theorem zgZ {fs:List Fact} {l:List Box}:∀ (is:List Int) (k:Nat),(∀ j (h:j < is.length),j < k->zD fs[is[j].toNat]! l=false)->fI fs l is=fI fs l (is.drop k)
 | is,0,_=>rfl
 | [],k+1,_=>by simp
 | i::is,k+1,h=>by
  have h0:=h 0 (by simp) (by omega);simp only [List.getElem_cons_zero] at h0;rw [fI,h0,if_neg (by simp),List.drop_succ_cons];exact zgZ is k fun j hj hk=>h (j+1) (by simpa using hj) (by omega)
def ztu (fs:List Fact) (l:List Box) (is:List Int) (i:Nat):Prop:=∀ j (h:j < is.length),j < i->zD fs[is[j].toNat]! l=false
def vS (fs:List Fact) (is:List Int):Prop:=∀ i∈is,0<=i/\i < fs.length
theorem zlS {fs:List Fact} {is:List Int} (h:vS fs is) {j:Nat} (hj:j < is.length):∃ k:Nat,∃ hk:k < fs.length,is[j]=(k:Int)/\fs[is[j].toNat]! = fs[k]:=by
 obtain ⟨h1,h2⟩:=h _ (List.getElem_mem hj);obtain ⟨k,e⟩:=Int.eq_ofNat_of_zero_le h1;have hk:k < fs.length:=by omega
 exact ⟨k,hk,e,by rw [e];simp [hk]⟩
theorem sh74:G.shared 74=false:=by decide
theorem e74 (n:Nat) (fs:Sl Fact) (is:Sl Int) (l:Sl Box) (hi:vS fs.xs is.xs) (hl:is.xs.length < 1000) (hr:∀ f∈fs.xs,rT f l.xs):zF G (n+6) 74 [fs.pv Fact.cells 9,is.pv aF 1,l.pv Box.cells 4]=some (.int .i64 (fI fs.xs l.xs is.xs)):=by
 refine zy (zx _) rfl g74 rfl ?_
 have tF:=Hide.mk fun (f:Fact) (hf:f∈fs.xs) H=>zf (G:=G) (n:=n+5) (H:=H) (caps:=[]) (ps:=[.agg f.cells,l.pv Box.cells 4]) sh60 (e60 n f l (hr f hf));have bQ:=Hide.mk hi;clear hr hi;generalize hR:fI fs.xs l.xs is.xs=R;have hR:=Hide.mk hR;(repeat' first|simp [*,zb,c74]|(apply za<;>intro _ h<;>try simp [-Nat.le_zero_eq] at h))
 refine zA [(6,6),(8,8),(11,22)] (fun (i:Nat) env H=>env 11=.pure (.int .i64 i)/\i<=is.xs.length/\Hide (ztu fs.xs l.xs is.xs i)) (fun i=>is.xs.length - i) 0 ?_ ?_ ?_ ?_
 .decide
 .exact ⟨by simp,by omega,⟨fun _ _ h=>by omega⟩⟩
 .simp only [zz];omega
 rintro i env H ⟨g0,hi,hn⟩
 by_cases aK:i < is.xs.length
 .have w1:IntKind.i64.wrap ((i:Int)+1)=(i+1:Nat):=by rw [wrap64 (by omega) (by omega)];omega
  obtain ⟨k,hk,e1,e2⟩:=zlS bQ.h aK;have hv:=tF.h fs.xs[k] (List.getElem_mem hk);simp only [Fact.cells,List.map] at hv
  cases hf:zD fs.xs[k] l.xs with
  | true =>
   have Ea:R=(k:Int):=by
    rw [<- hR.h,zgZ is.xs i hn.h,List.drop_eq_getElem_cons aK,fI,e2,hf,if_pos rfl,e1]
   rw [hf] at hv;clear hf hn tF bQ hR e2;subst Ea;simp [*,zb,Fact.cells]
  | false =>
   have jc:Hide (ztu fs.xs l.xs is.xs (i+1)):=⟨fun j h hj=>by
    by_cases e:j=i
    .subst e;rw [e2];exact hf
    .exact hn.h j h (by omega)⟩
   rw [hf] at hv;clear hf hn tF bQ hR e2;(repeat' first|simp [*,zb,Fact.cells]|(apply za<;>intro _ h<;>try simp [-Nat.le_zero_eq] at h));exact ⟨i+1,by omega,rfl,by omega,jc⟩
 .have aT:i=is.xs.length:=by omega
  subst aT;have Ea:R=-1:=by rw [<- hR.h,zgZ is.xs is.xs.length hn.h,List.drop_length];rfl
  subst Ea;clear hn tF bQ hR;simp [*,zb]
def sO (fs:List Fact) (is:List Int) (i:Int):List Int:=is.filter fun k=>rU fs[k.toNat]! i
theorem zn7 {fs:List Fact} {is:List Int} {i:Int} {k:Nat} (h:k < is.length):sO fs (is.take (k+1)) i=if rU fs[is[k].toNat]! i=true then sO fs (is.take k) i++[is[k]] else sO fs (is.take k) i:=by
 unfold sO;rw [<- DY h,List.filter_append];simp only [List.filter_cons,List.filter_nil]
 split<;>simp
theorem ztx:G.shared 106=false:=by decide
theorem e106 (n:Nat) (fs:Sl Fact) (is:Sl Int) (i:Int) (hi:vS fs.xs is.xs) (hl:is.xs.length < 1000):zF G (n+2) 106 [fs.pv Fact.cells 9,is.pv aF 1,.int .i64 i]=some ((Sl.of (sO fs.xs is.xs i)).pv aF 1):=by
 refine zy (zx _) rfl g106 rfl ?_
 have tF:=Hide.mk fun (f:Fact) H=>zf (G:=G) (n:=n+1) (H:=H) (caps:=[]) (ps:=[.agg f.cells,.int .i64 i]) zwg (e126 n f i);have bQ:=Hide.mk hi;clear hi;(repeat' first|simp [*,zb,c106]|(apply za<;>intro _ h<;>try simp [-Nat.le_zero_eq] at h)|(show wpE 0 (zh ..) ..;refine zm ?_)|(refine ze fun v2 H2 aV aD ae af ai aj=>?_))
 refine zA [(7,7),(9,9),(12,26)] (fun (k:Nat) env H=>env 12=.pure (.int .i64 k)/\k<=is.xs.length/\aC aF 1 H (env 7) (sO fs.xs (is.xs.take k) i)) (fun k=>is.xs.length - k) 0 ?_ ?_ ?_ ?_
 .decide
 .exact ⟨by simp,by omega,by simpa [sO] using aC.nil⟩
 .simp only [zz];omega
 rintro k env H ⟨g0,hi,pq⟩;generalize g7:env 7=v at *
 by_cases aK:k < is.xs.length
 .have w1:IntKind.i64.wrap ((k:Int)+1)=(k+1:Nat):=by rw [wrap64 (by omega) (by omega)];omega
  obtain ⟨m,hm,e1,e2⟩:=zlS bQ.h aK;have hv:=tF.h fs.xs[m];simp only [Fact.cells,List.map] at hv;have bu:=Hide.mk (zn7 (fs:=fs.xs) (i:=i) aK);have hle:(sO fs.xs (is.xs.take k) i).length < 1000:=by
   have h1:(sO fs.xs (is.xs.take k) i).length<=(is.xs.take k).length:=List.length_filter_le _ _;have h2:(is.xs.take k).length<=is.xs.length:=by rw [List.length_take];omega
   omega
  rw [e2] at bu;generalize hA:sO fs.xs (is.xs.take k) i=A at *
  cases hf:rU fs.xs[m] i with
  | true =>
   have ug:Hide (sO fs.xs (is.xs.take (k+1)) i=A++[(m:Int)]):=⟨by rw [bu.h,hf,if_pos rfl,e1]⟩
   rw [hf] at hv;clear hf tF bQ e2 hA bu;(repeat' first|simp [*,zb,Fact.cells]|(apply za<;>intro _ h<;>try simp [-Nat.le_zero_eq] at h)|(show wpE 0 (zh ..) ..;refine zm ?_)|(refine ze fun v2 H2 aV aD ae af ai aj=>?_));exact ⟨k+1,by omega,by omega,by omega,aV.cast ug.h.symm⟩
  | false =>
   have ug:Hide (sO fs.xs (is.xs.take (k+1)) i=A):=⟨by rw [bu.h,hf,if_neg (by simp)]⟩
   rw [hf] at hv;clear hf tF bQ e2 hA bu;(repeat' first|simp [*,zb,Fact.cells]|(apply za<;>intro _ h<;>try simp [-Nat.le_zero_eq] at h)|(show wpE 0 (zh ..) ..;refine zm ?_)|(refine ze fun v2 H2 aV aD ae af ai aj=>?_));exact ⟨k+1,by omega,by omega,by omega,pq.cast ug.h.symm⟩
 .have aT:k=is.xs.length:=by omega
  subst aT;rw [List.take_length] at pq;have h1:=pq.res (n:=10) (fun _=>rfl);clear tF bQ;(repeat' first|simp [*,zb]|(apply za<;>intro _ h<;>try simp [-Nat.le_zero_eq] at h)|(show wpE 0 (zh ..) ..;refine zm ?_)|(refine ze fun v2 H2 aV aD ae af ai aj=>?_));exact h1
def LQ (v:AV):Option Eff:=match isNil .pointer v,isNil .func v with
  | some false,_|_,some false=>some (.val v)
  | _,_=>none
@[simp] theorem zH {cl:Callee} {env:Env} {H:Heap} (x:ag):step cl env H (.nilCheck x)=LQ (x.eval env):=by
 simp only [step,LQ];rfl
@[simp] theorem zvx (id off:Nat):LQ (.box id off)=some (.val (.box id off)):=rfl
@[simp] theorem zvQ (h:Bool) (cs:List PV) (off:Nat):LQ (.pure (.ptr h cs off))=some (.val (.pure (.ptr h cs off))):=rfl
theorem ztE:G.shared 76=true:=by decide
theorem Fq (n:Nat) (H:Heap) (id off:Nat) (a:Int):zG (zt G (n+1)) H (.pure (.func 76 [])) [.box id off,.pure (.int .i64 a)]=some (.upd (.box id (off+if a=0 then 0 else 2)) H):=by
 have h:∃ v H',Vm.call G (n+1) (.fn 76) [.box id off,.pure (.int .i64 a)] H=some (v,H')/\(v=.box id (off+if a=0 then 0 else 2)/\H'=H):=by
  refine F8 (k:=fun v H'=>v=.box id (off+if a=0 then 0 else 2)/\H'=H) rfl g76 rfl ?_
  by_cases ha:a=0
  .simp [*,zb,c76]
  .simp [*,zb,c76]
 obtain ⟨v,H',h1,rfl,rfl⟩:=h;have h2:(zt G (n+1)).shared 76=true:=ztE;have h3:(zt G (n+1)).run 76 [.box id off,.pure (.int .i64 a)] H'=some (.box id (off+if a=0 then 0 else 2),H'):=h1;simp only [zG,List.map_nil,List.append_nil,h2,if_true,h3]
theorem zg2:G.shared 79=true:=by decide
theorem Gn {n:Nat} {H:Heap} {s:Sl Box} {k:AV->Heap->Prop} {u} (hl:s.xs.length < 1000)
  (hk:∀ v' H',bP Box.cells 4 H' v' s.xs->isNil .slice v'=some s.isNil->H.nx<=H'.nx->(∀ id,id < H.nx->H'.get id=H.get id)->(∀ id,Names v' id->H.nx<=id)->k v' H') :
  wpE 0 (zG (zt G (n+1)) H (.pure (.func 79 [])) [.pure (s.pv Box.cells 4)]) H k u:=by
 refine LB zg2 ?_
 refine ziq (f:=Box.cells) (sz:=4) (bytes:=32) (l:=s.xs) (b:=s.isNil) (fun _=>rfl) g79 ?_ ?_ (fun h=>?_) (fun _=>rfl) (by decide) (fun _=>rfl) ?_ hk
 .exact J8 (f:=Box.cells) (sz:=4) (fun _=>rfl) _
 .simp
 .cases s with
  | nil=>rfl
  | mk h l=>simp [Sl.isNil] at h
 .simp only [zu];omega
theorem SL {α:Type} {f:α->List PV} {sz:Nat} {l:List α} {i off size:Nat} {vs:List PV} {b:α} (hf:∀ a,(f a).length=sz) (bn:vs.all PV.one=true) (h0:size≠0) (h:i < l.length) (ho:off+size<=sz) (hl:vs.length=size)
  (hb:f b=(f l[i]).take off++vs++(f l[i]).drop (off+size)):vK (.cells true (zq f l)) size (i*sz+off) (vs.map .pure)=some (.cells true (zq f (l.set i b))):=by
 simp only [vK];have hle:i*sz+sz<=(zq f l).length:=by
  rw [DX hf,<- Nat.succ_mul];exact Nat.mul_le_mul_right sz h
 rw [if_pos ⟨by rw [List.length_map,hl],h0,U0 _ bn,by omega⟩,<- zkb hf h b,hb];obtain ⟨p,q,h1,h2⟩:=zfS hf h;have hX:((f l[i]).map AV.pure).length=sz:=by rw [List.length_map,hf]
 rw [h1,<- h2,List.append_assoc,List.append_assoc];have e1:(p++((f l[i]).map AV.pure++q)).take (p.length+off)=p++((f l[i]).map AV.pure).take off:=by
  rw [List.take_length_add_append,List.take_append_of_le_length (by omega)]
 have e2:(p++((f l[i]).map AV.pure++q)).drop (p.length+off+size)=((f l[i]).map AV.pure).drop (off+size)++q:=by
  rw [Nat.add_assoc,List.drop_length_add_append,List.drop_append_of_le_length (by omega)]
 have e3:(p++((f l[i]).map AV.pure++q)).take p.length=p:=by
  simp
 have e4:(p++((f l[i]).map AV.pure++q)).drop (p.length+sz)=q:=by
  rw [List.drop_length_add_append,<- hX,List.drop_left]
 rw [e1,e2,e3,e4];simp [List.map_append,List.map_take,List.map_drop,List.append_assoc]
theorem Vp {l:List Box} {i:Nat} (h:i < l.length) (v:Int):vK (.cells true (zq Box.cells l)) 1 (i*4) [.pure (.int .i64 v)]=some (.cells true (zq Box.cells (l.set i ⟨⟨v,l[i].x.hi⟩,l[i].y⟩))) :=
 SL (off:=0) (f:=Box.cells) (sz:=4) (vs:=[.int .i64 v]) (b:=⟨⟨v,l[i].x.hi⟩,l[i].y⟩) (fun _=>rfl) rfl (by decide) h (by decide) rfl rfl
theorem Vq {l:List Box} {i:Nat} (h:i < l.length) (v:Int):vK (.cells true (zq Box.cells l)) 1 (i*4+1) [.pure (.int .i64 v)]=some (.cells true (zq Box.cells (l.set i ⟨⟨l[i].x.lo,v⟩,l[i].y⟩))) :=
 SL (off:=1) (f:=Box.cells) (sz:=4) (vs:=[.int .i64 v]) (b:=⟨⟨l[i].x.lo,v⟩,l[i].y⟩) (fun _=>rfl) rfl (by decide) h (by decide) rfl rfl
theorem Vr {l:List Box} {i:Nat} (h:i < l.length) (v:Int):vK (.cells true (zq Box.cells l)) 1 (i*4+2) [.pure (.int .i64 v)]=some (.cells true (zq Box.cells (l.set i ⟨l[i].x,⟨v,l[i].y.hi⟩⟩))) :=
 SL (off:=2) (f:=Box.cells) (sz:=4) (vs:=[.int .i64 v]) (b:=⟨l[i].x,⟨v,l[i].y.hi⟩⟩) (fun _=>rfl) rfl (by decide) h (by decide) rfl rfl
theorem Vs {l:List Box} {i:Nat} (h:i < l.length) (v:Int):vK (.cells true (zq Box.cells l)) 1 (i*4+3) [.pure (.int .i64 v)]=some (.cells true (zq Box.cells (l.set i ⟨l[i].x,⟨l[i].y.lo,v⟩⟩))) :=
 SL (off:=3) (f:=Box.cells) (sz:=4) (vs:=[.int .i64 v]) (b:=⟨l[i].x,⟨l[i].y.lo,v⟩⟩) (fun _=>rfl) rfl (by decide) h (by decide) rfl rfl
structure Side where
 point:Int
 nY:Int
 high:Bool
 deriving Inhabited
@[simp] def Side.cells (s:Side):List PV:=[.int .i64 s.point,.int .i64 s.nY,.bool s.high]
@[simp] theorem Side.eta (s:Side):(⟨s.point,s.nY,s.high⟩:Side)=s:=rfl
def Fv (i k:Nat):Side:=⟨i,(k / 2:Nat),decide (k % 2=1)⟩
theorem zvu:G.shared 107=false:=by decide
theorem e107 (n:Nat) (l:Sl Box) (i k:Nat) (hi:i < l.xs.length) (hk:k < 4) (hl:l.xs.length < 1000):zF G (n+2) 107 [l.pv Box.cells 4,.agg (Fv i k).cells]=some ((Sl.mk false (jP l.xs i k)).pv Box.cells 4):=by
 refine zy (zx _) rfl g107 rfl ?_
 have ho:=Fq n;have bu:=Hide.mk (CX hi k);have nE:k=0\/k=1\/k=2\/k=3:=by omega
 have p1:=Vp hi;have p2:=Vq hi;have p3:=Vr hi;have p4:=Vs hi;have q3:=zC (own:=true) (f:=Box.cells) (sz:=4) (l:=l.xs) (i:=i) (size:=1) (off:=3) (fun _=>rfl) hi (by decide);have e3:i*4+2+1=i*4+3:=rfl;have hlen:∀ b,(l.xs.set i b).length=l.xs.length:=fun b=>by simp
 rcases nE with rfl|rfl|rfl|rfl
 ·(repeat' first|simp [*,zb,c107,Fv,Side.cells]|(apply za<;>intro _ h<;>try simp [-Nat.le_zero_eq] at h))
  refine Gn hl ?_
  intro v' H' hv hn bU ah aS;obtain ⟨id,rfl,hg⟩:=hv.row (by intro e;rw [e] at hi;simp at hi);have aB:=zo hg;clear hv hn ah aS;have bD:=fun (H2:Heap) b (xS:H2.get id=.cells true (zq Box.cells (l.xs.set i b)))=>sI (n:=10) (f:=Box.cells) (sz:=4) (fun _=>rfl) xS (hlen b);have bD:=Hide.mk bD;(repeat' first|simp [*,zb]|(apply za<;>intro _ h<;>try simp [-Nat.le_zero_eq] at h));rw [bu.h];exact bD.h _ _ (zn aB)
 ·(repeat' first|simp [*,zb,c107,Fv,Side.cells]|(apply za<;>intro _ h<;>try simp [-Nat.le_zero_eq] at h))
  refine Gn hl ?_
  intro v' H' hv hn bU ah aS;obtain ⟨id,rfl,hg⟩:=hv.row (by intro e;rw [e] at hi;simp at hi);have aB:=zo hg;clear hv hn ah aS;have bD:=fun (H2:Heap) b (xS:H2.get id=.cells true (zq Box.cells (l.xs.set i b)))=>sI (n:=10) (f:=Box.cells) (sz:=4) (fun _=>rfl) xS (hlen b);have bD:=Hide.mk bD;(repeat' first|simp [*,zb]|(apply za<;>intro _ h<;>try simp [-Nat.le_zero_eq] at h));rw [bu.h];exact bD.h _ _ (zn aB)
 ·(repeat' first|simp [*,zb,c107,Fv,Side.cells]|(apply za<;>intro _ h<;>try simp [-Nat.le_zero_eq] at h))
  refine Gn hl ?_
  intro v' H' hv hn bU ah aS;obtain ⟨id,rfl,hg⟩:=hv.row (by intro e;rw [e] at hi;simp at hi);have aB:=zo hg;clear hv hn ah aS;have bD:=fun (H2:Heap) b (xS:H2.get id=.cells true (zq Box.cells (l.xs.set i b)))=>sI (n:=10) (f:=Box.cells) (sz:=4) (fun _=>rfl) xS (hlen b);have bD:=Hide.mk bD;(repeat' first|simp [*,zb]|(apply za<;>intro _ h<;>try simp [-Nat.le_zero_eq] at h));rw [bu.h];exact bD.h _ _ (zn aB)
 ·(repeat' first|simp [*,zb,c107,Fv,Side.cells]|(apply za<;>intro _ h<;>try simp [-Nat.le_zero_eq] at h))
  refine Gn hl ?_
  intro v' H' hv hn bU ah aS;obtain ⟨id,rfl,hg⟩:=hv.row (by intro e;rw [e] at hi;simp at hi);have aB:=zo hg;clear hv hn ah aS;have bD:=fun (H2:Heap) b (xS:H2.get id=.cells true (zq Box.cells (l.xs.set i b)))=>sI (n:=10) (f:=Box.cells) (sz:=4) (fun _=>rfl) xS (hlen b);have bD:=Hide.mk bD;(repeat' first|simp [*,zb]|(apply za<;>intro _ h<;>try simp [-Nat.le_zero_eq] at h));rw [bu.h];exact bD.h _ _ (zn aB)
end Go.Proofs.YtmmhnfghklppiaaGreat.Vm
