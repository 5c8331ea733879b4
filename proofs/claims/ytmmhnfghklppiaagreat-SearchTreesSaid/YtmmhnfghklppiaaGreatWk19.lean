/- Lists of facts, and strips: names, all, about, bad, of, strip of the program. Boxes of one's own: of, Clone, strip. -/
import Derived.Test.YtmmhnfghklppiaaGreatWk16
namespace Go.Proofs.YtmmhnfghklppiaaGreat.Vm
open Go
set_option linter.unusedSimpArgs false
set_option linter.unusedVariables false
set_option maxHeartbeats 4000000
def rE (f:Fact) (i:Int):Bool:=decide (f.a=i)||(decide (f.b=i)||(decide (f.kind=2)&&decide (f.c=i)))
theorem zvJ:G.shared 126=false:=by decide
theorem e126 (n:Nat) (f:Fact) (i:Int):zK G (n+1) 126 [.agg f.cells,.int .i64 i]=some (.bool (rE f i)):=by
 refine zz (zy _) rfl g126 rfl ?_
 (repeat' first|simp [*,zb,c126,Fact.cells,rE]|(apply za<;>intro _ h<;>try simp [-Nat.le_zero_eq] at h))
 all_goals try (simp_all [rE];done)
def jS (n:Nat):List Int:=(List.range n).map fun (i:Nat)=>(i:Int)
theorem Js (n:Nat):(jS n).length=n:=by simp [jS]
theorem zpJ (n i:Nat) (h:i < (jS n).length):(jS n)[i]=i:=by simp [jS]
theorem ztp:G.shared 105=false:=by decide
theorem e105 (n:Nat) (l:Sl Fact) (hl:l.xs.length < 1000):zK G (n+1) 105 [l.pv Fact.cells 9]=some ((Sl.mk false (jS l.xs.length)).pv aI 1):=by
 refine zz (zy _) rfl g105 rfl ?_
 have hm:l.xs.length*1<=zo/\l.xs.length*8<=zo/\l.xs.length<=zo:=by simp only [zo];omega
 (repeat' first|simp [*,zb,c105]|(apply za<;>intro _ h<;>try simp [-Nat.le_zero_eq] at h))
 refine zL [(4,4),(10,17)] (fun (i:Nat) env H=>env 10=.pure (.int .i64 i)/\i<=l.xs.length/\∃ L:List Int,H.get 0=.cells true (zq aI L)/\L.length=l.xs.length/\Hide (∀ j (h:j < L.length),j < i->L[j]=j)) (fun i=>l.xs.length - i) 0 ?_ ?_ ?_ ?_
 .decide
 .refine ⟨by simp,by omega,List.replicate l.xs.length 0,?_,by simp,⟨fun _ _ h=>by omega⟩⟩
  simp [zq]
 .simp only [zF];omega
 rintro i env H ⟨g0,hi,L,hg,hL,hn⟩
 by_cases aO:i < l.xs.length
 .have w1:IntKind.i64.wrap ((i:Int)+1)=(i+1:Nat):=by rw [wrap64 (by omega) (by omega)];omega
  have yL:i < L.length:=by omega
  have jD:Hide (∀ j (h:j < (L.set i (i:Int)).length),j < i+1->(L.set i (i:Int))[j]=j):=⟨fun j h hj=>by
   rw [List.getElem_set]
   split
   .rename_i e;subst e;rfl
   .exact hn.h j (by simpa using h) (by omega)⟩
  have hp:=H7 (f:=aI) (sz:=1) (l:=L) (a:=(i:Int)) (fun _=>rfl) (fun _=>rfl) (by decide) yL;simp only [Nat.mul_one] at hp;clear hn;(repeat' first|simp [*,zb]|(apply za<;>intro _ h<;>try simp [-Nat.le_zero_eq] at h))
  refine ⟨i+1,by omega,by omega,by omega,L.set i i,zn (zx hg),by simp [hL],jD⟩
 .have aX:i=l.xs.length:=by omega
  subst aX;have hLe:L=jS l.xs.length:=List.ext_getElem (by rw [Js,hL]) fun j h1 h2=>by rw [zpJ,hn.h j h1 (by omega)]
  subst hLe;have h1:=sO (n:=10) (f:=aI) (sz:=1) (fun _=>rfl) hg hL;clear hn;(repeat' first|simp [*,zb]|(apply za<;>intro _ h<;>try simp [-Nat.le_zero_eq] at h));exact h1
def fP (fs:List Fact) (l:List Box):List Int->Int
 | []=>-1
 | i::is=>if zJ fs[i.toNat]! l=true then i else fP fs l is
theorem TR {fs:List Fact} {l:List Box}:∀ {is:List Int},(∀ i∈is,0<=i)->(0<=fP fs l is↔∃ i∈is,zJ fs[i.toNat]! l=true)
 | [],_=>by simp [fP]
 | i::is,h=>by
  rw [fP]
  split
  .rename_i hf;exact ⟨fun _=>⟨i,by simp,hf⟩,fun _=>h i (by simp)⟩
  .rename_i hf;rw [TR (is:=is) fun j hj=>h j (by simp [hj])]
   constructor
   .rintro ⟨j,hj,h2⟩;exact ⟨j,by simp [hj],h2⟩
   .rintro ⟨j,hj,h2⟩;rcases List.mem_cons.1 hj with rfl|hj
    .exact absurd h2 hf
    .exact ⟨j,hj,h2⟩
theorem zgQ {fs:List Fact} {l:List Box}:∀ (is:List Int) (k:Nat),(∀ j (h:j < is.length),j < k->zJ fs[is[j].toNat]! l=false)->fP fs l is=fP fs l (is.drop k)
 | is,0,_=>rfl
 | [],k+1,_=>by simp
 | i::is,k+1,h=>by
  have h0:=h 0 (by simp) (by omega);simp only [List.getElem_cons_zero] at h0;rw [fP,h0,if_neg (by simp),List.drop_succ_cons];exact zgQ is k fun j hj hk=>h (j+1) (by simpa using hj) (by omega)
def zty (fs:List Fact) (l:List Box) (is:List Int) (i:Nat):Prop:=∀ j (h:j < is.length),j < i->zJ fs[is[j].toNat]! l=false
def uX (fs:List Fact) (is:List Int):Prop:=∀ i∈is,0<=i/\i < fs.length
theorem zlz {fs:List Fact} {is:List Int} (h:uX fs is) {j:Nat} (hj:j < is.length):∃ k:Nat,∃ hk:k < fs.length,is[j]=(k:Int)/\fs[is[j].toNat]! = fs[k]:=by
 obtain ⟨h1,h2⟩:=h _ (List.getElem_mem hj);obtain ⟨k,e⟩:=Int.eq_ofNat_of_zero_le h1;have hk:k < fs.length:=by omega
 exact ⟨k,hk,e,by rw [e];simp [hk]⟩
theorem sh74:G.shared 74=false:=by decide
theorem e74 (n:Nat) (fs:Sl Fact) (is:Sl Int) (l:Sl Box) (hi:uX fs.xs is.xs) (hl:is.xs.length < 1000) (hr:∀ f∈fs.xs,ui f l.xs):zK G (n+6) 74 [fs.pv Fact.cells 9,is.pv aI 1,l.pv Box.cells 4]=some (.int .i64 (fP fs.xs l.xs is.xs)):=by
 refine zz (zy _) rfl g74 rfl ?_
 have wB:=Hide.mk fun (f:Fact) (hf:f∈fs.xs) H=>ze (G:=G) (n:=n+5) (H:=H) (caps:=[]) (ps:=[.agg f.cells,l.pv Box.cells 4]) sh60 (e60 n f l (hr f hf));have bH:=Hide.mk hi;clear hr hi;generalize hR:fP fs.xs l.xs is.xs=R;have hR:=Hide.mk hR;(repeat' first|simp [*,zb,c74]|(apply za<;>intro _ h<;>try simp [-Nat.le_zero_eq] at h))
 refine zL [(6,6),(8,8),(11,22)] (fun (i:Nat) env H=>env 11=.pure (.int .i64 i)/\i<=is.xs.length/\Hide (zty fs.xs l.xs is.xs i)) (fun i=>is.xs.length - i) 0 ?_ ?_ ?_ ?_
 .decide
 .exact ⟨by simp,by omega,⟨fun _ _ h=>by omega⟩⟩
 .simp only [zF];omega
 rintro i env H ⟨g0,hi,hn⟩
 by_cases aO:i < is.xs.length
 .have w1:IntKind.i64.wrap ((i:Int)+1)=(i+1:Nat):=by rw [wrap64 (by omega) (by omega)];omega
  obtain ⟨k,hk,e1,e2⟩:=zlz bH.h aO;have hv:=wB.h fs.xs[k] (List.getElem_mem hk);simp only [Fact.cells,List.map] at hv
  cases hf:zJ fs.xs[k] l.xs with
  | true =>
   have OG:R=(k:Int):=by
    rw [<- hR.h,zgQ is.xs i hn.h,List.drop_eq_getElem_cons aO,fP,e2,hf,if_pos rfl,e1]
   rw [hf] at hv;clear hf hn wB bH hR e2;subst OG;simp [*,zb,Fact.cells]
  | false =>
   have jD:Hide (zty fs.xs l.xs is.xs (i+1)):=⟨fun j h hj=>by
    by_cases e:j=i
    .subst e;rw [e2];exact hf
    .exact hn.h j h (by omega)⟩
   rw [hf] at hv;clear hf hn wB bH hR e2;(repeat' first|simp [*,zb,Fact.cells]|(apply za<;>intro _ h<;>try simp [-Nat.le_zero_eq] at h));exact ⟨i+1,by omega,rfl,by omega,jD⟩
 .have aX:i=is.xs.length:=by omega
  subst aX;have OG:R=-1:=by rw [<- hR.h,zgQ is.xs is.xs.length hn.h,List.drop_length];rfl
  subst OG;clear hn wB bH hR;simp [*,zb]
def rT (fs:List Fact) (is:List Int) (i:Int):List Int:=is.filter fun k=>rE fs[k.toNat]! i
theorem znG {fs:List Fact} {is:List Int} {i:Int} {k:Nat} (h:k < is.length):rT fs (is.take (k+1)) i=if rE fs[is[k].toNat]! i=true then rT fs (is.take k) i++[is[k]] else rT fs (is.take k) i:=by
 unfold rT;rw [<- E5 h,List.filter_append];simp only [List.filter_cons,List.filter_nil]
 split<;>simp
theorem ztv:G.shared 106=false:=by decide
theorem e106 (n:Nat) (fs:Sl Fact) (is:Sl Int) (i:Int) (hi:uX fs.xs is.xs) (hl:is.xs.length < 1000):zK G (n+2) 106 [fs.pv Fact.cells 9,is.pv aI 1,.int .i64 i]=some ((Sl.of (rT fs.xs is.xs i)).pv aI 1):=by
 refine zz (zy _) rfl g106 rfl ?_
 have wB:=Hide.mk fun (f:Fact) H=>ze (G:=G) (n:=n+1) (H:=H) (caps:=[]) (ps:=[.agg f.cells,.int .i64 i]) zvJ (e126 n f i);have bH:=Hide.mk hi;clear hi;(repeat' first|simp [*,zb,c106]|(apply za<;>intro _ h<;>try simp [-Nat.le_zero_eq] at h)|(show wpE 0 (zm ..) ..;refine zA ?_)|(refine zt fun v2 H2 fD aY aJ aK aL aM=>?_))
 refine zL [(7,7),(9,9),(12,26)] (fun (k:Nat) env H=>env 12=.pure (.int .i64 k)/\k<=is.xs.length/\aD aI 1 H (env 7) (rT fs.xs (is.xs.take k) i)) (fun k=>is.xs.length - k) 0 ?_ ?_ ?_ ?_
 .decide
 .exact ⟨by simp,by omega,by simpa [rT] using aD.nil⟩
 .simp only [zF];omega
 rintro k env H ⟨g0,hi,vC⟩;generalize g7:env 7=v at *
 by_cases aO:k < is.xs.length
 .have w1:IntKind.i64.wrap ((k:Int)+1)=(k+1:Nat):=by rw [wrap64 (by omega) (by omega)];omega
  obtain ⟨m,hm,e1,e2⟩:=zlz bH.h aO;have hv:=wB.h fs.xs[m];simp only [Fact.cells,List.map] at hv;have fA:=Hide.mk (znG (fs:=fs.xs) (i:=i) aO);have hle:(rT fs.xs (is.xs.take k) i).length < 1000:=by
   have h1:(rT fs.xs (is.xs.take k) i).length<=(is.xs.take k).length:=List.length_filter_le _ _;have h2:(is.xs.take k).length<=is.xs.length:=by rw [List.length_take];omega
   omega
  rw [e2] at fA;generalize hA:rT fs.xs (is.xs.take k) i=A at *
  cases hf:rE fs.xs[m] i with
  | true =>
   have sM:Hide (rT fs.xs (is.xs.take (k+1)) i=A++[(m:Int)]):=⟨by rw [fA.h,hf,if_pos rfl,e1]⟩
   rw [hf] at hv;clear hf wB bH e2 hA fA;(repeat' first|simp [*,zb,Fact.cells]|(apply za<;>intro _ h<;>try simp [-Nat.le_zero_eq] at h)|(show wpE 0 (zm ..) ..;refine zA ?_)|(refine zt fun v2 H2 fD aY aJ aK aL aM=>?_));exact ⟨k+1,by omega,by omega,by omega,fD.cast sM.h.symm⟩
  | false =>
   have sM:Hide (rT fs.xs (is.xs.take (k+1)) i=A):=⟨by rw [fA.h,hf,if_neg (by simp)]⟩
   rw [hf] at hv;clear hf wB bH e2 hA fA;(repeat' first|simp [*,zb,Fact.cells]|(apply za<;>intro _ h<;>try simp [-Nat.le_zero_eq] at h)|(show wpE 0 (zm ..) ..;refine zA ?_)|(refine zt fun v2 H2 fD aY aJ aK aL aM=>?_));exact ⟨k+1,by omega,by omega,by omega,vC.cast sM.h.symm⟩
 .have aX:k=is.xs.length:=by omega
  subst aX;rw [List.take_length] at vC;have h1:=vC.res (n:=10) (fun _=>rfl);clear wB bH;(repeat' first|simp [*,zb]|(apply za<;>intro _ h<;>try simp [-Nat.le_zero_eq] at h)|(show wpE 0 (zm ..) ..;refine zA ?_)|(refine zt fun v2 H2 fD aY aJ aK aL aM=>?_));exact h1
def Kz (v:AV):Option Eff:=match isNil .pointer v,isNil .func v with
  | some false,_|_,some false=>some (.val v)
  | _,_=>none
@[simp] theorem zk {cl:Callee} {env:Env} {H:Heap} (x:aa):step cl env H (.nilCheck x)=Kz (x.eval env):=by
 simp only [step,Kz];rfl
@[simp] theorem zvd (id off:Nat):Kz (.box id off)=some (.val (.box id off)):=rfl
@[simp] theorem zvu (h:Bool) (cs:List PV) (off:Nat):Kz (.pure (.ptr h cs off))=some (.val (.pure (.ptr h cs off))):=rfl
theorem ztM:G.shared 76=true:=by decide
theorem Et (n:Nat) (H:Heap) (id off:Nat) (a:Int):zH (zu G (n+1)) H (.pure (.func 76 [])) [.box id off,.pure (.int .i64 a)]=some (.upd (.box id (off+if a=0 then 0 else 2)) H):=by
 have h:∃ v H',Vm.call G (n+1) (.fn 76) [.box id off,.pure (.int .i64 a)] H=some (v,H')/\(v=.box id (off+if a=0 then 0 else 2)/\H'=H):=by
  refine Jl (k:=fun v H'=>v=.box id (off+if a=0 then 0 else 2)/\H'=H) rfl g76 rfl ?_
  by_cases ha:a=0
  .simp [*,zb,c76]
  .simp [*,zb,c76]
 obtain ⟨v,H',h1,rfl,rfl⟩:=h;have h2:(zu G (n+1)).shared 76=true:=ztM;have h3:(zu G (n+1)).run 76 [.box id off,.pure (.int .i64 a)] H'=some (.box id (off+if a=0 then 0 else 2),H'):=h1;simp only [zH,List.map_nil,List.append_nil,h2,if_true,h3]
theorem zg7:G.shared 79=true:=by decide
theorem Ff {n:Nat} {H:Heap} {s:Sl Box} {k:AV->Heap->Prop} {u} (hl:s.xs.length < 1000)
  (hk:∀ v' H',bL Box.cells 4 H' v' s.xs->isNil .slice v'=some s.isNil->H.nx<=H'.nx->(∀ id,id < H.nx->H'.get id=H.get id)->(∀ id,Names v' id->H.nx<=id)->k v' H') :
  wpE 0 (zH (zu G (n+1)) H (.pure (.func 79 [])) [.pure (s.pv Box.cells 4)]) H k u:=by
 refine QF zg7 ?_
 refine ziG (f:=Box.cells) (sz:=4) (bytes:=32) (l:=s.xs) (b:=s.isNil) (fun _=>rfl) g79 ?_ ?_ (fun h=>?_) (fun _=>rfl) (by decide) (fun _=>rfl) ?_ hk
 .exact Kr (f:=Box.cells) (sz:=4) (fun _=>rfl) _
 .simp
 .cases s with
  | nil=>rfl
  | mk h l=>simp [Sl.isNil] at h
 .simp only [zo];omega
theorem MR {α:Type} {f:α->List PV} {sz:Nat} {l:List α} {i off size:Nat} {vs:List PV} {b:α} (hf:∀ a,(f a).length=sz) (bG:vs.all PV.one=true) (h0:size≠0) (h:i < l.length) (ho:off+size<=sz) (hl:vs.length=size)
  (hb:f b=(f l[i]).take off++vs++(f l[i]).drop (off+size)):uQ (.cells true (zq f l)) size (i*sz+off) (vs.map .pure)=some (.cells true (zq f (l.set i b))):=by
 simp only [uQ];have hle:i*sz+sz<=(zq f l).length:=by
  rw [BB hf,<- Nat.succ_mul];exact Nat.mul_le_mul_right sz h
 rw [if_pos ⟨by rw [List.length_map,hl],h0,Tm _ bG,by omega⟩,<- zjC hf h b,hb];obtain ⟨p,q,h1,h2⟩:=ZQ hf h;have hX:((f l[i]).map AV.pure).length=sz:=by rw [List.length_map,hf]
 rw [h1,<- h2,List.append_assoc,List.append_assoc];have e1:(p++((f l[i]).map AV.pure++q)).take (p.length+off)=p++((f l[i]).map AV.pure).take off:=by
  rw [List.take_length_add_append,List.take_append_of_le_length (by omega)]
 have e2:(p++((f l[i]).map AV.pure++q)).drop (p.length+off+size)=((f l[i]).map AV.pure).drop (off+size)++q:=by
  rw [Nat.add_assoc,List.drop_length_add_append,List.drop_append_of_le_length (by omega)]
 have e3:(p++((f l[i]).map AV.pure++q)).take p.length=p:=by
  simp
 have e4:(p++((f l[i]).map AV.pure++q)).drop (p.length+sz)=q:=by
  rw [List.drop_length_add_append,<- hX,List.drop_left]
 rw [e1,e2,e3,e4];simp [List.map_append,List.map_take,List.map_drop,List.append_assoc]
theorem TS {l:List Box} {i:Nat} (h:i < l.length) (v:Int):uQ (.cells true (zq Box.cells l)) 1 (i*4) [.pure (.int .i64 v)]=some (.cells true (zq Box.cells (l.set i ⟨⟨v,l[i].x.hi⟩,l[i].y⟩))) :=
 MR (off:=0) (f:=Box.cells) (sz:=4) (vs:=[.int .i64 v]) (b:=⟨⟨v,l[i].x.hi⟩,l[i].y⟩) (fun _=>rfl) rfl (by decide) h (by decide) rfl rfl
theorem TT {l:List Box} {i:Nat} (h:i < l.length) (v:Int):uQ (.cells true (zq Box.cells l)) 1 (i*4+1) [.pure (.int .i64 v)]=some (.cells true (zq Box.cells (l.set i ⟨⟨l[i].x.lo,v⟩,l[i].y⟩))) :=
 MR (off:=1) (f:=Box.cells) (sz:=4) (vs:=[.int .i64 v]) (b:=⟨⟨l[i].x.lo,v⟩,l[i].y⟩) (fun _=>rfl) rfl (by decide) h (by decide) rfl rfl
theorem TU {l:List Box} {i:Nat} (h:i < l.length) (v:Int):uQ (.cells true (zq Box.cells l)) 1 (i*4+2) [.pure (.int .i64 v)]=some (.cells true (zq Box.cells (l.set i ⟨l[i].x,⟨v,l[i].y.hi⟩⟩))) :=
 MR (off:=2) (f:=Box.cells) (sz:=4) (vs:=[.int .i64 v]) (b:=⟨l[i].x,⟨v,l[i].y.hi⟩⟩) (fun _=>rfl) rfl (by decide) h (by decide) rfl rfl
theorem TV {l:List Box} {i:Nat} (h:i < l.length) (v:Int):uQ (.cells true (zq Box.cells l)) 1 (i*4+3) [.pure (.int .i64 v)]=some (.cells true (zq Box.cells (l.set i ⟨l[i].x,⟨l[i].y.lo,v⟩⟩))) :=
 MR (off:=3) (f:=Box.cells) (sz:=4) (vs:=[.int .i64 v]) (b:=⟨l[i].x,⟨l[i].y.lo,v⟩⟩) (fun _=>rfl) rfl (by decide) h (by decide) rfl rfl
structure Side where
 point:Int
 jT:Int
 high:Bool
 deriving Inhabited
@[simp] def Side.cells (s:Side):List PV:=[.int .i64 s.point,.int .i64 s.jT,.bool s.high]
@[simp] theorem Side.eta (s:Side):(⟨s.point,s.jT,s.high⟩:Side)=s:=rfl
def Eu (i k:Nat):Side:=⟨i,(k / 2:Nat),decide (k % 2=1)⟩
theorem zvx:G.shared 107=false:=by decide
theorem e107 (n:Nat) (l:Sl Box) (i k:Nat) (hi:i < l.xs.length) (hk:k < 4) (hl:l.xs.length < 1000):zK G (n+2) 107 [l.pv Box.cells 4,.agg (Eu i k).cells]=some ((Sl.mk false (jW l.xs i k)).pv Box.cells 4):=by
 refine zz (zy _) rfl g107 rfl ?_
 have ho:=Et n;have fA:=Hide.mk (CR hi k);have nW:k=0\/k=1\/k=2\/k=3:=by omega
 have p1:=TS hi;have p2:=TT hi;have p3:=TU hi;have p4:=TV hi;have q3:=zC (own:=true) (f:=Box.cells) (sz:=4) (l:=l.xs) (i:=i) (size:=1) (off:=3) (fun _=>rfl) hi (by decide);have e3:i*4+2+1=i*4+3:=rfl;have hlen:∀ b,(l.xs.set i b).length=l.xs.length:=fun b=>by simp
 rcases nW with rfl|rfl|rfl|rfl
 ·(repeat' first|simp [*,zb,c107,Eu,Side.cells]|(apply za<;>intro _ h<;>try simp [-Nat.le_zero_eq] at h))
  refine Ff hl ?_
  intro v' H' hv hn bX ah aR;obtain ⟨id,rfl,hg⟩:=hv.row (by intro e;rw [e] at hi;simp at hi);have au:=zx hg;clear hv hn ah aR;have bA:=fun (H2:Heap) b (uR:H2.get id=.cells true (zq Box.cells (l.xs.set i b)))=>sO (n:=10) (f:=Box.cells) (sz:=4) (fun _=>rfl) uR (hlen b);have bA:=Hide.mk bA;(repeat' first|simp [*,zb]|(apply za<;>intro _ h<;>try simp [-Nat.le_zero_eq] at h));rw [fA.h];exact bA.h _ _ (zn au)
 ·(repeat' first|simp [*,zb,c107,Eu,Side.cells]|(apply za<;>intro _ h<;>try simp [-Nat.le_zero_eq] at h))
  refine Ff hl ?_
  intro v' H' hv hn bX ah aR;obtain ⟨id,rfl,hg⟩:=hv.row (by intro e;rw [e] at hi;simp at hi);have au:=zx hg;clear hv hn ah aR;have bA:=fun (H2:Heap) b (uR:H2.get id=.cells true (zq Box.cells (l.xs.set i b)))=>sO (n:=10) (f:=Box.cells) (sz:=4) (fun _=>rfl) uR (hlen b);have bA:=Hide.mk bA;(repeat' first|simp [*,zb]|(apply za<;>intro _ h<;>try simp [-Nat.le_zero_eq] at h));rw [fA.h];exact bA.h _ _ (zn au)
 ·(repeat' first|simp [*,zb,c107,Eu,Side.cells]|(apply za<;>intro _ h<;>try simp [-Nat.le_zero_eq] at h))
  refine Ff hl ?_
  intro v' H' hv hn bX ah aR;obtain ⟨id,rfl,hg⟩:=hv.row (by intro e;rw [e] at hi;simp at hi);have au:=zx hg;clear hv hn ah aR;have bA:=fun (H2:Heap) b (uR:H2.get id=.cells true (zq Box.cells (l.xs.set i b)))=>sO (n:=10) (f:=Box.cells) (sz:=4) (fun _=>rfl) uR (hlen b);have bA:=Hide.mk bA;(repeat' first|simp [*,zb]|(apply za<;>intro _ h<;>try simp [-Nat.le_zero_eq] at h));rw [fA.h];exact bA.h _ _ (zn au)
 ·(repeat' first|simp [*,zb,c107,Eu,Side.cells]|(apply za<;>intro _ h<;>try simp [-Nat.le_zero_eq] at h))
  refine Ff hl ?_
  intro v' H' hv hn bX ah aR;obtain ⟨id,rfl,hg⟩:=hv.row (by intro e;rw [e] at hi;simp at hi);have au:=zx hg;clear hv hn ah aR;have bA:=fun (H2:Heap) b (uR:H2.get id=.cells true (zq Box.cells (l.xs.set i b)))=>sO (n:=10) (f:=Box.cells) (sz:=4) (fun _=>rfl) uR (hlen b);have bA:=Hide.mk bA;(repeat' first|simp [*,zb]|(apply za<;>intro _ h<;>try simp [-Nat.le_zero_eq] at h));rw [fA.h];exact bA.h _ _ (zn au)
end Go.Proofs.YtmmhnfghklppiaaGreat.Vm
