/- Lists of facts, and strips: names, all, about, bad, of, strip of the program. Boxes of one's own: of, Clone, strip. -/
import Derived.Test.YtmmhnfghklppiaaGreatVk16
namespace Go.Proofs.YtmmhnfghklppiaaGreat.Vm
open Go
set_option linter.unusedSimpArgs false
set_option linter.unusedVariables false
set_option maxHeartbeats 4000000
def o8 (f:Fact) (i:Int):Bool:=decide (f.a=i)||(decide (f.b=i)||(decide (f.kind=2)&&decide (f.c=i)))
theorem zug:G.shared 126=false:=by decide
theorem e126 (n:Nat) (f:Fact) (i:Int):zF G (n+1) 126 [.agg f.cells,.int .i64 i]=some (.bool (o8 f i)):=by
 refine zx (zw _) rfl g126 rfl ?_
 (repeat' first|simp [*,za,c126,Fact.cells,o8]|(apply zb<;>intro _ h<;>try simp [-Nat.le_zero_eq] at h))
 all_goals try (simp_all [o8];done)
def jb (n:Nat):List Int:=(List.range n).map fun (i:Nat)=>(i:Int)
theorem Gx (n:Nat):(jb n).length=n:=by simp [jb]
theorem zoU (n i:Nat) (h:i < (jb n).length):(jb n)[i]=i:=by simp [jb]
theorem zsO:G.shared 105=false:=by decide
theorem e105 (n:Nat) (l:Sl Fact) (hl:l.xs.length < 1000):zF G (n+1) 105 [l.pv Fact.cells 9]=some ((Sl.mk false (jb l.xs.length)).pv aD 1):=by
 refine zx (zw _) rfl g105 rfl ?_
 have hm:l.xs.length*1<=zl/\l.xs.length*8<=zl/\l.xs.length<=zl:=by simp only [zl];omega
 (repeat' first|simp [*,za,c105]|(apply zb<;>intro _ h<;>try simp [-Nat.le_zero_eq] at h))
 refine zN [(4,4),(10,17)] (fun (i:Nat) env H=>env 10=.pure (.int .i64 i)/\i<=l.xs.length/\∃ L:List Int,H.get 0=.cells true (zm aD L)/\L.length=l.xs.length/\Hide (∀ j (h:j < L.length),j < i->L[j]=j)) (fun i=>l.xs.length - i) 0 ?_ ?_ ?_ ?_
 .decide
 .refine ⟨by simp,by omega,List.replicate l.xs.length 0,?_,by simp,⟨fun _ _ h=>by omega⟩⟩
  simp [zm]
 .simp only [zI];omega
 rintro i env H ⟨g0,hi,L,hg,hL,hn⟩
 by_cases aK:i < l.xs.length
 .have w1:IntKind.i64.wrap ((i:Int)+1)=(i+1:Nat):=by rw [wrap64 (by omega) (by omega)];omega
  have vZ:i < L.length:=by omega
  have jh:Hide (∀ j (h:j < (L.set i (i:Int)).length),j < i+1->(L.set i (i:Int))[j]=j):=⟨fun j h hj=>by
   rw [List.getElem_set]
   split
   .rename_i e;subst e;rfl
   .exact hn.h j (by simpa using h) (by omega)⟩
  have hp:=Ia (f:=aD) (sz:=1) (l:=L) (a:=(i:Int)) (fun _=>rfl) (fun _=>rfl) (by decide) vZ;simp only [Nat.mul_one] at hp;clear hn;(repeat' first|simp [*,za]|(apply zb<;>intro _ h<;>try simp [-Nat.le_zero_eq] at h))
  refine ⟨i+1,by omega,by omega,by omega,L.set i i,zo (zu hg),by simp [hL],jh⟩
 .have aU:i=l.xs.length:=by omega
  subst aU;have hLe:L=jb l.xs.length:=List.ext_getElem (by rw [Gx,hL]) fun j h1 h2=>by rw [zoU,hn.h j h1 (by omega)]
  subst hLe;have h1:=xY (n:=10) (f:=aD) (sz:=1) (fun _=>rfl) hg hL;clear hn;(repeat' first|simp [*,za]|(apply zb<;>intro _ h<;>try simp [-Nat.le_zero_eq] at h));exact h1
def bR (fs:List Fact) (l:List Box):List Int->Int
 | []=>-1
 | i::is=>if zJ fs[i.toNat]! l=true then i else bR fs l is
theorem QR {fs:List Fact} {l:List Box}:∀ {is:List Int},(∀ i∈is,0<=i)->(0<=bR fs l is↔∃ i∈is,zJ fs[i.toNat]! l=true)
 | [],_=>by simp [bR]
 | i::is,h=>by
  rw [bR]
  split
  .rename_i hf;exact ⟨fun _=>⟨i,by simp,hf⟩,fun _=>h i (by simp)⟩
  .rename_i hf;rw [QR (is:=is) fun j hj=>h j (by simp [hj])]
   constructor
   .rintro ⟨j,hj,h2⟩;exact ⟨j,by simp [hj],h2⟩
   .rintro ⟨j,hj,h2⟩;rcases List.mem_cons.1 hj with rfl|hj
    .exact absurd h2 hf
    .exact ⟨j,hj,h2⟩
theorem YA {fs:List Fact} {l:List Box}:∀ (is:List Int) (k:Nat),(∀ j (h:j < is.length),j < k->zJ fs[is[j].toNat]! l=false)->bR fs l is=bR fs l (is.drop k)
 | is,0,_=>rfl
 | [],k+1,_=>by simp
 | i::is,k+1,h=>by
  have h0:=h 0 (by simp) (by omega);simp only [List.getElem_cons_zero] at h0;rw [bR,h0,if_neg (by simp),List.drop_succ_cons];exact YA is k fun j hj hk=>h (j+1) (by simpa using hj) (by omega)
def zsU (fs:List Fact) (l:List Box) (is:List Int) (i:Nat):Prop:=∀ j (h:j < is.length),j < i->zJ fs[is[j].toNat]! l=false
def rY (fs:List Fact) (is:List Int):Prop:=∀ i∈is,0<=i/\i < fs.length
theorem zk4 {fs:List Fact} {is:List Int} (h:rY fs is) {j:Nat} (hj:j < is.length):∃ k:Nat,∃ hk:k < fs.length,is[j]=(k:Int)/\fs[is[j].toNat]! = fs[k]:=by
 obtain ⟨h1,h2⟩:=h _ (List.getElem_mem hj);obtain ⟨k,e⟩:=Int.eq_ofNat_of_zero_le h1;have hk:k < fs.length:=by omega
 exact ⟨k,hk,e,by rw [e];simp [hk]⟩
theorem sh74:G.shared 74=false:=by decide
theorem e74 (n:Nat) (fs:Sl Fact) (is:Sl Int) (l:Sl Box) (hi:rY fs.xs is.xs) (hl:is.xs.length < 1000) (hr:∀ f∈fs.xs,rq f l.xs):zF G (n+6) 74 [fs.pv Fact.cells 9,is.pv aD 1,l.pv Box.cells 4]=some (.int .i64 (bR fs.xs l.xs is.xs)):=by
 refine zx (zw _) rfl g74 rfl ?_
 have Ih:=Hide.mk fun (f:Fact) (hf:f∈fs.xs) H=>zg (G:=G) (n:=n+5) (H:=H) (caps:=[]) (ps:=[.agg f.cells,l.pv Box.cells 4]) sh60 (e60 n f l (hr f hf));have bG:=Hide.mk hi;clear hr hi;generalize hR:bR fs.xs l.xs is.xs=R;have hR:=Hide.mk hR;(repeat' first|simp [*,za,c74]|(apply zb<;>intro _ h<;>try simp [-Nat.le_zero_eq] at h))
 refine zN [(6,6),(8,8),(11,22)] (fun (i:Nat) env H=>env 11=.pure (.int .i64 i)/\i<=is.xs.length/\Hide (zsU fs.xs l.xs is.xs i)) (fun i=>is.xs.length - i) 0 ?_ ?_ ?_ ?_
 .decide
 .exact ⟨by simp,by omega,⟨fun _ _ h=>by omega⟩⟩
 .simp only [zI];omega
 rintro i env H ⟨g0,hi,hn⟩
 by_cases aK:i < is.xs.length
 .have w1:IntKind.i64.wrap ((i:Int)+1)=(i+1:Nat):=by rw [wrap64 (by omega) (by omega)];omega
  obtain ⟨k,hk,e1,e2⟩:=zk4 bG.h aK;have hv:=Ih.h fs.xs[k] (List.getElem_mem hk);simp only [Fact.cells,List.map] at hv
  cases hf:zJ fs.xs[k] l.xs with
  | true =>
   have LY:R=(k:Int):=by
    rw [<- hR.h,YA is.xs i hn.h,List.drop_eq_getElem_cons aK,bR,e2,hf,if_pos rfl,e1]
   rw [hf] at hv;clear hf hn Ih bG hR e2;subst LY;simp [*,za,Fact.cells]
  | false =>
   have jh:Hide (zsU fs.xs l.xs is.xs (i+1)):=⟨fun j h hj=>by
    by_cases e:j=i
    .subst e;rw [e2];exact hf
    .exact hn.h j h (by omega)⟩
   rw [hf] at hv;clear hf hn Ih bG hR e2;(repeat' first|simp [*,za,Fact.cells]|(apply zb<;>intro _ h<;>try simp [-Nat.le_zero_eq] at h));exact ⟨i+1,by omega,rfl,by omega,jh⟩
 .have aU:i=is.xs.length:=by omega
  subst aU;have LY:R=-1:=by rw [<- hR.h,YA is.xs is.xs.length hn.h,List.drop_length];rfl
  subst LY;clear hn Ih bG hR;simp [*,za]
def pQ (fs:List Fact) (is:List Int) (i:Int):List Int:=is.filter fun k=>o8 fs[k.toNat]! i
theorem zmC {fs:List Fact} {is:List Int} {i:Int} {k:Nat} (h:k < is.length):pQ fs (is.take (k+1)) i=if o8 fs[is[k].toNat]! i=true then pQ fs (is.take k) i++[is[k]] else pQ fs (is.take k) i:=by
 unfold pQ;rw [<- Gn h,List.filter_append];simp only [List.filter_cons,List.filter_nil]
 split<;>simp
theorem zsN:G.shared 106=false:=by decide
theorem e106 (n:Nat) (fs:Sl Fact) (is:Sl Int) (i:Int) (hi:rY fs.xs is.xs) (hl:is.xs.length < 1000):zF G (n+2) 106 [fs.pv Fact.cells 9,is.pv aD 1,.int .i64 i]=some ((Sl.of (pQ fs.xs is.xs i)).pv aD 1):=by
 refine zx (zw _) rfl g106 rfl ?_
 have Ih:=Hide.mk fun (f:Fact) H=>zg (G:=G) (n:=n+1) (H:=H) (caps:=[]) (ps:=[.agg f.cells,.int .i64 i]) zug (e126 n f i);have bG:=Hide.mk hi;clear hi;(repeat' first|simp [*,za,c106]|(apply zb<;>intro _ h<;>try simp [-Nat.le_zero_eq] at h)|(show wpE 0 (zk ..) ..;refine zA ?_)|(refine zq fun v2 H2 fQ aT aF aG aH aI=>?_))
 refine zN [(7,7),(9,9),(12,26)] (fun (k:Nat) env H=>env 12=.pure (.int .i64 k)/\k<=is.xs.length/\aC aD 1 H (env 7) (pQ fs.xs (is.xs.take k) i)) (fun k=>is.xs.length - k) 0 ?_ ?_ ?_ ?_
 .decide
 .exact ⟨by simp,by omega,by simpa [pQ] using aC.nil⟩
 .simp only [zI];omega
 rintro k env H ⟨g0,hi,NP⟩;generalize g7:env 7=v at *
 by_cases aK:k < is.xs.length
 .have w1:IntKind.i64.wrap ((k:Int)+1)=(k+1:Nat):=by rw [wrap64 (by omega) (by omega)];omega
  obtain ⟨m,hm,e1,e2⟩:=zk4 bG.h aK;have hv:=Ih.h fs.xs[m];simp only [Fact.cells,List.map] at hv;have fF:=Hide.mk (zmC (fs:=fs.xs) (i:=i) aK);have hle:(pQ fs.xs (is.xs.take k) i).length < 1000:=by
   have h1:(pQ fs.xs (is.xs.take k) i).length<=(is.xs.take k).length:=List.length_filter_le _ _;have h2:(is.xs.take k).length<=is.xs.length:=by rw [List.length_take];omega
   omega
  rw [e2] at fF;generalize hA:pQ fs.xs (is.xs.take k) i=A at *
  cases hf:o8 fs.xs[m] i with
  | true =>
   have qx:Hide (pQ fs.xs (is.xs.take (k+1)) i=A++[(m:Int)]):=⟨by rw [fF.h,hf,if_pos rfl,e1]⟩
   rw [hf] at hv;clear hf Ih bG e2 hA fF;(repeat' first|simp [*,za,Fact.cells]|(apply zb<;>intro _ h<;>try simp [-Nat.le_zero_eq] at h)|(show wpE 0 (zk ..) ..;refine zA ?_)|(refine zq fun v2 H2 fQ aT aF aG aH aI=>?_));exact ⟨k+1,by omega,by omega,by omega,fQ.cast qx.h.symm⟩
  | false =>
   have qx:Hide (pQ fs.xs (is.xs.take (k+1)) i=A):=⟨by rw [fF.h,hf,if_neg (by simp)]⟩
   rw [hf] at hv;clear hf Ih bG e2 hA fF;(repeat' first|simp [*,za,Fact.cells]|(apply zb<;>intro _ h<;>try simp [-Nat.le_zero_eq] at h)|(show wpE 0 (zk ..) ..;refine zA ?_)|(refine zq fun v2 H2 fQ aT aF aG aH aI=>?_));exact ⟨k+1,by omega,by omega,by omega,NP.cast qx.h.symm⟩
 .have aU:k=is.xs.length:=by omega
  subst aU;rw [List.take_length] at NP;have h1:=NP.res (n:=10) (fun _=>rfl);clear Ih bG;(repeat' first|simp [*,za]|(apply zb<;>intro _ h<;>try simp [-Nat.le_zero_eq] at h)|(show wpE 0 (zk ..) ..;refine zA ?_)|(refine zq fun v2 H2 fQ aT aF aG aH aI=>?_));exact h1
def Ii (v:AV):Option Eff:=match isNil .pointer v,isNil .func v with
  | some false,_|_,some false=>some (.val v)
  | _,_=>none
@[simp] theorem Gy {cl:Callee} {env:Env} {H:Heap} (x:aa):step cl env H (.nilCheck x)=Ii (x.eval env):=by
 simp only [step,Ii];rfl
@[simp] theorem zuO (id off:Nat):Ii (.box id off)=some (.val (.box id off)):=rfl
@[simp] theorem zuW (h:Bool) (cs:List PV) (off:Nat):Ii (.pure (.ptr h cs off))=some (.val (.pure (.ptr h cs off))):=rfl
theorem zsJ:G.shared 76=true:=by decide
theorem CY (n:Nat) (H:Heap) (id off:Nat) (a:Int):zD (zn G (n+1)) H (.pure (.func 76 [])) [.box id off,.pure (.int .i64 a)]=some (.upd (.box id (off+if a=0 then 0 else 2)) H):=by
 have h:∃ v H',Vm.call G (n+1) (.fn 76) [.box id off,.pure (.int .i64 a)] H=some (v,H')/\(v=.box id (off+if a=0 then 0 else 2)/\H'=H):=by
  refine Gq (k:=fun v H'=>v=.box id (off+if a=0 then 0 else 2)/\H'=H) rfl g76 rfl ?_
  by_cases ha:a=0
  .simp [*,za,c76]
  .simp [*,za,c76]
 obtain ⟨v,H',h1,rfl,rfl⟩:=h;have h2:(zn G (n+1)).shared 76=true:=zsJ;have h3:(zn G (n+1)).run 76 [.box id off,.pure (.int .i64 a)] H'=some (.box id (off+if a=0 then 0 else 2),H'):=h1;simp only [zD,List.map_nil,List.append_nil,h2,if_true,h3]
theorem YB:G.shared 79=true:=by decide
theorem Ij {n:Nat} {H:Heap} {s:Sl Box} {k:AV->Heap->Prop} {u} (hl:s.xs.length < 1000)
  (hk:∀ v' H',aZ Box.cells 4 H' v' s.xs->isNil .slice v'=some s.isNil->H.nx<=H'.nx->(∀ id,id < H.nx->H'.get id=H.get id)->(∀ id,Names v' id->H.nx<=id)->k v' H') :
  wpE 0 (zD (zn G (n+1)) H (.pure (.func 79 [])) [.pure (s.pv Box.cells 4)]) H k u:=by
 refine Ol YB ?_
 refine XY (f:=Box.cells) (sz:=4) (bytes:=32) (l:=s.xs) (b:=s.isNil) (fun _=>rfl) g79 ?_ ?_ (fun h=>?_) (fun _=>rfl) (by decide) (fun _=>rfl) ?_ hk
 .exact LQ (f:=Box.cells) (sz:=4) (fun _=>rfl) _
 .simp
 .cases s with
  | nil=>rfl
  | mk h l=>simp [Sl.isNil] at h
 .simp only [zl];omega
theorem J2 {α:Type} {f:α->List PV} {sz:Nat} {l:List α} {i off size:Nat} {vs:List PV} {b:α} (hf:∀ a,(f a).length=sz) (bu:vs.all PV.one=true) (h0:size≠0) (h:i < l.length) (ho:off+size<=sz) (hl:vs.length=size)
  (hb:f b=(f l[i]).take off++vs++(f l[i]).drop (off+size)):rQ (.cells true (zm f l)) size (i*sz+off) (vs.map .pure)=some (.cells true (zm f (l.set i b))):=by
 simp only [rQ];have hle:i*sz+sz<=(zm f l).length:=by
  rw [xX hf,<- Nat.succ_mul];exact Nat.mul_le_mul_right sz h
 rw [if_pos ⟨by rw [List.length_map,hl],h0,Qw _ bu,by omega⟩,<- zjn hf h b,hb];obtain ⟨p,q,h1,h2⟩:=XO hf h;have hX:((f l[i]).map AV.pure).length=sz:=by rw [List.length_map,hf]
 rw [h1,<- h2,List.append_assoc,List.append_assoc];have e1:(p++((f l[i]).map AV.pure++q)).take (p.length+off)=p++((f l[i]).map AV.pure).take off:=by
  rw [List.take_length_add_append,List.take_append_of_le_length (by omega)]
 have e2:(p++((f l[i]).map AV.pure++q)).drop (p.length+off+size)=((f l[i]).map AV.pure).drop (off+size)++q:=by
  rw [Nat.add_assoc,List.drop_length_add_append,List.drop_append_of_le_length (by omega)]
 have e3:(p++((f l[i]).map AV.pure++q)).take p.length=p:=by
  simp
 have e4:(p++((f l[i]).map AV.pure++q)).drop (p.length+sz)=q:=by
  rw [List.drop_length_add_append,<- hX,List.drop_left]
 rw [e1,e2,e3,e4];simp [List.map_append,List.map_take,List.map_drop,List.append_assoc]
theorem YC {l:List Box} {i:Nat} (h:i < l.length) (v:Int):rQ (.cells true (zm Box.cells l)) 1 (i*4) [.pure (.int .i64 v)]=some (.cells true (zm Box.cells (l.set i ⟨⟨v,l[i].x.hi⟩,l[i].y⟩))) :=
 J2 (off:=0) (f:=Box.cells) (sz:=4) (vs:=[.int .i64 v]) (b:=⟨⟨v,l[i].x.hi⟩,l[i].y⟩) (fun _=>rfl) rfl (by decide) h (by decide) rfl rfl
theorem YD {l:List Box} {i:Nat} (h:i < l.length) (v:Int):rQ (.cells true (zm Box.cells l)) 1 (i*4+1) [.pure (.int .i64 v)]=some (.cells true (zm Box.cells (l.set i ⟨⟨l[i].x.lo,v⟩,l[i].y⟩))) :=
 J2 (off:=1) (f:=Box.cells) (sz:=4) (vs:=[.int .i64 v]) (b:=⟨⟨l[i].x.lo,v⟩,l[i].y⟩) (fun _=>rfl) rfl (by decide) h (by decide) rfl rfl
theorem YE {l:List Box} {i:Nat} (h:i < l.length) (v:Int):rQ (.cells true (zm Box.cells l)) 1 (i*4+2) [.pure (.int .i64 v)]=some (.cells true (zm Box.cells (l.set i ⟨l[i].x,⟨v,l[i].y.hi⟩⟩))) :=
 J2 (off:=2) (f:=Box.cells) (sz:=4) (vs:=[.int .i64 v]) (b:=⟨l[i].x,⟨v,l[i].y.hi⟩⟩) (fun _=>rfl) rfl (by decide) h (by decide) rfl rfl
theorem YF {l:List Box} {i:Nat} (h:i < l.length) (v:Int):rQ (.cells true (zm Box.cells l)) 1 (i*4+3) [.pure (.int .i64 v)]=some (.cells true (zm Box.cells (l.set i ⟨l[i].x,⟨l[i].y.lo,v⟩⟩))) :=
 J2 (off:=3) (f:=Box.cells) (sz:=4) (vs:=[.int .i64 v]) (b:=⟨l[i].x,⟨l[i].y.lo,v⟩⟩) (fun _=>rfl) rfl (by decide) h (by decide) rfl rfl
structure Side where
 point:Int
 jd:Int
 high:Bool
 deriving Inhabited
@[simp] def Side.cells (s:Side):List PV:=[.int .i64 s.point,.int .i64 s.jd,.bool s.high]
@[simp] theorem Side.eta (s:Side):(⟨s.point,s.jd,s.high⟩:Side)=s:=rfl
def BR (i k:Nat):Side:=⟨i,(k / 2:Nat),decide (k % 2=1)⟩
theorem zvc:G.shared 107=false:=by decide
theorem e107 (n:Nat) (l:Sl Box) (i k:Nat) (hi:i < l.xs.length) (hk:k < 4) (hl:l.xs.length < 1000):zF G (n+2) 107 [l.pv Box.cells 4,.agg (BR i k).cells]=some ((Sl.mk false (zV l.xs i k)).pv Box.cells 4):=by
 refine zx (zw _) rfl g107 rfl ?_
 have ho:=CY n;have fF:=Hide.mk (Aj hi k);have uz:k=0\/k=1\/k=2\/k=3:=by omega
 have p1:=YC hi;have p2:=YD hi;have p3:=YE hi;have p4:=YF hi;have q3:=zz (own:=true) (f:=Box.cells) (sz:=4) (l:=l.xs) (i:=i) (size:=1) (off:=3) (fun _=>rfl) hi (by decide);have e3:i*4+2+1=i*4+3:=rfl;have hlen:∀ b,(l.xs.set i b).length=l.xs.length:=fun b=>by simp
 rcases uz with rfl|rfl|rfl|rfl
 ·(repeat' first|simp [*,za,c107,BR,Side.cells]|(apply zb<;>intro _ h<;>try simp [-Nat.le_zero_eq] at h))
  refine Ij hl ?_
  intro v' H' hv hn fD ag aW;obtain ⟨id,rfl,hg⟩:=hv.row (by intro e;rw [e] at hi;simp at hi);have aj:=zu hg;clear hv hn ag aW;have aY:=fun (H2:Heap) b (rR:H2.get id=.cells true (zm Box.cells (l.xs.set i b)))=>xY (n:=10) (f:=Box.cells) (sz:=4) (fun _=>rfl) rR (hlen b);have aY:=Hide.mk aY;(repeat' first|simp [*,za]|(apply zb<;>intro _ h<;>try simp [-Nat.le_zero_eq] at h));rw [fF.h];exact aY.h _ _ (zo aj)
 ·(repeat' first|simp [*,za,c107,BR,Side.cells]|(apply zb<;>intro _ h<;>try simp [-Nat.le_zero_eq] at h))
  refine Ij hl ?_
  intro v' H' hv hn fD ag aW;obtain ⟨id,rfl,hg⟩:=hv.row (by intro e;rw [e] at hi;simp at hi);have aj:=zu hg;clear hv hn ag aW;have aY:=fun (H2:Heap) b (rR:H2.get id=.cells true (zm Box.cells (l.xs.set i b)))=>xY (n:=10) (f:=Box.cells) (sz:=4) (fun _=>rfl) rR (hlen b);have aY:=Hide.mk aY;(repeat' first|simp [*,za]|(apply zb<;>intro _ h<;>try simp [-Nat.le_zero_eq] at h));rw [fF.h];exact aY.h _ _ (zo aj)
 ·(repeat' first|simp [*,za,c107,BR,Side.cells]|(apply zb<;>intro _ h<;>try simp [-Nat.le_zero_eq] at h))
  refine Ij hl ?_
  intro v' H' hv hn fD ag aW;obtain ⟨id,rfl,hg⟩:=hv.row (by intro e;rw [e] at hi;simp at hi);have aj:=zu hg;clear hv hn ag aW;have aY:=fun (H2:Heap) b (rR:H2.get id=.cells true (zm Box.cells (l.xs.set i b)))=>xY (n:=10) (f:=Box.cells) (sz:=4) (fun _=>rfl) rR (hlen b);have aY:=Hide.mk aY;(repeat' first|simp [*,za]|(apply zb<;>intro _ h<;>try simp [-Nat.le_zero_eq] at h));rw [fF.h];exact aY.h _ _ (zo aj)
 ·(repeat' first|simp [*,za,c107,BR,Side.cells]|(apply zb<;>intro _ h<;>try simp [-Nat.le_zero_eq] at h))
  refine Ij hl ?_
  intro v' H' hv hn fD ag aW;obtain ⟨id,rfl,hg⟩:=hv.row (by intro e;rw [e] at hi;simp at hi);have aj:=zu hg;clear hv hn ag aW;have aY:=fun (H2:Heap) b (rR:H2.get id=.cells true (zm Box.cells (l.xs.set i b)))=>xY (n:=10) (f:=Box.cells) (sz:=4) (fun _=>rfl) rR (hlen b);have aY:=Hide.mk aY;(repeat' first|simp [*,za]|(apply zb<;>intro _ h<;>try simp [-Nat.le_zero_eq] at h));rw [fF.h];exact aY.h _ _ (zo aj)
end Go.Proofs.YtmmhnfghklppiaaGreat.Vm
