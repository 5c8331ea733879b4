/- search.Solve: the solution that is put together from the parts' first ones. The two Solves and Counts say the same. Plain Lean. What the two Decides answer, and what Prove's tree is. Plain Lean. The two Hulls agree. Plain Lean. -/
import Derived.Test.YtmmhnfghklppiaaGreatUk25
import Derived.Test.YtmmhnfghklppiaaGreatUk41
import Derived.Test.YtmmhnfghklppiaaGreatUk32
import Derived.Test.YtmmhnfghklppiaaGreatUk40
namespace Go.Proofs.YtmmhnfghklppiaaGreat.Vm
open Go
set_option linter.unusedSimpArgs false
set_option linter.unusedVariables false
set_option maxHeartbeats 4000000
set_option maxRecDepth 4000
structure Ao (D:aN) (n0:Nat) (cs:List (List Pt)):Prop where
 n:n0<=12
 sl:D.aa.length<=12
 len:cs.length=D.aa.length
 first:∀ i (h:i < D.aa.length) (h':i < cs.length),D.aa[i].first=some cs[i]
 part:∀ s∈D.aa,s.part.length<=12/\∀ k∈s.part,k < n0
 cl:∀ i (h:i < D.aa.length) (h':i < cs.length),cs[i].length=D.aa[i].part.length
structure EE (D:aN) (n0:Nat) (cs:List (List Pt)) (at_:Int) (E:Sl Pt):Prop where
 n:n0<=12
 sl:D.aa.length<=12
 len:cs.length=D.aa.length
 first:∀ i (h:i < D.aa.length) (h':i < cs.length),(i:Int)≠at_->D.aa[i].first=some cs[i]
 own:∀ i (h:i < D.aa.length) (h':i < cs.length),(i:Int)=at_->E=.mk false cs[i]
 part:∀ s∈D.aa,s.part.length<=12/\∀ k∈s.part,k < n0
 cl:∀ i (h:i < D.aa.length) (h':i < cs.length),cs[i].length=D.aa[i].part.length
theorem Ao.at {D:aN} {n0:Nat} {cs:List (List Pt)} (h:Ao D n0 cs):EE D n0 cs (-1) .nil :=
 ⟨h.n,h.sl,h.len,fun i h1 h2 _=>h.first i h1 h2,fun i h1 h2 h3=>by omega,h.part,h.cl⟩
def oV (z:List (Nat×Pt)) (l:List Pt):List Pt:=z.foldl (fun p e=>p.set e.1 e.2) l
theorem zj8 {z:List (Nat×Pt)} {l:List Pt} {k:Nat} (h:k < z.length):oV (z.take (k+1)) l=(oV (z.take k) l).set z[k].1 z[k].2:=by
 unfold oV;rw [<- DY h,List.foldl_append];rfl
theorem zho:∀ (gs:List (List Nat)) (cs:List (List Pt)) (g:List Nat) (c:List Pt) (l:List Pt),gs.length=cs.length->xe (gs++[g]) (cs++[c]) l=oV (g.zip c) (xe gs cs l)
 | [],[],g,c,l,_=>rfl
 | [],_::_,_,_,_,h=>by simp at h
 | _::_,[],_,_,_,h=>by simp at h
 | a::gs,b::cs,g,c,l,h=>by
  simp only [List.cons_append,xe];exact zho gs cs g c _ (by simpa using h)
def uy (D:aN) (n0:Nat) (cs:List (List Pt)) (i:Nat):List Pt:=xe ((D.aa.map (·.part)).take i) (cs.take i) (List.replicate n0 ⟨0,0⟩)
theorem znS {D:aN} {n0:Nat} {cs:List (List Pt)} {i:Nat} (h:i < D.aa.length) (h':i < cs.length):uy D n0 cs (i+1)=oV (D.aa[i].part.zip cs[i]) (uy D n0 cs i):=by
 unfold uy;rw [<- DY (xs:=D.aa.map (·.part)) (by simpa using h),<- DY h',zho _ _ _ _ _ (by simp;omega),List.getElem_map]
theorem sh54:G.shared 54=false:=by decide
theorem e54 (n:Nat) (D:aN) (n0:Nat) (cs:List (List Pt)) (at_:Int) (E:Sl Pt) (h:EE D n0 cs at_ E):zF G (n+1) 54 [.agg D.cells,.int .i64 (n0:Nat),.int .i64 at_,E.pv Pt.cells 2]=some ((Sl.mk false (uy D n0 cs D.aa.length)).pv Pt.cells 2):=by
 refine zy (zx _) rfl g54 rfl ?_
 obtain ⟨s,hs⟩:∃ s,s=Sl.of D.aa:=⟨_,rfl⟩
 have qE:s.xs=D.aa:=by rw [hs,Sl.fP]
 have JC:D.cells=[.bool D.empty,s.pv x9 1]:=by rw [hs];rfl
 obtain ⟨b0,pg⟩:∃ b,D.empty=b:=⟨_,rfl⟩
 have Ah:s.xs.length=D.aa.length:=by rw [qE]
 have qU:=h.n;have DT:=h.sl;have hH:=Hide.mk h;have rH:=Hide.mk qE;have hm:n0*2<=zu/\n0*16<=zu/\n0<=zu:=by simp only [zu];omega
 have hlen:Hide (∀ i,(uy D n0 cs i).length=n0):=⟨fun i=>by unfold uy;rw [zed,List.length_replicate]⟩
 rw [JC,pg];rw [<- Ah];clear h hs qE JC pg;have hslH:=Hide.mk Ah;have DT:s.xs.length<=12:=by omega
 clear Ah;(repeat' first|simp [*,zb,c54]|(apply za<;>intro _ h<;>try simp [-Nat.le_zero_eq] at h))
 refine zA [(10,14),(20,51)] (fun (i:Nat) env H=>env 20=.pure (.int .i64 i)/\i<=s.xs.length/\H.get 0=.cells true (zq Pt.cells (uy D n0 cs i))) (fun i=>s.xs.length - i) 0 ?_ ?_ ?_ ?_
 .decide
 .refine ⟨by simp,by omega,?_⟩
  simp [uy,xe,zq,Pt.cells]
 .simp only [zz];omega
 rintro i env H ⟨g20,hi,hg⟩
 by_cases aK:i < s.xs.length
 .have w1:IntKind.i64.wrap ((i:Int)+1)=(i+1:Nat):=by rw [wrap64 (by omega) (by omega)];omega
  have jM:(i:Int) < s.xs.length:=by omega
  have TH:i < D.aa.length:=by rw [<- hslH.h];exact aK
  have Oh:i < cs.length:=by rw [hH.h.len];exact TH
  obtain ⟨D',BH⟩:∃ D',s.xs[i]=D':=⟨_,rfl⟩
  have Rb:D.aa[i]=D':=by rw [<- BH];simp only [rH.h]
  obtain ⟨c,wF⟩:∃ c,cs[i]=c:=⟨_,rfl⟩
  have nV:=hH.h.first i TH Oh;have ZI:=hH.h.own i TH Oh;have bW:=hH.h.cl i TH Oh;have AR:=hH.h.part _ (List.getElem_mem TH);have bu:=znS (n0:=n0) TH Oh;rw [Rb,wF] at nV bW bu;rw [wF] at ZI;rw [Rb] at AR;have EX:x9 s.xs[i]=[.ptr false [(Sl.mk false (zL D'.part)).pv aF 1,.int .i64 D'.n,.slice false 4 (chunks 4 D'.part.length (D'.ends.map iN)),iN D'.first] 0]:=by
   rw [BH];have e1:lD D'.part=(Sl.mk false (zL D'.part)).pv aF 1:=by simp [lD,zL,Sl.pv,aF]
   rw [<- e1];rfl
  obtain ⟨cc,Rf⟩:∃ x,PV.slice false 4 (chunks 4 D'.part.length (D'.ends.map iN))=x:=⟨_,rfl⟩
  rw [Rf] at EX;obtain ⟨dn,Hz⟩:∃ x:Int,(D'.n:Int)=x:=⟨_,rfl⟩
  rw [Hz] at EX;obtain ⟨pt,AQ⟩:∃ x,D'.part=x:=⟨_,rfl⟩
  rw [AQ] at EX bW bu AR;have npt:=AR.1;have MG:=Hide.mk AR.2;have xy:=Hide.mk bu;have e1:(zL pt).length=pt.length:=z8 pt
  by_cases sw:(i:Int)=at_
  .have hE:=ZI sw;subst hE;subst sw;obtain ⟨oo,IY⟩:∃ x,iN D'.first=x:=⟨_,rfl⟩
   rw [IY] at EX;clear Rf Hz AQ BH Rb wF nV bu AR ZI IY;(repeat' first|simp [*,zb]|(apply za<;>intro _ h<;>try simp [-Nat.le_zero_eq] at h))
   refine zA [(13,14),(38,50)] (fun (k:Nat) env H=>env 38=.pure (.int .i64 k)/\k<=pt.length/\H.get 0=.cells true (zq Pt.cells (oV ((pt.zip c).take k) (uy D n0 cs i)))) (fun k=>pt.length - k) 0 ?_ ?_ ?_ ?_
   .decide
   .exact ⟨by simp,by omega,by simpa [oV] using hg⟩
   .simp only [zz];omega
   clear hg;rintro k iB H2 ⟨g38,hk,hg⟩;have aB:=zo hg
   by_cases Eu:k < pt.length
   .have w2:IntKind.i64.wrap ((k:Int)+1)=(k+1:Nat):=by rw [wrap64 (by omega) (by omega)];omega
    have Hu:(k:Int) < pt.length:=by omega
    have AL:k < c.length:=by omega
    have hkcI:(k:Int) < c.length:=by omega
    have hkx:k < (zL pt).length:=by omega
    obtain ⟨q,hq⟩:∃ q,pt[k]=q:=⟨_,rfl⟩
    have gj:(zL pt)[k]=(q:Int):=by simp [zL,hq]
    have ZJ:q < n0:=MG.h q (hq ▸ List.getElem_mem Eu);have hqnI:(q:Int) < n0:=by omega
    have Rh:(oV ((pt.zip c).take k) (uy D n0 cs i)).length=n0:=by unfold oV;rw [Vl];exact hlen.h i
    have hkz:k < (pt.zip c).length:=by rw [List.length_zip];omega
    have fF:=zj8 (l:=uy D n0 cs i) hkz;rw [List.getElem_zip] at fF;simp only [hq] at fF;have hp:=Fj (f:=Pt.cells) (sz:=2) (l:=oV ((pt.zip c).take k) (uy D n0 cs i)) (a:=c[k]) (i:=q) (fun _=>rfl) (fun _=>rfl) (by decide) (by rw [Rh];exact ZJ);rw [<- fF] at hp;simp only [Pt.cells,List.map] at hp;clear fF hq;generalize oV ((pt.zip c).take k) (uy D n0 cs i)=Z at *;(repeat' first|simp [*,zb,Pt.cells]|(apply za<;>intro _ h<;>try simp [-Nat.le_zero_eq] at h));exact ⟨k+1,by omega,by omega,by omega,rfl⟩
   .have Eu:k=pt.length:=by omega
    subst Eu;rw [List.take_of_length_le (by rw [List.length_zip];omega),<- xy.h] at hg;(repeat' first|simp [*,zb]|(apply za<;>intro _ h<;>try simp [-Nat.le_zero_eq] at h));exact ⟨i+1,by omega,by omega,by omega,rfl⟩
  .have IY:iN D'.first=(Sl.mk false c).pv Pt.cells 2:=by rw [nV sw];rfl
   rw [IY] at EX;clear Rf Hz AQ BH Rb wF nV bu AR ZI IY;(repeat' first|simp [*,zb]|(apply za<;>intro _ h<;>try simp [-Nat.le_zero_eq] at h))
   refine zA [(13,14),(38,50)] (fun (k:Nat) env H=>env 38=.pure (.int .i64 k)/\k<=pt.length/\H.get 0=.cells true (zq Pt.cells (oV ((pt.zip c).take k) (uy D n0 cs i)))) (fun k=>pt.length - k) 0 ?_ ?_ ?_ ?_
   .decide
   .exact ⟨by simp,by omega,by simpa [oV] using hg⟩
   .simp only [zz];omega
   clear hg;rintro k iB H2 ⟨g38,hk,hg⟩;have aB:=zo hg
   by_cases Eu:k < pt.length
   .have w2:IntKind.i64.wrap ((k:Int)+1)=(k+1:Nat):=by rw [wrap64 (by omega) (by omega)];omega
    have Hu:(k:Int) < pt.length:=by omega
    have AL:k < c.length:=by omega
    have hkcI:(k:Int) < c.length:=by omega
    have hkx:k < (zL pt).length:=by omega
    obtain ⟨q,hq⟩:∃ q,pt[k]=q:=⟨_,rfl⟩
    have gj:(zL pt)[k]=(q:Int):=by simp [zL,hq]
    have ZJ:q < n0:=MG.h q (hq ▸ List.getElem_mem Eu);have hqnI:(q:Int) < n0:=by omega
    have Rh:(oV ((pt.zip c).take k) (uy D n0 cs i)).length=n0:=by unfold oV;rw [Vl];exact hlen.h i
    have hkz:k < (pt.zip c).length:=by rw [List.length_zip];omega
    have fF:=zj8 (l:=uy D n0 cs i) hkz;rw [List.getElem_zip] at fF;simp only [hq] at fF;have hp:=Fj (f:=Pt.cells) (sz:=2) (l:=oV ((pt.zip c).take k) (uy D n0 cs i)) (a:=c[k]) (i:=q) (fun _=>rfl) (fun _=>rfl) (by decide) (by rw [Rh];exact ZJ);rw [<- fF] at hp;simp only [Pt.cells,List.map] at hp;clear fF hq;generalize oV ((pt.zip c).take k) (uy D n0 cs i)=Z at *;(repeat' first|simp [*,zb,Pt.cells]|(apply za<;>intro _ h<;>try simp [-Nat.le_zero_eq] at h));exact ⟨k+1,by omega,by omega,by omega,rfl⟩
   .have Eu:k=pt.length:=by omega
    subst Eu;rw [List.take_of_length_le (by rw [List.length_zip];omega),<- xy.h] at hg;(repeat' first|simp [*,zb]|(apply za<;>intro _ h<;>try simp [-Nat.le_zero_eq] at h));exact ⟨i+1,by omega,by omega,by omega,rfl⟩
 .have aT:i=s.xs.length:=by omega
  subst aT;have h1:=sI (n:=10) (f:=Pt.cells) (sz:=2) (fun _=>rfl) hg (hlen.h _);(repeat' first|simp [*,zb]|(apply za<;>intro _ h<;>try simp [-Nat.le_zero_eq] at h));exact h1
def xA (p:Problem) (D:aN) (e:Int) (cs:List (List Pt)):Sl Pt×Int:=if e≠0 then (.nil,e) else if D.empty=true then (.nil,9) else (.mk false (uy D p.boxes.xs.length cs D.aa.length),0)
def TI (gs:List (List Nat)) (x:Nat):List Nat:=(gs.find? fun g=>g.contains x).getD []
theorem zqI {gs:List (List Nat)} (hd:gs.flatten.Nodup) {g:List Nat} (hg:g∈gs) {x:Nat} (hx:x∈g):TI gs x=g:=by
 unfold TI
 cases h:gs.find? fun g=>g.contains x with
 | none =>
  have:=List.find?_eq_none.1 h g hg;simp [hx] at this
 | some g' =>
  have h1:=List.mem_of_find?_eq_some h;have h2:=List.find?_some h;simp only [List.contains_iff_mem] at h2;simp only [Option.getD_some];obtain ⟨i,hi,rfl⟩:=List.getElem_of_mem hg;obtain ⟨j,hj,rfl⟩:=List.getElem_of_mem h1
  by_cases e:i=j
  .subst e;rfl
  .exact absurd h2 (zgP hd hi hj e hx)
theorem zpP (p:Problem) (L:Sl Box) {gs:List (List Nat)} (hd:gs.flatten.Nodup) (aK:∀ g∈gs,∀ x∈g,x < L.xs.length):∃ hb on,fA p L gs gs.length (if gs.any (badR p L)=true then 9 else 0) (gs.map (CO p L)) hb on:=by
 refine ⟨(List.range L.xs.length).map (fun x=>TC p L (TI gs x) ((TI gs x).idxOf x)),(List.range L.xs.length).map (fun x=>M6 p L (TI gs x) ((TI gs x).idxOf x)),⟨by rw [List.take_length],by rw [List.take_length],by simp,by simp,fun g hg k hk=>?_,fun g hg=>by simp at hg⟩⟩
 rw [List.take_length] at hg;have hm:=List.getElem_mem hk;have hx:=aK g hg _ hm;have hn:=(List.pairwise_flatten.1 hd).1 g hg;have hi:g.idxOf g[k]=k:=by
  have h1:=List.idxOf_lt_length_of_mem hm;have h2:=List.getElem_idxOf h1;rcases Nat.lt_trichotomy (g.idxOf g[k]) k with h|h|h
  .exact absurd h2 (List.pairwise_iff_getElem.1 hn _ _ h1 hk h)
  .exact h
  .exact absurd h2.symm (List.pairwise_iff_getElem.1 hn _ _ hk h1 h)
 rw [getElem!_pos _ _ (by simpa using hx),getElem!_pos _ _ (by simpa using hx),List.getElem_map,List.getElem_map,List.getElem_range,zqI hd hg hm,hi];exact ⟨rfl,rfl⟩
theorem zqg {p:Problem} {l:List Box} {g:List Nat} (hn:g.Nodup) (hw:∀ f∈p.facts.xs,f.a.toNat∈g->Within g f) (hp:∀ f∈p.facts.xs,0<=f.a):(sW p (Sl.mk false l) g).length=(jd p.facts.xs l g).length:=by
 refine ziE ((zfT _).filter _) (zi6 _ _ _) fun c=>?_
 unfold sW;rw [List.mem_filter,Kq hn hw,mZ];have e:(zQ (Sl.mk false l).xs g).length=g.length:=by simp [zQ]
 unfold AY;rw [List.all_eq_true];have hc:∀ f∈p.facts.xs,(f∈yf p.facts.xs g↔f.a.toNat∈g):=fun f hf=>by
  unfold yf Ew;rw [List.mem_filter,List.any_eq_true]
  constructor
  .rintro ⟨_,k,hk,h⟩;simp only [decide_eq_true_eq] at h;rw [h,Int.toNat_natCast];exact hk
  .intro h;exact ⟨hf,_,h,by have:=hp f hf;simp only [decide_eq_true_eq];omega⟩
 constructor
 .rintro ⟨⟨h1,h2⟩,h3⟩
  refine ⟨⟨by rw [h1,e],fun k h h'=>by have:=h2 k (by rw [e];exact h) h';simpa [zQ] using this⟩,fun f hf ha=>?_⟩
  have:=h3 f ((hc f hf).2 ha)
  simpa using this
 .rintro ⟨⟨h1,h2⟩,h3⟩
  refine ⟨⟨by rw [h1,e],fun k h h'=>?_⟩,fun f hf=>?_⟩
  .rw [e] at h
   simpa [zQ] using h2 k h h'
  .have wD:=(List.mem_filter.1 hf).1;have:=h3 f wD ((hc f wD).1 hf)
   simpa using this
theorem zj7 {b:List Box}:∀ (fs:List Fact) (k:Int),(∀ f∈fs,zD f b=false)->Gm b fs k=(-1,true)
 | [],_,_=>rfl
 | f::fs,k,h=>by
  unfold Gm;rw [h f List.mem_cons_self];simp only [Bool.false_eq_true,if_false];exact zj7 fs _ fun f' hf=>h f' (List.mem_cons_of_mem _ hf)
theorem ziG {p:Problem} {pts:List Pt} (h0:jL p=0) (h:fZ p pts):(aO p pts).2=true:=by
 have hi:Aa pts p.boxes.xs:=fun i h1 h2=>by
  have:=h.y8 i h2 h1;unfold bF at this;simp only [rE,nP,Bool.and_eq_true,decide_eq_true_eq];omega
 unfold aO;rw [if_pos ⟨h0,h.len,hi⟩,zj7 _ _ h.facts]
structure yg (p:Problem) (D:aN) (e E:Int) (nS:Sl Int) (hS:Sl Box) (oS:Sl Pt) (ns:List Nat) (cs:List (List Pt)):Prop where
 so:ik p D e
 sr:WR p E nS hS oS
 nse:nS.xs=zL ns
 nz:E=0->∀ k∈ns,k≠0
 nl:ns.length<=12
 dl:D.aa.length<=12
 dz:D.empty=false->∀ s∈D.aa,s.n≠0
 soln:e=0->D.empty=false->Ao D p.boxes.xs.length cs
 same:(xA p D e cs).2=E
 count:Wm D e=Xm E ns
 nilE:E≠0->(xA p D e cs).1=.nil
 ok:E=0->(aO p (xA p D e cs).1.xs).2=true
 len:(xA p D e cs).1.xs.length < 1000
theorem OP (facts:List Fact) (l:List Box) (g:List Nat):(zW facts l g).part=g:=by
 unfold zW
 split<;>rfl
theorem zn6 (p:Problem):∃ D e E nS hS oS ns cs,yg p D e E nS hS oS ns cs:=by
 by_cases h0:jL p=0
 case neg =>
  have h9:jL p≠9:=by unfold jL;split<;>(try split)<;>omega
  refine ⟨⟨false,[]⟩,jL p,jL p,.nil,.nil,.nil,[],[],.inl ⟨h0,rfl,rfl⟩,.inl ⟨h0,rfl,rfl,rfl,rfl⟩,rfl,fun _=>by simp,by simp,by simp,fun _=>by simp,fun h=>absurd h h0,?_,?_,fun _=>?_,fun h=>absurd h h0,?_⟩
  .simp [xA,h0]
  .simp [Wm,Xm,h0,h9]
  .simp [xA,h0]
  .simp [xA,h0]
 case pos =>
  have ok:=bT.1 h0;obtain ⟨r,hr⟩:=Yr (Kz ok) (xX ok)
  cases r with
  | none =>
   refine ⟨⟨true,[]⟩,0,9,.nil,.nil,.nil,[],[],.inr ⟨h0,.inl ⟨hr,rfl,rfl⟩⟩,.inr (.inl ⟨h0,hr,rfl,rfl,rfl,rfl⟩),rfl,fun _=>by simp,by simp,by simp,fun _=>by simp,fun _ h=>by simp at h,?_,?_,fun _=>?_,fun h=>by simp at h,?_⟩
   .simp [xA]
   .simp [Wm,Xm]
   .simp [xA]
   .simp [xA]
  | some l =>
   obtain ⟨m,hm⟩:=zkV ok.fact
   by_cases hv:mF l (zK m p.boxes.xs.length)<=65536
   case neg =>
    refine ⟨⟨false,[]⟩,2,2,.nil,.nil,.nil,[],[],.inr ⟨h0,.inr ⟨l,m,hr,hm,.inl ⟨by omega,rfl,rfl⟩⟩⟩,.inr (.inr (.inl ⟨h0,l,m,hr,hm,by omega,rfl,rfl,rfl,rfl⟩)),rfl,fun h=>by simp at h,by simp,by simp,fun _=>by simp,fun h=>by simp at h,?_,?_,fun _=>?_,fun h=>by simp at h,?_⟩
    .simp [xA]
    .simp [Wm,Xm]
    .simp [xA]
    .simp [xA]
   case pos =>
    have Xn:fV p ⟨xg ((zK m p.boxes.xs.length).map (zW p.facts.xs l)),(zK m p.boxes.xs.length).map (zW p.facts.xs l)⟩ 0:=.inr ⟨l,m,hr,hm,.inr ⟨hv,rfl,rfl⟩⟩;have hl:l.length=p.boxes.xs.length:=hr.1.sub.1;have hd:=Ho hm (FH ok);have rG:=HY m p.boxes.xs.length;have nb:=ok.nb;have h1g:∀ g∈zK m p.boxes.xs.length,0 < g.length:=fun g hg=>(Zn ok hm hg).1;obtain ⟨gs,wJ⟩:∃ gs,zK m p.boxes.xs.length=gs:=⟨_,rfl⟩
    rw [wJ] at Xn hd rG h1g;have OQ:∀ g∈gs,sS p.facts.xs l g (zW p.facts.xs l g):=fun g hg=>by
     refine Y8 (fun k hk=>by rw [hl];exact (hd.one g hg).2 k hk) hr.1.wf (fun f hf ha=>hd.within f hf g hg ha) fun f hf=>?_
     have h1:=(vR f _).1 (ok.fact f hf);exact ⟨by omega,by omega,by omega⟩
    have Ri:∀ g∈gs,CO p (Sl.mk false l) g=((zW p.facts.xs l g).n:Int)/\(badR p (Sl.mk false l) g=((zW p.facts.xs l g).n == 0)):=fun g hg=>by
     have hlen:=h1g g hg;unfold CO badR
     by_cases h1:1 < g.length
     .have he:=zqg (l:=l) (hd.one g hg).1 (fun f hf ha=>hd.within f hf g hg ha) (fun f hf=>by have h1:=(vR f _).1 (ok.fact f hf);omega);rw [if_pos h1,(OQ g hg).n,he]
      refine ⟨rfl,?_⟩
      rw [decide_eq_true h1,Bool.true_and,Bool.eq_iff_iff];simp only [List.isEmpty_iff,beq_iff_eq];rw [<- List.length_eq_zero_iff,he]
     .have ZK:g.length=1:=by omega
      have hx:g[0]! < l.length:=by rw [getElem!_pos g 0 (by omega),hl];exact (hd.one g hg).2 _ (List.getElem_mem _)
      have ha:1<=oq l[g[0]!]! := by
       rw [getElem!_pos l _ hx];have:=hr.1.wf _ (List.getElem_mem hx);exact Qb this
      rw [if_neg h1,Sl.bL,decide_eq_false h1,Bool.false_and];have hn:(zW p.facts.xs l g).n=(oq l[g[0]!]!).toNat:=by unfold zW;rw [if_pos ZK];rfl
      rw [hn]
      refine ⟨by omega,?_⟩
      symm
      rw [beq_eq_false_iff_ne];omega
    obtain ⟨hb,on,hJ⟩:=zpP p (Sl.mk false l) hd.nodup (fun g hg x hx=>by rw [Sl.bL,hl];exact (hd.one g hg).2 x hx);obtain ⟨D,hD⟩:∃ D:aN,D=⟨xg (gs.map (zW p.facts.xs l)),gs.map (zW p.facts.xs l)⟩:=⟨_,rfl⟩
    rw [<- hD] at Xn;have MM:D.aa=gs.map (zW p.facts.xs l):=by rw [hD]
    have mD:gs.any (badR p (Sl.mk false l))=D.empty:=by
     rw [hD];simp only [xg,List.any_map];rw [Bool.eq_iff_iff,List.any_eq_true,List.any_eq_true]
     constructor
     .rintro ⟨g,hg,h⟩;exact ⟨g,hg,by rw [(Ri g hg).2] at h;exact h⟩
     .rintro ⟨g,hg,h⟩;exact ⟨g,hg,by rw [(Ri g hg).2];exact h⟩
    rw [mD] at hJ;have hN:gs.map (CO p (Sl.mk false l))=zL (D.aa.map (·.n)):=by
     rw [MM,zL,List.map_map,List.map_map];exact List.map_inj_left.2 fun g hg=>(Ri g hg).1
    have TJ:D.empty=false->∀ s∈D.aa,s.n≠0:=fun he s hs h=>by
     have:xg D.aa=true:=iJ.2 ⟨s,hs,h⟩;have h2:D.empty=xg D.aa:=by rw [hD]
     rw [h2,this] at he;simp at he
    have hle:gs.length<=12:=by omega
    have VL:D.aa.length<=12:=by rw [MM,List.length_map];exact hle
    have ql:D.empty=false->∀ g∈gs,∃ c∈jd p.facts.xs l g,(zW p.facts.xs l g).first=some c:=fun he g hg=>(OQ g hg).first (TJ he _ (by rw [MM];exact List.mem_map.2 ⟨g,hg,rfl⟩));obtain ⟨cs,tV⟩:∃ cs:List (List Pt),cs=gs.map fun g=>(zW p.facts.xs l g).first.getD []:=⟨_,rfl⟩
    have bW:cs.length=gs.length:=by rw [tV,List.length_map]
    have GX:D.empty=false->∀ i (h:i < gs.length) (h':i < cs.length),cs[i]∈jd p.facts.xs l gs[i]/\(zW p.facts.xs l gs[i]).first=some cs[i]:=fun he i h h'=>by
     obtain ⟨c,hc,hf⟩:=ql he _ (List.getElem_mem h);have e:cs[i]=c:=by simp only [tV,List.getElem_map,hf,Option.getD_some]
     rw [e];exact ⟨hc,hf⟩
    have Ah:D.aa.length=gs.length:=by rw [MM,List.length_map]
    have KM:∀ i (h:i < D.aa.length) (h':i < gs.length),D.aa[i]=zW p.facts.xs l gs[i]:=fun i h h'=>by simp only [MM,List.getElem_map]
    have Xo:D.empty=false->Ao D p.boxes.xs.length cs:=fun he=>by
     refine ⟨nb,VL,by omega,fun i h1 h2=>?_,fun s hs=>?_,fun i h1 h2=>?_⟩
     .rw [KM i h1 (by omega)];exact (GX he i (by omega) h2).2
     .rw [MM] at hs;obtain ⟨g,hg,rfl⟩:=List.mem_map.1 hs;rw [OP];exact ⟨by have:=(rG.2 g hg).1;omega,(rG.2 g hg).2⟩
     .rw [KM i h1 (by omega),OP];have hg:=List.getElem_mem (l:=gs) (show i < gs.length by omega);exact ((Kq (hd.one _ hg).1 (fun f hf ha=>hd.within f hf _ hg ha)).1 (GX he i (by omega) h2).1).1.1
    have OT:D.empty=false->fZ p (uy D p.boxes.xs.length cs D.aa.length):=fun he=>by
     have hp:D.aa.map (·.part)=gs:=by
      rw [MM,List.map_map]
      refine List.ext_getElem (by simp) fun i h1 h2=>?_
      simp only [List.getElem_map,Function.comp_apply,OP]
     unfold uy;rw [hp,List.take_of_length_le (by omega),List.take_of_length_le (by omega)];have qm:iI p.facts.xs l.length gs:=by rw [hl];exact hd
     have EO:cs∈LP (gs.map (jd p.facts.xs l)):=jF.2 ⟨by simp [bW],fun k a b=>by
      simp only [List.getElem_map];exact (GX he k (by simpa using a) b).1⟩
     exact Ze hr.1.sub (YP qm EO (p0:=List.replicate p.boxes.xs.length ⟨0,0⟩) (by simp [hl])).1
    refine ⟨D,0,if D.empty=true then 9 else 0,Sl.of (gs.map (CO p (Sl.mk false l))),Sl.mk false hb,Sl.of on,D.aa.map (·.n),cs,.inr ⟨h0,Xn⟩,.inr (.inr (.inr ⟨h0,l,m,_,hb,on,hr,hm,hv,by rw [wJ];exact hJ,rfl,rfl,rfl⟩)),by rw [Sl.fP,hN],fun hE k hk=>?_,by rw [List.length_map];exact VL,VL,TJ,fun _=>Xo,?_,?_,fun hE=>?_,fun hE=>?_,?_⟩
    .have he:D.empty=false:=by
      cases h:D.empty with
      | true=>rw [h] at hE;simp at hE
      | false=>rfl
     obtain ⟨x,hx,rfl⟩:=List.mem_map.1 hk;exact TJ he x hx
    .cases h:D.empty<;>simp [xA,h]
    ·unfold Wm Xm;generalize Zb (D.aa.map (·.n)) 1=o
     cases h:D.empty<;>cases o<;>simp [h]
    .cases h:D.empty with
     | true=>simp [xA,h]
     | false=>rw [h] at hE;simp at hE
    .cases h:D.empty with
     | true=>rw [h] at hE;simp at hE
     | false =>
      have e:(xA p D 0 cs).1.xs=uy D p.boxes.xs.length cs D.aa.length:=by simp [xA,h]
      rw [e];exact ziG h0 (OT h)
    .cases h:D.empty with
     | true=>simp [xA,h]
     | false =>
      have e:(xA p D 0 cs).1.xs=uy D p.boxes.xs.length cs D.aa.length:=by simp [xA,h]
      rw [e,(OT h).len];omega
def Nj (D:aN) (e:Int):Int:=if e≠0 then e else if D.empty=true then 9 else 0
theorem zsM {p:Problem} {D:aN} {e E:Int} {nS:Sl Int} {hS:Sl Box} {oS:Sl Pt} {ns:List Nat} {cs:List (List Pt)} (h:yg p D e E nS hS oS ns cs):E=Nj D e:=by
 have:=h.same;unfold xA at this;unfold Nj;rw [<- this]
 split
 .rfl
 .split<;>rfl
theorem zmf {P:Nat->Prop}:∀ (n:Nat),(∃ k,k < n/\P k)->∃ k,k < n/\P k/\∀ j,j < k->¬ P j
 | 0,⟨k,h,_⟩=>absurd h (Nat.not_lt_zero _)
 | n+1,h=>by
  by_cases hc:∃ k,k < n/\P k
  .obtain ⟨k,h1,h2,h3⟩:=zmf n hc;exact ⟨k,by omega,h2,h3⟩
  .obtain ⟨k,h1,h2⟩:=h
   refine ⟨k,h1,h2,fun j hj hp=>hc ⟨j,by omega,hp⟩⟩
theorem zq6 {q:Problem} (ok:ak q) (hn:q.boxes.xs.length<=5) (hs:∀ b∈q.boxes.xs,b.x.hi - b.x.lo<=60/\b.y.hi - b.y.lo<=60) (ry:¬ ∃ pts,fZ q pts) :
  ∃ m gs k,bH (mM q.facts.xs) q.boxes.xs.length m/\gs=zK m q.boxes.xs.length/\jX q gs k:=by
 obtain ⟨m,hm⟩:=zkV ok.fact;obtain ⟨g,hg,G7⟩:=znC ok hm ry;obtain ⟨i,hi,rfl⟩:=List.mem_iff_getElem.1 hg;have hd:=Ho hm (FH ok);obtain ⟨k,h1,h2,h3⟩:=zmf (P:=fun k=>GA q (zK m q.boxes.xs.length)[k]!) (zK m q.boxes.xs.length).length ⟨i,hi,by rw [getElem!_pos _ i hi];exact G7⟩;exact ⟨m,_,k,hm,rfl,⟨ok,⟨m,hm,rfl⟩,h1,h2,h3,fun g hg=>JL.QO hn hs (hd.one g hg).1 (hd.one g hg).2⟩⟩
theorem zqz {p:Problem} {l:List Box} {g:List Nat} (hn:g.Nodup) (hw:∀ f∈p.facts.xs,f.a.toNat∈g->Within g f) (hp:∀ f∈p.facts.xs,0<=f.a) (c:List Pt):c∈sW p (Sl.mk false l) g↔c∈jd p.facts.xs l g:=by
 unfold sW;rw [List.mem_filter,Kq hn hw,mZ];have e:(zQ (Sl.mk false l).xs g).length=g.length:=by simp [zQ]
 unfold AY;rw [List.all_eq_true];have hc:∀ f∈p.facts.xs,(f∈yf p.facts.xs g↔f.a.toNat∈g):=fun f hf=>by
  unfold yf Ew;rw [List.mem_filter,List.any_eq_true]
  constructor
  .rintro ⟨_,k,hk,h⟩;simp only [decide_eq_true_eq] at h;rw [h,Int.toNat_natCast];exact hk
  .intro h;exact ⟨hf,_,h,by have:=hp f hf;simp only [decide_eq_true_eq];omega⟩
 constructor
 .rintro ⟨⟨h1,h2⟩,h3⟩
  refine ⟨⟨by rw [h1,e],fun k h h'=>by have:=h2 k (by rw [e];exact h) h';simpa [zQ] using this⟩,fun f hf ha=>?_⟩
  have:=h3 f ((hc f hf).2 ha)
  simpa using this
 .rintro ⟨⟨h1,h2⟩,h3⟩
  refine ⟨⟨by rw [h1,e],fun k h h'=>?_⟩,fun f hf=>?_⟩
  .rw [e] at h
   simpa [zQ] using h2 k h h'
  .have wD:=(List.mem_filter.1 hf).1;have:=h3 f wD ((hc f wD).1 hf)
   simpa using this
structure Rj (S:List Pt) (b r:Box):Prop where
 sub:r.x.lo<=b.x.lo/\b.x.hi<=r.x.hi/\r.y.lo<=b.y.lo/\b.y.hi<=r.y.hi
 all:∀ q∈S,bF q r
 x0:r.x.lo=b.x.lo\/∃ q∈S,q.x=r.x.lo
 x1:r.x.hi=b.x.hi\/∃ q∈S,q.x=r.x.hi
 y0:r.y.lo=b.y.lo\/∃ q∈S,q.y=r.y.lo
 y1:r.y.hi=b.y.hi\/∃ q∈S,q.y=r.y.hi
theorem zoN:∀ (S:List Pt) (b:Box),Rj S b (S.foldl xx b)
 | [],b=>⟨by simp,by simp,.inl rfl,.inl rfl,.inl rfl,.inl rfl⟩
 | q::S,b=>by
  have h:=zoN S (xx b q);rw [List.foldl_cons];generalize S.foldl xx (xx b q)=r at *;have hs:=h.sub;simp only [xx] at hs
  refine ⟨by omega,fun z hz=>?_,?_,?_,?_,?_⟩
  .rcases List.mem_cons.1 hz with rfl|hz
   .unfold bF;omega
   .exact h.all z hz
  .rcases h.x0 with h'|⟨z,hz,e⟩
   .simp only [xx] at h';rcases Int.le_total b.x.lo q.x with k|k
    .exact .inl (by omega)
    .exact .inr ⟨q,List.mem_cons_self,by omega⟩
   .exact .inr ⟨z,List.mem_cons_of_mem _ hz,e⟩
  .rcases h.x1 with h'|⟨z,hz,e⟩
   .simp only [xx] at h';rcases Int.le_total q.x b.x.hi with k|k
    .exact .inl (by omega)
    .exact .inr ⟨q,List.mem_cons_self,by omega⟩
   .exact .inr ⟨z,List.mem_cons_of_mem _ hz,e⟩
  .rcases h.y0 with h'|⟨z,hz,e⟩
   .simp only [xx] at h';rcases Int.le_total b.y.lo q.y with k|k
    .exact .inl (by omega)
    .exact .inr ⟨q,List.mem_cons_self,by omega⟩
   .exact .inr ⟨z,List.mem_cons_of_mem _ hz,e⟩
  .rcases h.y1 with h'|⟨z,hz,e⟩
   .simp only [xx] at h';rcases Int.le_total q.y b.y.hi with k|k
    .exact .inl (by omega)
    .exact .inr ⟨q,List.mem_cons_self,by omega⟩
   .exact .inr ⟨z,List.mem_cons_of_mem _ hz,e⟩
structure JU (S:List Pt) (r:Box):Prop where
 all:∀ q∈S,bF q r
 x0:∃ q∈S,q.x=r.x.lo
 x1:∃ q∈S,q.x=r.x.hi
 y0:∃ q∈S,q.y=r.y.lo
 y1:∃ q∈S,q.y=r.y.hi
theorem zsO {S:List Pt} (h:S≠[]):JU S (QN S):=by
 cases S with
 | nil=>exact absurd rfl h
 | cons q S =>
  have j:=zoN S (bf q);have e:QN (q::S)=S.foldl xx (bf q):=rfl;rw [e];generalize S.foldl xx (bf q)=r at *;have hs:=j.sub;simp only [bf] at hs
  refine ⟨fun z hz=>?_,?_,?_,?_,?_⟩
  .rcases List.mem_cons.1 hz with rfl|hz
   .unfold bF;omega
   .exact j.all z hz
  .rcases j.x0 with h'|⟨z,hz,e⟩
   .exact ⟨q,List.mem_cons_self,h'.symm⟩
   .exact ⟨z,List.mem_cons_of_mem _ hz,e⟩
  .rcases j.x1 with h'|⟨z,hz,e⟩
   .exact ⟨q,List.mem_cons_self,h'.symm⟩
   .exact ⟨z,List.mem_cons_of_mem _ hz,e⟩
  .rcases j.y0 with h'|⟨z,hz,e⟩
   .exact ⟨q,List.mem_cons_self,h'.symm⟩
   .exact ⟨z,List.mem_cons_of_mem _ hz,e⟩
  .rcases j.y1 with h'|⟨z,hz,e⟩
   .exact ⟨q,List.mem_cons_self,h'.symm⟩
   .exact ⟨z,List.mem_cons_of_mem _ hz,e⟩
theorem zs7 {p:Problem} (ok:ak p) {l:List Box} {m:Nat->Nat} (hr:bM jR p.facts.xs p.boxes.xs (some l)) (hm:bH (mM p.facts.xs) p.boxes.xs.length m):lJ p ⟨xg ((zK m p.boxes.xs.length).map (zW p.facts.xs l)),(zK m p.boxes.xs.length).map (zW p.facts.xs l)⟩ l (zK m p.boxes.xs.length):=by
 have hl:l.length=p.boxes.xs.length:=hr.1.sub.1;have hd:=Ho hm (FH ok);have o9:=HY m p.boxes.xs.length;have nb:=ok.nb
 refine ⟨hr,by rw [hl];exact hd,rfl,fun g hg=>?_,rfl,⟨by omega,fun g hg=>by have:=(o9.2 g hg).1;omega⟩⟩
 refine Y8 (fun k hk=>by rw [hl];exact (hd.one g hg).2 k hk) hr.1.wf (fun f hf ha=>hd.within f hf g hg ha) fun f hf=>?_
 have h1:=(vR f _).1 (ok.fact f hf);exact ⟨by omega,by omega,by omega⟩
theorem zpr {p:Problem} {D:aN} {l:List Box} {gs:List (List Nat)} (h:lJ p D l gs) (he:D.empty=false) {g:List Nat} (hg:g∈gs) {k:Nat} (hk:k < g.length) {S:List Pt} {r:Box} (hS:∀ q,q∈S↔∃ c∈jd p.facts.xs l g,q=c[k]!) (hr:JU S r):jU p g[k] r:=by
 have key:∀ q∈S,∃ pts,fZ p pts/\pts[g[k]]! = q:=fun q hq=>by
  obtain ⟨c,hc,rfl⟩:=(hS q).1 hq;obtain ⟨pts,hp,e⟩:=h.some he hg hc
  refine ⟨pts,hp,?_⟩
  rw [<- e,getElem!_pos (pick pts g) k (by rw [M0];exact hk),KJ hk]
 refine ⟨fun pts hp=>?_,?_,?_,?_,?_⟩
 .refine hr.all _ ((hS _).2 ⟨pick pts g,YO h.div ((QF h.BA _).1 hp) g hg,?_⟩)
  rw [getElem!_pos (pick pts g) k (by rw [M0];exact hk),KJ hk]
 .obtain ⟨q,hq,e⟩:=hr.x0;obtain ⟨pts,hp,e'⟩:=key q hq;exact ⟨pts,hp,by rw [e',e]⟩
 .obtain ⟨q,hq,e⟩:=hr.x1;obtain ⟨pts,hp,e'⟩:=key q hq;exact ⟨pts,hp,by rw [e',e]⟩
 .obtain ⟨q,hq,e⟩:=hr.y0;obtain ⟨pts,hp,e'⟩:=key q hq;exact ⟨pts,hp,by rw [e',e]⟩
 .obtain ⟨q,hq,e⟩:=hr.y1;obtain ⟨pts,hp,e'⟩:=key q hq;exact ⟨pts,hp,by rw [e',e]⟩
theorem zsn {p:Problem} (ok:ak p) {D:aN} {l:List Box} {gs:List (List Nat)} (h:lJ p D l gs) (he:D.empty=false) {g:List Nat} (hg:g∈gs) {k:Nat} (hk:k < g.length):jU p g[k] (TC p (Sl.mk false l) g k):=by
 have bn:=h.div.one g hg;have hw:∀ f∈p.facts.xs,f.a.toNat∈g->Within g f:=fun f hf ha=>h.div.within f hf g hg ha;have Db:∀ f∈p.facts.xs,0<=f.a/\0<=f.b/\f.a≠f.b:=fun f hf=>by
  have h1:=(vR f _).1 (ok.fact f hf);exact ⟨by omega,by omega,by omega⟩
 have CV:=zqz (l:=l) bn.1 hw (fun f hf=>(Db f hf).1);have bC:jd p.facts.xs l g≠[]:=fun e=>by
  have h1:=(h.seen g hg).n;have:D.empty=true:=by
   rw [h.empty,iJ,h.aa];exact ⟨_,List.mem_map.2 ⟨g,hg,rfl⟩,by rw [h1,e];rfl⟩
  rw [this] at he;simp at he
 unfold TC
 by_cases h1:1 < g.length
 .rw [if_pos h1];have oh:sW p (Sl.mk false l) g≠[]:=fun e=>by
   obtain ⟨c,hc⟩:=List.exists_mem_of_ne_nil _ bC;have:=(CV c).2 hc;rw [e] at this;simp at this
  unfold hX;rw [if_neg oh]
  refine zpr h he hg hk (S:=(sW p (Sl.mk false l) g).map fun c=>c[k]!) (fun q=>?_) (zsO (by simpa using oh))
  rw [List.mem_map]
  constructor
  .rintro ⟨c,hc,rfl⟩;exact ⟨c,(CV c).1 hc,rfl⟩
  .rintro ⟨c,hc,rfl⟩;exact ⟨c,(CV c).2 hc,rfl⟩
 .rw [if_neg h1];have AX:k=0:=by omega
  subst AX;have ZK:g=[g[0]]:=by
   cases g with
   | nil=>simp at hk
   | cons a t=>cases t with
    | nil=>rfl
    | cons a2 t2=>simp at h1
  have hx:g[0] < l.length:=bn.2 _ (List.getElem_mem hk);have hgb:g[0]! = g[0]:=getElem!_pos g 0 hk;rw [hgb,Sl.bL];have hb:l[g[0]]! = l[g[0]]:=getElem!_pos l _ hx;have Ez:=h.BA.1.wf _ (List.getElem_mem hx);have hm:∀ q:Pt,bF q l[g[0]]! -> [q]∈jd p.facts.xs l g:=fun q hq=>by
   refine (Kq bn.1 hw).2 ⟨⟨by rw [ZK];rfl,fun k h1 h2=>?_⟩,fun f hf ha=>?_⟩
   .have AX:k=0:=by simp at h2;omega
    subst AX;exact hq
   .have w:=hw f hf ha;have h2:=w.b;have h3:=Db f hf;rw [ZK,List.mem_singleton] at ha h2;omega
  have key:∀ q:Pt,bF q l[g[0]]! -> ∃ pts,fZ p pts/\pts[g[0]]! = q:=fun q hq=>by
   obtain ⟨pts,hp,e⟩:=h.some he hg (hm q hq)
   refine ⟨pts,hp,?_⟩
   have h2:(pick pts g)[0]'(by rw [M0];exact hk)=pts[g[0]]! := KJ hk;rw [<- h2];simp only [e,List.getElem_cons_zero]
  rw [hb] at key ⊢;have JV:l[g[0]].x.lo<=l[g[0]].x.hi/\l[g[0]].y.lo<=l[g[0]].y.hi:=Ez;clear Ez;generalize l[g[0]]=b at *
  refine ⟨fun pts hp=>?_,?_,?_,?_,?_⟩
  .have:=((QF h.BA _).1 hp)
   have h2:=this.y8 g[0] (by rw [this.len];exact hx) hx;rw [getElem!_pos pts g[0] (by rw [this.len];exact hx),<- hb,getElem!_pos l _ hx];exact h2
  .obtain ⟨pts,hp,e⟩:=key ⟨b.x.lo,b.y.lo⟩ (by unfold bF;simp only;omega);exact ⟨pts,hp,by rw [e]⟩
  .obtain ⟨pts,hp,e⟩:=key ⟨b.x.hi,b.y.lo⟩ (by unfold bF;simp only;omega);exact ⟨pts,hp,by rw [e]⟩
  .obtain ⟨pts,hp,e⟩:=key ⟨b.x.lo,b.y.lo⟩ (by unfold bF;simp only;omega);exact ⟨pts,hp,by rw [e]⟩
  .obtain ⟨pts,hp,e⟩:=key ⟨b.x.lo,b.y.hi⟩ (by unfold bF;simp only;omega);exact ⟨pts,hp,by rw [e]⟩
theorem zqA (p:Problem):∃ D e E nS hS oS,ik p D e/\WR p E nS hS oS/\E=(rJ D e p.boxes.xs.length).2/\(if E≠0 then Sl.nil else hS).xs=(rJ D e p.boxes.xs.length).1:=by
 obtain ⟨D,e,E,nS,hS,oS,ns,cs,h⟩:=zn6 p;have hE:=zsM h;have Sj:E=(rJ D e p.boxes.xs.length).2:=by
  rw [hE];unfold Nj rJ
  split
  .rfl
  .split<;>rfl
 refine ⟨D,e,E,nS,hS,oS,h.so,h.sr,Sj,?_⟩
 by_cases h0:E=0
 .rw [if_neg (by simp [h0])];rw [h0] at Sj;obtain ⟨c0,_,hlen,sw⟩:=zrW h.so Sj.symm;have ok:=bT.1 c0;rcases h.sr with ⟨h1,_⟩|⟨_,_,h1,_⟩|⟨_,_,_,_,_,_,h1,_⟩|⟨_,l,m,N,hb,on,hr,hm,hv,hJ,rfl,rfl,rfl⟩
  .exact absurd c0 h1
  .omega
  .omega
  .have hf:=zs7 ok hr hm;have Xn:fV p ⟨xg ((zK m p.boxes.xs.length).map (zW p.facts.xs l)),(zK m p.boxes.xs.length).map (zW p.facts.xs l)⟩ 0:=.inr ⟨l,m,hr,hm,.inr ⟨hv,rfl,rfl⟩⟩;have he:e=0/\D.empty=false:=by
    rw [h0] at hE;unfold Nj at hE
    split at hE
    .omega
    .split at hE
     .omega
     .rename_i a b;exact ⟨Classical.byContradiction a,by simpa using b⟩
   obtain ⟨rfl,KF⟩:=he;obtain ⟨rfl,_⟩:=h.so.unique (.inr ⟨c0,Xn⟩);rw [Sl.bL];have hl:l.length=p.boxes.xs.length:=hr.1.sub.1;have ES:hb.length=p.boxes.xs.length:=by rw [hJ.hl,Sl.bL,hl]
   refine List.ext_getElem (by rw [ES,hlen]) fun i h1 h2=>?_
   obtain ⟨g,hg,xW⟩:=List.mem_flatten.1 ((hf.div.all i).1 (by omega));obtain ⟨k,hk,Hr⟩:=List.getElem_of_mem xW;have a1:=zsn ok hf KF hg hk;have a2:=(hJ.at_ g (by rw [List.take_length];exact hg) k hk).1;rw [Hr] at a1 a2;rw [<- a2] at a1;have a3:=sw i (by omega);have:=a1.unique a3;rw [getElem!_pos hb i h1,getElem!_pos _ i h2] at this;exact this
 .rw [if_pos h0];rw [Sj] at h0;unfold rJ at h0 ⊢
  split
  .rfl
  .rename_i a
   split
   .rfl
   .rename_i b;rw [if_neg a,if_neg b] at h0;exact absurd rfl h0
end Go.Proofs.YtmmhnfghklppiaaGreat.Vm
