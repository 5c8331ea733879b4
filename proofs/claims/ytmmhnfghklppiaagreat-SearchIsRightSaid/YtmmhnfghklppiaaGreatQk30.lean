/- A call that looks at memory of one's own. search.guilty: the first part without a solution, walked. -/
import Derived.Test.YtmmhnfghklppiaaGreatQk15
import Derived.Test.YtmmhnfghklppiaaGreatQk9
import Derived.Test.YtmmhnfghklppiaaGreatQk28
import Derived.Test.YtmmhnfghklppiaaGreatQk18
namespace Go.Proofs.YtmmhnfghklppiaaGreat.Vm
open Go
set_option linter.unusedSimpArgs false
set_option linter.unusedVariables false
theorem zcc {n f:Nat} {H:Heap} {args:List AV} {ps:List PV} {r:PV} (hs:G.shared f=false) (ha:FrzL H true zaF args ps) (h:zH G n f ps=some r) (hc:r.cold=true) :
  zG (zm G n) H (.pure (.func f [])) args=some (.val (.pure r)):=by
 obtain ⟨ids,ha⟩:=ha;have hs':(zm G n).shared f=false:=hs;have h':(zm G n).pure f ps=some r:=h;simp only [zG,List.map_nil,List.append_nil,hs',Bool.false_eq_true,if_false,ha,h',hc,Bool.or_true,if_true]
set_option maxHeartbeats 4000000
set_option maxRecDepth 4000
structure GuiltIn (p:Problem) (gs:List (List Nat)) (k:Nat):Prop where
 ok:CheckOk p
 cls:∃ m,IsCls (zaw p.facts.xs) p.boxes.xs.length m/\gs=zad m p.boxes.xs.length
 lt:k < gs.length
 no:zdC p gs[k]!
 first:∀ j,j < k->¬ zdC p gs[j]!
 vol:∀ g∈gs,volN p.boxes.xs g<=1000000000000000000
theorem GuiltIn.pos {p:Problem} {gs:List (List Nat)} {k:Nat} (h:GuiltIn p gs k) {g:List Nat} (hg:g∈gs):0 < g.length:=by
 obtain ⟨m,hm,hgs⟩:=h.cls;rw [hgs] at hg;obtain ⟨x,hx,hrx,rfl⟩:=mem_parts.1 hg;exact (zme hm (zbe h.ok) (zhJ h.ok) hx hrx).2.1
theorem zl0 (s:SeenD):(s.pv).cold=true:=by
 have h1':∀ o:Option (List Pt),(zW o).coldN 11=true:=fun o=>by
  cases o with
  | none=>rfl
  | some c=>simp [zW,Sl.pv,PV.coldN,Pt.cells]
 have h2:∀ (m:Nat) (B:List PV),(∀ x∈B,x.coldN 10=true)->(chunks 4 m B).all (fun e=>e.all (PV.coldN 10))=true:=by
  intro m
  induction m with
  | zero=>intro B _;rfl
  | succ m ih =>
   intro B hB;simp only [chunks,List.all_cons,Bool.and_eq_true]
   refine ⟨List.all_eq_true.2 fun x hx=>hB x (List.mem_of_mem_take hx),ih _ fun x hx=>hB x (List.mem_of_mem_drop hx)⟩
 have h3:∀ x∈s.ends.map zW,x.coldN 10=true:=fun x hx=>by
  obtain ⟨o,_,rfl⟩:=List.mem_map.1 hx
  cases o with
  | none=>rfl
  | some c=>simp [zW,Sl.pv,PV.coldN,Pt.cells]
 have h4:=h2 s.part.length _ h3;unfold SeenD.pv SeenD.cells PV.cold;simp only [PV.coldN,List.all_cons,List.all_nil,Bool.not_false,Bool.true_and,Bool.and_true,Bool.and_eq_true,Bool.or_eq_true]
 refine ⟨?_,?_,h1' _⟩
 ·simp [z8,PV.coldN]
 ·exact .inr h4
theorem zrr (p:Problem) (r:Option (List Box)):(PV.tup [zb5 p r,.bool r.isSome]).cold=true:=by
 have h:(zb5 p r).coldN 11=true:=by
  cases r with
  | none=>rfl
  | some l =>
   unfold zb5;simp only
   split
   ·rfl
   ·simp [Sl.pv,PV.coldN,Box.cells,Span.cells]
 unfold PV.cold PV.coldN;simp only [List.all_cons,List.all_nil,h,Bool.and_true,Bool.true_and];rfl
theorem zo4 {fs:List Fact} {g:List Nat} {a:Nat} (h:a < fs.length):oneF (fs.take (a+1)) g=if g.contains fs[a].a.toNat then oneF (fs.take a) g++[fs[a]] else oneF (fs.take a) g:=by
 unfold oneF;rw [<- zaN h,List.filter_append];simp only [List.filter_cons,List.filter_nil]
 split<;>simp
theorem zfc {g:List Nat} {a:Int} (h:0<=a):decide (a∈zT g)=g.contains a.toNat:=by
 rw [Bool.eq_iff_iff];simp only [decide_eq_true_eq,List.contains_eq_mem,zT,List.mem_map]
 constructor
 ·rintro ⟨x,hx,rfl⟩;simpa using hx
 ·intro hx;exact ⟨a.toNat,hx,by omega⟩
theorem zrz {H:Heap} {B V:AV} {bs:List Box} {fs:List Fact} (hB:OwnV Box.cells 4 H B bs) (hV:OwnV Fact.cells 9 H V fs):∃ q:Problem,q.boxes.xs=bs/\q.facts.xs=fs/\FrzK H true zaF (aggV [B,V]) (.agg q.cells):=by
 obtain ⟨s1,h1,f1⟩:=zhD (f:=Box.cells) (sz:=4) (n:=9) (fun _=>rfl) hB;obtain ⟨s2,h2,f2⟩:=zhD (f:=Fact.cells) (sz:=9) (n:=9) (fun _=>rfl) hV;exact ⟨⟨s1,s2⟩,h1,h2,FrzK.aggV (n:=11) (.cons f1 (.cons f2 .nil))⟩
theorem sh72:G.shared 72=false:=by decide
theorem e72 (n:Nat) (p:Problem) (gs:List (List Nat)) (k:Nat) (h:GuiltIn p gs k):zH G (n+52) 72 [.agg p.cells]=some (z8 gs[k]!):=by
 refine zy (zw _) rfl g72 rfl ?_
 obtain ⟨m,hm,hgs⟩:=h.cls;have ok:=h.ok;have nb:=ok.nb;have nf:=ok.nf;have hd:=zb7 hm (zbe ok);have hpo:=zeF m p.boxes.xs.length;have hp:=fun H=>ze (G:=G) (n:=n+51) (H:=H) (caps:=[]) (ps:=[.agg p.cells]) sh95 (e95 (n+49) p ok m hm);rw [<- hgs] at hd hpo hp;rw [zhO] at hp;have hlt:=h.lt;have hkI:(k:Int) < gs.length:=by omega
 have hH:=Hide.mk h;have hdH:=Hide.mk hd;have hpoH:=Hide.mk hpo;clear h hm hgs hd;have hfa:Hide (∀ f∈p.facts.xs,0<=f.a):=⟨fun f hf=>by have:=(zaD f _).1 (ok.fact f hf);omega⟩
 obtain ⟨bs,fs⟩:=p;have hbl:bs.xs.length < 1000:=by have:bs.xs.length<=12:=nb;omega
 have hfl:fs.xs.length<=60:=nf;have hgl:gs.length<=12:=by have h1:=hpo.1;have h2:bs.xs.length<=12:=nb;omega
 simp only [Problem.cells,List.map_cons,List.map_nil] at hp;have hco:Hide (∀ (g:List Nat) (x:Int),g.length<=12->0<=x->∀ H,zG (zm G (n+51)) H (.pure (.func 70 [])) [.pure ((Sl.mk false (zT g)).pv intF 1),.pure (.int .i64 x)]=some (.val (.pure (.bool (g.contains x.toNat))))):=⟨fun g x hg hx H=>by
  have:=ze (G:=G) (n:=n+51) (H:=H) (caps:=[]) (ps:=[(Sl.mk false (zT g)).pv intF 1,.int .i64 x]) sh70 (e70 (n+49) (Sl.mk false (zT g)) x (by rw [Sl.xs_mk,zaq];omega));rw [Sl.xs_mk,zfc hx] at this;exact this⟩
 obtain ⟨s,hs⟩:∃ s,s=Sl.of gs:=⟨_,rfl⟩
 have hsx:s.xs=gs:=by rw [hs,Sl.xs_of]
 rw [<- hs] at hp;clear hs hpo nb nf ok;obtain ⟨gk,hgk0⟩:∃ x,x=gs[k]! := ⟨_,rfl⟩
 rw [<- hgk0,zbv gk];have hgkH:=Hide.mk hgk0;clear hgk0;have hsl:s.xs.length=gs.length:=by rw [hsx]
 have hsH:=Hide.mk hsx;clear hsx;(repeat' first|simp [*,za,c72,Problem.cells]|(apply zb<;>intro _ h<;>try simp [-Nat.le_zero_eq] at h)|(show wpE 0 (zk ..) ..;refine zx ?_)|(refine zl fun v2 H2 hv2 hnx2 hget2 hnew2 hone2 hcel2=>?_))
 refine zF [(2,2),(4,5),(7,9),(13,57)] (fun (i:Nat) env H=>env 13=.pure (.int .i64 i)/\i<=k) (fun i=>gs.length - i) 0 ?_ ?_ ?_ ?_
 ·decide
 ·exact ⟨by simp,by omega⟩
 ·simp only [zA];omega
 rintro i env H ⟨g13,hi⟩;have w1:IntKind.i64.wrap ((i:Int)+1)=(i+1:Nat):=by rw [wrap64 (by omega) (by omega)];omega
 have hig:i < gs.length:=by omega
 have his:i < s.xs.length:=by omega
 have hisI:(i:Int) < gs.length:=by omega
 obtain ⟨g,hg⟩:∃ g,s.xs[i]=g:=⟨_,rfl⟩
 have hgg:gs[i]! = g:=by
  have e:=hsH.h;subst e;rw [getElem!_pos s.xs i his];exact hg
 have hgm:g∈gs:=by rw [<- hgg,getElem!_pos gs i hig];exact List.getElem_mem hig
 have hgl12:g.length<=12:=by have h1:=(hpoH.h.2 g hgm).1;have h2:=hH.h.ok.nb;omega
 have hggH:=Hide.mk hgg;have hgmH:=Hide.mk hgm;clear hgg hgm;(repeat' first|simp [*,za,zfg]|(apply zb<;>intro _ h<;>try simp [-Nat.le_zero_eq] at h)|(show wpE 0 (zk ..) ..;refine zx ?_)|(refine zl fun v2 H2 hv2 hnx2 hget2 hnew2 hone2 hcel2=>?_))
 refine zaO hbl ?_
 intro B H1 hB hBn hnx hsame hnew;have hone:=hB.one;have ho1:=hone.1;have ho2:=hone.2;have hBlow:Hide (∀ id,Names B id->id < H1.nx):=⟨fun id h=>hB.names_lt h⟩
 have hBH:=Hide.mk hB;obtain ⟨o,ho⟩:∃ o,H1.nx=o:=⟨_,rfl⟩
 clear hB hBn hone hsame hnew hnx;(repeat' first|simp [*,za]|(apply zb<;>intro _ h<;>try simp [-Nat.le_zero_eq] at h)|(show wpE 0 (zk ..) ..;refine zx ?_)|(refine zl fun v2 H2 hv2 hnx2 hget2 hnew2 hone2 hcel2=>?_))
 refine zF [(7,7),(24,38)] (fun (a:Nat) env H=>env 24=.pure (.int .i64 a)/\a<=fs.xs.length/\o < H.nx/\∃ V,H.get o=.cells true [B,V]/\Hide (OwnV Box.cells 4 H B bs.xs/\GrowV Fact.cells 9 H V (oneF (fs.xs.take a) g)/\(∀ id,Names V id->o < id))) (fun a=>fs.xs.length - a) 0 ?_ ?_ ?_ ?_
 ·decide
 ·refine ⟨by simp,by omega,by simp;omega,.pure .nils,?_,⟨?_,by simpa [oneF] using GrowV.nil,fun id ⟨_,_,_,h⟩=>by simp at h⟩⟩
  ·rw [zu (by simp;omega)]
  ·refine hBH.h.keep fun id ⟨n,hn⟩=>?_
   have:=hBlow.h id ⟨_,_,_,hn⟩;rw [zh (by omega)];exact zf this
 ·simp only [zA];omega
 rintro a env H ⟨g24,ha,hnx,V,h1,hV⟩;have hVo:=hV.h.2.1.1.one;have hVo1:=hVo.1;have hVo2:=hVo.2
 by_cases hlt2:a < fs.xs.length
 ·have w2:IntKind.i64.wrap ((a:Int)+1)=(a+1:Nat):=by rw [wrap64 (by omega) (by omega)];omega
  have hltI:(a:Int) < fs.xs.length:=by omega
  have hst:=zo4 (g:=g) hlt2;have hlen:(oneF (fs.xs.take a) g).length < 900:=by
   have:=List.length_filter_le (fun f:Fact=>g.contains f.a.toNat) (fs.xs.take a);rw [List.length_take] at this;unfold oneF;omega
  have hca:=hco.h g fs.xs[a].a hgl12 (hfa.h _ (List.getElem_mem hlt2));obtain ⟨F,hF⟩:∃ F,fs.xs[a]=F:=⟨_,rfl⟩
  rw [hF] at hst hca;obtain ⟨d1,d2,d3,da,db,dc,⟨d4,d5⟩,d6⟩:=F;simp only at hca hst;have hneo:o≠H.nx:=by omega
  have hneo2:H.nx≠o:=by omega
  clear hVo
  cases hq:g.contains da.toNat with
  | true =>
   rw [hq,if_pos rfl] at hst;rw [hq] at hca;have hstH:=Hide.mk hst;clear hst hq;(repeat' first|simp [*,za,Fact.cells,Span.cells]|(apply zb<;>intro _ h<;>try simp [-Nat.le_zero_eq] at h)|(show wpE 0 (zk ..) ..;refine zx ?_)|(refine zl fun v2 H2 hv2 hnx2 hget2 hnew2 hone2 hcel2=>?_))
   refine zaU (f:=Fact.cells) (sz:=9) (l:=oneF (fs.xs.take a) g) ((hV.h.2.1.setNew _ _).alloc _) (fun _=>rfl) (by decide) (fun _=>rfl) (by unfold zn;omega) ⟨⟨d1,d2,d3,da,db,dc,⟨d4,d5⟩,d6⟩,by simp [Fact.cells,Span.cells],?_⟩
   intro V4 H4 hg4 ha4;have hgo:∀ c,c < H.nx->¬ Names V c->H4.get c=H.get c:=fun c hc hn=>by rw [ha4.get c (by rw [zan,zaG,zan];omega) hn,zf (by rw [zaG,zan];omega),zh (by omega),zf hc]
   have k1:H4.get o=.cells true [B,V]:=by rw [hgo o hnx (fun hn=>by have:=hV.h.2.2 o hn;omega)];exact h1
   have gn:o < H4.nx:=by have:=ha4.nx;rw [zan,zaG,zan] at this;omega
   have hV4:Hide (OwnV Box.cells 4 H4 B bs.xs/\GrowV Fact.cells 9 H4 V4 (oneF (fs.xs.take (a+1)) g)/\∀ id,Names V4 id->o < id):=⟨hV.h.1.keep fun id ⟨m,hm⟩=>by
    have h8:=hBlow.h id ⟨_,_,_,hm⟩;exact hgo id (by omega) (fun h2=>by have:=hV.h.2.2 id h2;omega),by rw [hstH.h];exact hg4,fun id hn=>by have:=ha4.new id hn;rw [zan,zaG,zan] at this;omega⟩
   have o4:=hg4.1.one;have o4a:=o4.1;have o4b:=o4.2;clear hg4 ha4 o4 hV hgo h1;(repeat' first|simp [*,za]|(apply zb<;>intro _ h<;>try simp [-Nat.le_zero_eq] at h)|(show wpE 0 (zk ..) ..;refine zx ?_)|(refine zl fun v2 H2 hv2 hnx2 hget2 hnew2 hone2 hcel2=>?_))
   refine ⟨a+1,by omega,by omega,by omega,⟨hV4.h.1.keep fun id ⟨m,hm⟩=>?_,hV4.h.2.1.set (fun hn=>by have:=hV4.h.2.2 o hn;omega) _,hV4.h.2.2⟩⟩
   have h8:=hBlow.h id ⟨_,_,_,hm⟩;exact zh (by omega)
  | false =>
   rw [hq,if_neg (by simp)] at hst;rw [hq] at hca;have hstH:=Hide.mk hst;have hB2:Hide (∀ o1 o2,OwnV Box.cells 4 ((H.alloc o1).set H.nx o2) B bs.xs):=⟨fun o1 o2=>hV.h.1.keep fun id ⟨m,hm⟩=>by
    have h8:=hBlow.h id ⟨_,_,_,hm⟩;rw [zh (by omega),zf (by omega)]⟩
   clear hst hq;(repeat' first|simp [*,za,Fact.cells,Span.cells]|(apply zb<;>intro _ h<;>try simp [-Nat.le_zero_eq] at h)|(show wpE 0 (zk ..) ..;refine zx ?_)|(refine zl fun v2 H2 hv2 hnx2 hget2 hnew2 hone2 hcel2=>?_));exact ⟨a+1,by omega,by omega,by omega,by omega,⟨hB2.h _ _,by rw [hstH.h];exact hV.h.2.1.setNew _ _,hV.h.2.2⟩⟩
 ·have haN:a=fs.xs.length:=by omega
  subst haN;rw [List.take_length] at hV;obtain ⟨q,hq1,hq2,hqf⟩:=zrz hV.h.1 hV.h.2.1.1;have okp:=hH.h.ok;have okq:CheckOk q:=zsb (p:=⟨bs,fs⟩) okp hq1 hq2;have hgd:=hdH.h;have hgmm:=hgmH.h;obtain ⟨r,hr⟩:=zkv (zbJ okq) (zbx okq);have hn:zG (zm G (n+51)) H (.pure (.func 62 [])) [aggV [B,V]]=some (.val (.pure (.tup [zb5 q r,.bool r.isSome]))):=zcc sh62 (.cons hqf .nil) (e62 (n+44) q okq r hr) (zrr q r)
  cases r with
  | none =>
   have hno:zdC ⟨bs,fs⟩ g:=zlG (p:=⟨bs,fs⟩) hq1 hq2 hr;have hik:i=k:=by
    refine Classical.byContradiction fun hc=>hH.h.first i (by omega) ?_
    rw [hggH.h];exact hno
   have hgk:gk=g:=by rw [hgkH.h,<- hik];exact hggH.h
   have hnone:zb5 q none=.nils:=rfl;rw [hnone] at hn;subst hgk;clear hV hdH hgd hH hpoH hsH;(repeat' first|simp [*,za]|(apply zb<;>intro _ h<;>try simp [-Nat.le_zero_eq] at h)|(show wpE 0 (zk ..) ..;refine zx ?_)|(refine zl fun v2 H2 hv2 hnx2 hget2 hnew2 hone2 hcel2=>?_))
  | some l =>
   have hls:l.length=q.boxes.xs.length:=hr.1.sub.1;obtain ⟨L,hL,hLx⟩:=znG hls;have hgi:=hgd.one g hgmm;have hwl:Wf L.xs:=by rw [hLx];exact hr.1.wf
   have hsl:SubL L.xs q.boxes.xs:=by rw [hLx];exact hr.1.sub
   have hlk:LookIn q L g:=⟨okq,hsl,hwl,hgi.1,fun x hx=>by rw [hLx,hls,hq1];exact hgi.2 x hx,hH.h.pos hgmm,hgl12,fun f hf hfa=>by rw [hq2] at hf;exact hgd.within f (mem_oneF.1 hf).1 g hgmm hfa,fun _=>by
    have h1:=zrf (fs:=q.facts.xs) hwl hsl (g:=g) (fun x hx=>by rw [hLx,hls,hq1];exact hgi.2 x hx);have h2:=hH.h.vol g hgmm;rw [hq1] at h1;exact Nat.le_trans h1 h2⟩
   have hk:zG (zm G (n+51)) H (.pure (.func 97 [])) [aggV [B,V],.pure (L.pv Box.cells 4),.pure (z8 g)]=some (.val (.pure (zaf q.facts.xs L.xs g).pv)):=zcc sh97 (.cons hqf (.cons (.pure _) (.cons (.pure _) .nil))) (e97 (n+1) q L g hlk) (zl0 _);have hgs:=zmu (p:=⟨bs,fs⟩) okp hgd hgmm hq1 hq2 hr;rw [hL] at hn;rw [hLx] at hk;obtain ⟨D,hD⟩:∃ D,zaf q.facts.xs l g=D:=⟨_,rfl⟩
   rw [hD] at hk hgs;have hpvE:D.pv=.ptr false [z8 D.part,.int .i64 D.n,.slice false 4 (chunks 4 D.part.length (D.ends.map zW)),zW D.first] 0:=rfl;rw [hpvE] at hk;obtain ⟨nn,hnn⟩:∃ nn:Int,nn=D.n:=⟨_,rfl⟩
   rw [<- hnn] at hk;simp only [zbv g] at hk;generalize z8 D.part=pp at *;generalize chunks 4 D.part.length (D.ends.map zW)=cc at *;generalize zW D.first=oo at *
   by_cases hz:nn=0
   ·have hno:zdC ⟨bs,fs⟩ g:=hgs.1 (by omega);have hik:i=k:=by
     refine Classical.byContradiction fun hc=>hH.h.first i (by omega) ?_
     rw [hggH.h];exact hno
    have hgk:gk=g:=by rw [hgkH.h,<- hik];exact hggH.h
    subst hgk;subst hz;clear hV hdH hgd hH hpoH hsH hgs hlk hno hgmm hD;(repeat' first|simp [*,za]|(apply zb<;>intro _ h<;>try simp [-Nat.le_zero_eq] at h)|(show wpE 0 (zk ..) ..;refine zx ?_)|(refine zl fun v2 H2 hv2 hnx2 hget2 hnew2 hone2 hcel2=>?_))
   ·have hno:¬ zdC ⟨bs,fs⟩ g:=fun h=>hz (by have:=hgs.2 h;omega);have hik:i≠k:=fun e=>hno (by have:=hH.h.no;rw [<- e,hggH.h] at this;exact this);have hik2:i+1<=k:=by omega
    clear hV hdH hgd hpoH hsH hgs hlk hno hgmm hD hnn hpvE;(repeat' first|simp [*,za]|(apply zb<;>intro _ h<;>try simp [-Nat.le_zero_eq] at h)|(show wpE 0 (zk ..) ..;refine zx ?_)|(refine zl fun v2 H2 hv2 hnx2 hget2 hnew2 hone2 hcel2=>?_));exact ⟨i+1,by omega,by omega,by omega⟩
end Go.Proofs.YtmmhnfghklppiaaGreat.Vm
