/- A call that looks at memory of one's own. search.guilty: the first part without a solution, walked. -/
import Derived.Test.YtmmhnfghklppiaaGreatWk14
import Derived.Test.YtmmhnfghklppiaaGreatWk8
import Derived.Test.YtmmhnfghklppiaaGreatWk27
import Derived.Test.YtmmhnfghklppiaaGreatWk17
namespace Go.Proofs.YtmmhnfghklppiaaGreat.Vm
open Go
set_option linter.unusedSimpArgs false
set_option linter.unusedVariables false
theorem JE {n f:Nat} {H:Heap} {args:List AV} {ps:List PV} {r:PV} (hs:G.shared f=false) (ha:FrzL H true qw args ps) (h:zK G n f ps=some r) (hc:r.cold=true) :
  zH (zu G n) H (.pure (.func f [])) args=some (.val (.pure r)):=by
 obtain ⟨ids,ha⟩:=ha;have oC:(zu G n).shared f=false:=hs;have h':(zu G n).pure f ps=some r:=h;simp only [zH,List.map_nil,List.append_nil,oC,Bool.false_eq_true,if_false,ha,h',hc,Bool.or_true,if_true]
set_option maxHeartbeats 4000000
set_option maxRecDepth 4000
structure ja (p:Problem) (gs:List (List Nat)) (k:Nat):Prop where
 ok:ae p
 cls:∃ m,bV (pF p.facts.xs) p.boxes.xs.length m/\gs=pG m p.boxes.xs.length
 lt:k < gs.length
 no:EI p gs[k]!
 first:∀ j,j < k->¬ EI p gs[j]!
 vol:∀ g∈gs,fB p.boxes.xs g<=1000000000000000000
theorem ja.pos {p:Problem} {gs:List (List Nat)} {k:Nat} (h:ja p gs k) {g:List Nat} (hg:g∈gs):0 < g.length:=by
 obtain ⟨m,hm,vJ⟩:=h.cls;rw [vJ] at hg;obtain ⟨x,hx,UY,rfl⟩:=jK.1 hg;exact (zlr hm (JC h.ok) (ziC h.ok) hx UY).2.1
theorem zlF (s:fE):(s.pv).cold=true:=by
 have tO:∀ o:Option (List Pt),(iN o).iT 11=true:=fun o=>by
  cases o with
  | none=>rfl
  | some c=>simp [iN,Sl.pv,PV.iT,Pt.cells]
 have h2:∀ (m:Nat) (B:List PV),(∀ x∈B,x.iT 10=true)->(chunks 4 m B).all (fun e=>e.all (PV.iT 10))=true:=by
  intro m
  induction m with
  | zero=>intro B _;rfl
  | succ m ih =>
   intro B hB;simp only [chunks,List.all_cons,Bool.and_eq_true]
   refine ⟨List.all_eq_true.2 fun x hx=>hB x (List.mem_of_mem_take hx),ih _ fun x hx=>hB x (List.mem_of_mem_drop hx)⟩
 have h3:∀ x∈s.ends.map iN,x.iT 10=true:=fun x hx=>by
  obtain ⟨o,_,rfl⟩:=List.mem_map.1 hx
  cases o with
  | none=>rfl
  | some c=>simp [iN,Sl.pv,PV.iT,Pt.cells]
 have h4:=h2 s.part.length _ h3;unfold fE.pv fE.cells PV.cold;simp only [PV.iT,List.all_cons,List.all_nil,Bool.not_false,Bool.true_and,Bool.and_true,Bool.and_eq_true,Bool.or_eq_true]
 refine ⟨?_,?_,tO _⟩
 .simp [lK,PV.iT]
 .exact .inr h4
theorem zqJ (p:Problem) (r:Option (List Box)):(PV.aQ [EC p r,.bool r.isSome]).cold=true:=by
 have h:(EC p r).iT 11=true:=by
  cases r with
  | none=>rfl
  | some l =>
   unfold EC;simp only
   split
   .rfl
   .simp [Sl.pv,PV.iT,Box.cells,Span.cells]
 unfold PV.cold PV.iT;simp only [List.all_cons,List.all_nil,h,Bool.and_true,Bool.true_and];rfl
theorem zqf {fs:List Fact} {g:List Nat} {a:Nat} (h:a < fs.length):fC (fs.take (a+1)) g=if g.contains fs[a].a.toNat then fC (fs.take a) g++[fs[a]] else fC (fs.take a) g:=by
 unfold fC;rw [<- E5 h,List.filter_append];simp only [List.filter_cons,List.filter_nil]
 split<;>simp
theorem zfS {g:List Nat} {a:Int} (h:0<=a):decide (a∈zZ g)=g.contains a.toNat:=by
 rw [Bool.eq_iff_iff];simp only [decide_eq_true_eq,List.contains_eq_mem,zZ,List.mem_map]
 constructor
 .rintro ⟨x,hx,rfl⟩;simpa using hx
 .intro hx;exact ⟨a.toNat,hx,by omega⟩
theorem zq9 {H:Heap} {B V:AV} {bs:List Box} {fs:List Fact} (hB:bL Box.cells 4 H B bs) (hV:bL Fact.cells 9 H V fs):∃ q:Problem,q.boxes.xs=bs/\q.facts.xs=fs/\FrzK H true qw (iA [B,V]) (.agg q.cells):=by
 obtain ⟨s1,h1,f1⟩:=Ud (f:=Box.cells) (sz:=4) (n:=9) (fun _=>rfl) hB;obtain ⟨s2,h2,f2⟩:=Ud (f:=Fact.cells) (sz:=9) (n:=9) (fun _=>rfl) hV;exact ⟨⟨s1,s2⟩,h1,h2,FrzK.iA (n:=11) (.cons f1 (.cons f2 .nil))⟩
theorem sh72:G.shared 72=false:=by decide
theorem e72 (n:Nat) (p:Problem) (gs:List (List Nat)) (k:Nat) (h:ja p gs k):zK G (n+52) 72 [.agg p.cells]=some (lK gs[k]!):=by
 refine zz (zy _) rfl g72 rfl ?_
 obtain ⟨m,hm,vJ⟩:=h.cls;have ok:=h.ok;have nb:=ok.nb;have nf:=ok.nf;have hd:=MS hm (JC ok);have Dk:=UJ m p.boxes.xs.length;have hp:=fun H=>ze (G:=G) (n:=n+51) (H:=H) (caps:=[]) (ps:=[.agg p.cells]) sh95 (e95 (n+49) p ok m hm);rw [<- vJ] at hd Dk hp;rw [ziw] at hp;have aO:=h.lt;have M0:(k:Int) < gs.length:=by omega
 have hH:=Hide.mk h;have XC:=Hide.mk hd;have KZ:=Hide.mk Dk;clear h hm vJ hd;have Rb:Hide (∀ f∈p.facts.xs,0<=f.a):=⟨fun f hf=>by have:=(CZ f _).1 (ok.fact f hf);omega⟩
 obtain ⟨bs,fs⟩:=p;have lT:bs.xs.length < 1000:=by have:bs.xs.length<=12:=nb;omega
 have pR:fs.xs.length<=60:=nf;have nY:gs.length<=12:=by have h1:=Dk.1;have h2:bs.xs.length<=12:=nb;omega
 simp only [Problem.cells,List.map] at hp;have MF:Hide (∀ (g:List Nat) (x:Int),g.length<=12->0<=x->∀ H,zH (zu G (n+51)) H (.pure (.func 70 [])) [.pure ((Sl.mk false (zZ g)).pv aI 1),.pure (.int .i64 x)]=some (.val (.pure (.bool (g.contains x.toNat))))):=⟨fun g x hg hx H=>by
  have:=ze (G:=G) (n:=n+51) (H:=H) (caps:=[]) (ps:=[(Sl.mk false (zZ g)).pv aI 1,.int .i64 x]) sh70 (e70 (n+49) (Sl.mk false (zZ g)) x (by rw [Sl.iW,Ez];omega));rw [Sl.iW,zfS hx] at this;exact this⟩
 obtain ⟨s,hs⟩:∃ s,s=Sl.of gs:=⟨_,rfl⟩
 have yn:s.xs=gs:=by rw [hs,Sl.iV]
 rw [<- hs] at hp;clear hs Dk nb nf ok;obtain ⟨gk,PE⟩:∃ x,x=gs[k]! := ⟨_,rfl⟩
 rw [<- PE,Jv gk];have UZ:=Hide.mk PE;clear PE;have pV:s.xs.length=gs.length:=by rw [yn]
 have Iq:=Hide.mk yn;clear yn;(repeat' first|simp [*,zb,c72,Problem.cells]|(apply za<;>intro _ h<;>try simp [-Nat.le_zero_eq] at h)|(show wpE 0 (zm ..) ..;refine zA ?_)|(refine zt fun v2 H2 fD aY aJ aK aL aM=>?_))
 refine zL [(2,2),(4,5),(7,9),(13,57)] (fun (i:Nat) env H=>env 13=.pure (.int .i64 i)/\i<=k) (fun i=>gs.length - i) 0 ?_ ?_ ?_ ?_
 .decide
 .exact ⟨by simp,by omega⟩
 .simp only [zF];omega
 rintro i env H ⟨g13,hi⟩;have w1:IntKind.i64.wrap ((i:Int)+1)=(i+1:Nat):=by rw [wrap64 (by omega) (by omega)];omega
 have yh:i < gs.length:=by omega
 have qy:i < s.xs.length:=by omega
 have hisI:(i:Int) < gs.length:=by omega
 obtain ⟨g,hg⟩:∃ g,s.xs[i]=g:=⟨_,rfl⟩
 have QT:gs[i]! = g:=by
  have e:=Iq.h;subst e;rw [getElem!_pos s.xs i qy];exact hg
 have Nr:g∈gs:=by rw [<- QT,getElem!_pos gs i yh];exact List.getElem_mem yh
 have IP:g.length<=12:=by have h1:=(KZ.h.2 g Nr).1;have h2:=hH.h.ok.nb;omega
 have IQ:=Hide.mk QT;have hgmH:=Hide.mk Nr;clear QT Nr;(repeat' first|simp [*,zb,Ju]|(apply za<;>intro _ h<;>try simp [-Nat.le_zero_eq] at h)|(show wpE 0 (zm ..) ..;refine zA ?_)|(refine zt fun v2 H2 fD aY aJ aK aL aM=>?_))
 refine Ff lT ?_
 intro B H1 hB FN bX ah aR;have bG:=hB.one;have S9:=bG.1;have ho2:=bG.2;have EJ:Hide (∀ id,Names B id->id < H1.nx):=⟨fun id h=>hB.names_lt h⟩
 have hBH:=Hide.mk hB;obtain ⟨o,ho⟩:∃ o,H1.nx=o:=⟨_,rfl⟩
 clear hB FN bG ah aR bX;(repeat' first|simp [*,zb]|(apply za<;>intro _ h<;>try simp [-Nat.le_zero_eq] at h)|(show wpE 0 (zm ..) ..;refine zA ?_)|(refine zt fun v2 H2 fD aY aJ aK aL aM=>?_))
 refine zL [(7,7),(24,38)] (fun (a:Nat) env H=>env 24=.pure (.int .i64 a)/\a<=fs.xs.length/\o < H.nx/\∃ V,H.get o=.cells true [B,V]/\Hide (bL Box.cells 4 H B bs.xs/\aD Fact.cells 9 H V (fC (fs.xs.take a) g)/\(∀ id,Names V id->o < id))) (fun a=>fs.xs.length - a) 0 ?_ ?_ ?_ ?_
 .decide
 .refine ⟨by simp,by omega,by simp;omega,.pure .nils,?_,⟨?_,by simpa [fC] using aD.nil,fun id ⟨_,_,_,h⟩=>by simp at h⟩⟩
  .rw [zn (by simp;omega)]
  .refine hBH.h.keep fun id ⟨n,hn⟩=>?_
   have:=EJ.h id ⟨_,_,_,hn⟩;rw [zf (by omega)];exact zg this
 .simp only [zF];omega
 rintro a env H ⟨g24,ha,bX,V,h1,hV⟩;have yo:=hV.h.2.1.1.one;have KU:=yo.1;have KW:=yo.2
 by_cases oK:a < fs.xs.length
 .have w2:IntKind.i64.wrap ((a:Int)+1)=(a+1:Nat):=by rw [wrap64 (by omega) (by omega)];omega
  have qh:(a:Int) < fs.xs.length:=by omega
  have fA:=zqf (g:=g) oK;have hlen:(fC (fs.xs.take a) g).length < 900:=by
   have:=List.length_filter_le (fun f:Fact=>g.contains f.a.toNat) (fs.xs.take a);rw [List.length_take] at this;unfold fC;omega
  have Gs:=MF.h g fs.xs[a].a IP (Rb.h _ (List.getElem_mem oK));obtain ⟨F,hF⟩:∃ F,fs.xs[a]=F:=⟨_,rfl⟩
  rw [hF] at fA Gs;obtain ⟨d1,d2,d3,da,db,dc,⟨d4,d5⟩,d6⟩:=F;simp only at Gs fA;have hneo:o≠H.nx:=by omega
  have hneo2:H.nx≠o:=by omega
  clear yo
  cases hq:g.contains da.toNat with
  | true =>
   rw [hq,if_pos rfl] at fA;rw [hq] at Gs;have wF:=Hide.mk fA;clear fA hq;(repeat' first|simp [*,zb,Fact.cells,Span.cells]|(apply za<;>intro _ h<;>try simp [-Nat.le_zero_eq] at h)|(show wpE 0 (zm ..) ..;refine zA ?_)|(refine zt fun v2 H2 fD aY aJ aK aL aM=>?_))
   refine H8 (f:=Fact.cells) (sz:=9) (l:=fC (fs.xs.take a) g) ((hV.h.2.1.nz _ _).alloc _) (fun _=>rfl) (by decide) (fun _=>rfl) (by unfold zo;omega) ⟨⟨d1,d2,d3,da,db,dc,⟨d4,d5⟩,d6⟩,by simp [Fact.cells,Span.cells],?_⟩
   intro V4 H4 nK wG;have tY:∀ c,c < H.nx->¬ Names V c->H4.get c=H.get c:=fun c hc hn=>by rw [wG.get c (by rw [rC,mi,rC];omega) hn,zg (by rw [mi,rC];omega),zf (by omega),zg hc]
   have k1:H4.get o=.cells true [B,V]:=by rw [tY o bX (fun hn=>by have:=hV.h.2.2 o hn;omega)];exact h1
   have gn:o < H4.nx:=by have:=wG.nx;rw [rC,mi,rC] at this;omega
   have xh:Hide (bL Box.cells 4 H4 B bs.xs/\aD Fact.cells 9 H4 V4 (fC (fs.xs.take (a+1)) g)/\∀ id,Names V4 id->o < id):=⟨hV.h.1.keep fun id ⟨m,hm⟩=>by
    have h8:=EJ.h id ⟨_,_,_,hm⟩;exact tY id (by omega) (fun h2=>by have:=hV.h.2.2 id h2;omega),by rw [wF.h];exact nK,fun id hn=>by have:=wG.new id hn;rw [rC,mi,rC] at this;omega⟩
   have o4:=nK.1.one;have Q5:=o4.1;have Q7:=o4.2;clear nK wG o4 hV tY h1;(repeat' first|simp [*,zb]|(apply za<;>intro _ h<;>try simp [-Nat.le_zero_eq] at h)|(show wpE 0 (zm ..) ..;refine zA ?_)|(refine zt fun v2 H2 fD aY aJ aK aL aM=>?_))
   refine ⟨a+1,by omega,by omega,by omega,⟨xh.h.1.keep fun id ⟨m,hm⟩=>?_,xh.h.2.1.set (fun hn=>by have:=xh.h.2.2 o hn;omega) _,xh.h.2.2⟩⟩
   have h8:=EJ.h id ⟨_,_,_,hm⟩;exact zf (by omega)
  | false =>
   rw [hq,if_neg (by simp)] at fA;rw [hq] at Gs;have wF:=Hide.mk fA;have M5:Hide (∀ o1 o2,bL Box.cells 4 ((H.alloc o1).set H.nx o2) B bs.xs):=⟨fun o1 o2=>hV.h.1.keep fun id ⟨m,hm⟩=>by
    have h8:=EJ.h id ⟨_,_,_,hm⟩;rw [zf (by omega),zg (by omega)]⟩
   clear fA hq;(repeat' first|simp [*,zb,Fact.cells,Span.cells]|(apply za<;>intro _ h<;>try simp [-Nat.le_zero_eq] at h)|(show wpE 0 (zm ..) ..;refine zA ?_)|(refine zt fun v2 H2 fD aY aJ aK aL aM=>?_));exact ⟨a+1,by omega,by omega,by omega,by omega,⟨M5.h _ _,by rw [wF.h];exact hV.h.2.1.nz _ _,hV.h.2.2⟩⟩
 .have MW:a=fs.xs.length:=by omega
  subst MW;rw [List.take_length] at hV;obtain ⟨q,Je,Q0,hqf⟩:=zq9 hV.h.1 hV.h.2.1.1;have okp:=hH.h.ok;have Gt:ae q:=zsR (p:=⟨bs,fs⟩) okp Je Q0;have ME:=XC.h;have Dr:=hgmH.h;obtain ⟨r,hr⟩:=TA (KE Gt) (vI Gt);have hn:zH (zu G (n+51)) H (.pure (.func 62 [])) [iA [B,V]]=some (.val (.pure (.aQ [EC q r,.bool r.isSome]))):=JE sh62 (.cons hqf .nil) (e62 (n+44) q Gt r hr) (zqJ q r)
  cases r with
  | none =>
   have qQ:EI ⟨bs,fs⟩ g:=zhl (p:=⟨bs,fs⟩) Je Q0 hr;have Jh:i=k:=by
    refine Classical.byContradiction fun hc=>hH.h.first i (by omega) ?_
    rw [IQ.h];exact qQ
   have Fg:gk=g:=by rw [UZ.h,<- Jh];exact IQ.h
   have Ap:EC q none=.nils:=rfl;rw [Ap] at hn;subst Fg;clear hV XC ME hH KZ Iq;simp [*,zb]
  | some l =>
   have Bv:l.length=q.boxes.xs.length:=hr.1.sub.1;obtain ⟨L,hL,U0⟩:=zr7 Bv;have Ht:=ME.one g Dr;have IU:Wf L.xs:=by rw [U0];exact hr.1.wf
   have pV:aP L.xs q.boxes.xs:=by rw [U0];exact hr.1.sub
   have EB:Dj q L g:=⟨Gt,pV,IU,Ht.1,fun x hx=>by rw [U0,Bv,Je];exact Ht.2 x hx,hH.h.pos Dr,IP,fun f hf Rb=>by rw [Q0] at hf;exact ME.within f (bB.1 hf).1 g Dr Rb,fun _=>by
    have h1:=zq6 (fs:=q.facts.xs) IU pV (g:=g) (fun x hx=>by rw [U0,Bv,Je];exact Ht.2 x hx);have h2:=hH.h.vol g Dr;rw [Je] at h1;exact Nat.le_trans h1 h2⟩
   have hk:zH (zu G (n+51)) H (.pure (.func 97 [])) [iA [B,V],.pure (L.pv Box.cells 4),.pure (lK g)]=some (.val (.pure (jE q.facts.xs L.xs g).pv)):=JE sh97 (.cons hqf (.cons (.pure _) (.cons (.pure _) .nil))) (e97 (n+1) q L g EB) (zlF _);have vJ:=zly (p:=⟨bs,fs⟩) okp ME Dr Je Q0 hr;rw [hL] at hn;rw [U0] at hk;obtain ⟨D,hD⟩:∃ D,jE q.facts.xs l g=D:=⟨_,rfl⟩
   rw [hD] at hk vJ;have FE:D.pv=.ptr false [lK D.part,.int .i64 D.n,.slice false 4 (chunks 4 D.part.length (D.ends.map iN)),iN D.first] 0:=rfl;rw [FE] at hk;obtain ⟨nn,Q4⟩:∃ nn:Int,nn=D.n:=⟨_,rfl⟩
   rw [<- Q4] at hk;simp only [Jv g] at hk;generalize lK D.part=pp at *;generalize chunks 4 D.part.length (D.ends.map iN)=cc at *;generalize iN D.first=oo at *
   by_cases hz:nn=0
   .have qQ:EI ⟨bs,fs⟩ g:=vJ.1 (by omega);have Jh:i=k:=by
     refine Classical.byContradiction fun hc=>hH.h.first i (by omega) ?_
     rw [IQ.h];exact qQ
    have Fg:gk=g:=by rw [UZ.h,<- Jh];exact IQ.h
    subst Fg;subst hz;clear hV XC ME hH KZ Iq vJ EB qQ Dr hD;simp [*,zb]
   .have qQ:¬ EI ⟨bs,fs⟩ g:=fun h=>hz (by have:=vJ.2 h;omega);have Jh:i≠k:=fun e=>qQ (by have:=hH.h.no;rw [<- e,IQ.h] at this;exact this);have hik2:i+1<=k:=by omega
    clear hV XC ME KZ Iq vJ EB qQ Dr hD Q4 FE;(repeat' first|simp [*,zb]|(apply za<;>intro _ h<;>try simp [-Nat.le_zero_eq] at h)|(show wpE 0 (zm ..) ..;refine zA ?_)|(refine zt fun v2 H2 fD aY aJ aK aL aM=>?_));exact ⟨i+1,by omega,by omega,by omega⟩
end Go.Proofs.YtmmhnfghklppiaaGreat.Vm
