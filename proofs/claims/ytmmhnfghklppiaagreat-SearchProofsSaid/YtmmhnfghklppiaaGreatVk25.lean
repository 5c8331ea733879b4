/- Narrow, Parts and Volume: the program's, walked. find and solved: what is seen of all parts, walked. solved, Count: the program's, walked. found.hull and Hull: the program's, walked. What find, Count, Hull and Decide say of the solutions. Plain Lean. A part without a solution: what its tree grows by, and that the tree fits. Plain Lean. The part that has no solution; walking through a tree. Plain Lean. -/
import Derived.Test.YtmmhnfghklppiaaGreatVk22
import Derived.Test.YtmmhnfghklppiaaGreatVk24
import Derived.Test.YtmmhnfghklppiaaGreatVk17
import Derived.Test.YtmmhnfghklppiaaGreatVk8
namespace Go.Proofs.YtmmhnfghklppiaaGreat.Vm
open Go
set_option linter.unusedSimpArgs false
set_option linter.unusedVariables false
set_option maxHeartbeats 4000000
set_option maxRecDepth 4000
theorem zp9 {p:Problem} {l:List Box} (hl:l.length=p.boxes.xs.length):∃ q:Sl Box,BX p (some l)=q.pv Box.cells 4/\q.xs=l:=by
 obtain ⟨bs,fs⟩:=p
 cases bs with
 | nil =>
  have:l=[]:=List.eq_nil_of_length_eq_zero hl;subst this;exact ⟨.nil,rfl,rfl⟩
 | mk h xs=>exact ⟨.mk false l,rfl,rfl⟩
theorem RN (m:Nat->Nat) (n:Nat):(z8 m n).length<=n/\∀ l∈z8 m n,l.length<=n/\∀ k∈l,k < n:=by
 refine ⟨zgR m n n,fun l hl=>?_⟩
 obtain ⟨i,_,_,rfl⟩:=iV.1 hl;exact ⟨ziC m i n,fun k hk=>(bH.1 hk).1⟩
structure bB where
 empty:Bool
 bJ:List bX
def GJ (s:bX):List PV:=[s.pv]
@[simp] def bB.cells (D:bB):List PV:=[.bool D.empty,(Sl.of D.bJ).pv GJ 1]
def Cb (L:List bX):Bool:=L.any fun s=>s.n == 0
theorem zkK (L:List bX) (s:bX):Cb (L++[s])=(Cb L||decide ((s.n:Int)=0)):=by
 unfold Cb;rw [List.any_append];simp only [List.any_cons,List.any_nil,Bool.or_false]
 congr 1
 rw [Bool.eq_iff_iff];simp
def aX (p:Problem) (D:bB) (e:Int):Prop:=(bN lG p.facts.xs p.boxes.xs none/\D=⟨true,[]⟩/\e=0) \/
 ∃ l m,bN lG p.facts.xs p.boxes.xs (some l)/\bF (nz p.facts.xs) p.boxes.xs.length m /\
  ((65536 < nC l (z8 m p.boxes.xs.length)/\D=⟨false,[]⟩/\e=2) \/
   (nC l (z8 m p.boxes.xs.length)<=65536/\D=⟨Cb ((z8 m p.boxes.xs.length).map (jS p.facts.xs l)),(z8 m p.boxes.xs.length).map (jS p.facts.xs l)⟩/\e=0))
theorem ZP {b:List Box}:∀ {ps:List (List Nat)} {x:Int} {g:List Nat},g∈ps->nA b g<=ps.foldl (fun x l=>max x (nA b l)) x
 | a::ps,x,g,h=>by
  rw [List.foldl_cons];rcases List.mem_cons.1 h with rfl|h
  .have mono:∀ (ps:List (List Nat)) (x:Int),x<=ps.foldl (fun x l=>max x (nA b l)) x:=by
    intro ps
    induction ps with
    | nil=>intro x;exact Int.le_refl _
    | cons a ps ih=>intro x;have:=ih (max x (nA b a));rw [List.foldl_cons];omega
   have:=mono ps (max x (nA b g));omega
  .exact ZP h
theorem IV {p:Problem} (ok:af p):∀ f∈p.facts.xs,Named f p.boxes.xs.length:=fun f hf=>YX (ok.fact f hf)
theorem zhw {p:Problem} (ok:af p):∀ f∈p.facts.xs,f.a≠f.b/\(f.kind=2->f.c≠f.a):=fun f hf=>by
 have h:=(Au f _).1 (ok.fact f hf)
 refine ⟨by omega,fun hk=>?_⟩
 have:=h.2.2.2.2.2.1 hk;omega
theorem zrG {p:Problem} (ok:af p) {l:List Box} {m:Nat->Nat} (hr:bN lG p.facts.xs p.boxes.xs (some l)) (hm:bF (nz p.facts.xs) p.boxes.xs.length m) (hv:nC l (z8 m p.boxes.xs.length)<=65536) {q:Sl Box} (hq:q.xs=l) {g:List Nat} (hg:g∈z8 m p.boxes.xs.length):AP p q g:=by
 have hd:=LZ hm (IV ok);have hlen:l.length=p.boxes.xs.length:=hr.1.sub.1;obtain ⟨i,hi,hri,rfl⟩:=iV.1 hg;have AQ:=zl6 hm (IV ok) (zhw ok) hi hri;have h1:=hd.one _ hg;have sH:=RN m p.boxes.xs.length
 refine ⟨ok,by rw [hq];exact hr.1.sub,by rw [hq];exact hr.1.wf,h1.1,fun k hk=>by rw [hq,hlen];exact h1.2 k hk,AQ.2.1,by have:=(sH.2 _ hg).1;have:=ok.nb;omega,fun f hf ha=>hd.within f hf _ hg ha,fun h=>?_⟩
 rw [hq]
 refine Nat.le_trans (zpP hr.1.wf (fun k hk=>by rw [hlen];exact h1.2 k hk) h ?_) (by decide)
 have:=ZP (b:=l) (x:=0) hg;unfold nC at hv;omega
theorem sh48:G.shared 48=false:=by decide
theorem e48 (n:Nat) (p:Problem) (ok:af p) (D:bB) (e:Int) (h:aX p D e):zF G (n+51) 48 [.agg p.cells]=some (.aM [.agg D.cells,.int .i64 e]):=by
 refine zx (zw _) rfl g48 rfl ?_
 rcases h with ⟨hr,rfl,rfl⟩|⟨l,m,hr,hm,h⟩
 .have hn:=fun H=>zg (G:=G) (n:=n+50) (H:=H) (caps:=[]) (ps:=[.agg p.cells]) sh62 (e62 (n+43) p ok none hr);have wR:BX p none=.nils:=rfl;rw [wR] at hn;simp only [Problem.cells,List.map] at hn;clear hr wR;simp [*,za,c48,Problem.cells]
 .have hl:l.length=p.boxes.xs.length:=hr.1.sub.1;obtain ⟨q,hq,KA⟩:=zp9 hl;have hn:=fun H=>zg (G:=G) (n:=n+50) (H:=H) (caps:=[]) (ps:=[.agg p.cells]) sh62 (e62 (n+43) p ok (some l) hr);have hp:=fun H=>zg (G:=G) (n:=n+50) (H:=H) (caps:=[]) (ps:=[.agg p.cells]) sh95 (e95 (n+48) p ok m hm);have AQ:=RN m p.boxes.xs.length;have nb:=ok.nb;have hv:=fun H=>zg (G:=G) (n:=n+50) (H:=H) (caps:=[]) (ps:=[q.pv Box.cells 4,(Sl.of (z8 m p.boxes.xs.length)).pv GA 1]) sh96 (e96 (n+48) q (Sl.of (z8 m p.boxes.xs.length)) (by rw [KA];omega) (by rw [Sl.lZ];omega) (by rw [KA];exact Iu ok hr.1.sub hr.1.wf) (by rw [Sl.lZ,KA,hl];exact fun x hx=>⟨by have:=(AQ.2 x hx).1;omega,(AQ.2 x hx).2⟩));have BV:=Hide.mk (fun (AR:nC l (z8 m p.boxes.xs.length)<=65536) (g:List Nat) (hg:g∈z8 m p.boxes.xs.length) H=>zg (G:=G) (n:=n+50) (H:=H) (caps:=[]) (ps:=[.agg p.cells,q.pv Box.cells 4,lM g]) sh97 (e97 n p q g (zrG ok hr hm AR KA hg)));rw [KA] at BV;rw [zib] at hp;rw [Sl.lZ,KA] at hv;have uY:Hide ((z8 m p.boxes.xs.length).length<=12):=⟨by omega⟩
  generalize z8 m p.boxes.xs.length=gs at *;rcases h with ⟨AR,rfl,rfl⟩|⟨AR,KC,rfl⟩
  .have RO:65536 < nC l gs:=AR;rw [hq] at hn;simp only [Problem.cells,List.map] at hn hp hv;clear hr hm AQ KA hq ok nb hl BV AR;generalize nC l gs=x at *;generalize q.pv Box.cells 4=y at *;generalize (Sl.of gs).pv GA 1=w at *;simp [*,za,c48,Problem.cells]
  .have RO:¬ 65536 < nC l gs:=by omega
   have MX:=Hide.mk (BV.h AR);rw [hq] at hn;simp only [Problem.cells,List.map] at hn hp hv;clear hr hm AQ KA hq ok nb hl BV AR;generalize nC l gs=x at *;generalize hy:q.pv Box.cells 4=y at *;obtain ⟨s,hs⟩:∃ s,s=Sl.of gs:=⟨_,rfl⟩
   have MZ:s.xs=gs:=by rw [hs,Sl.lZ]
   rw [<- hs] at hp hv;have IL:s.xs.length<=12:=by rw [MZ];exact uY.h
   have IW:=Hide.mk MZ;have RP:=Hide.mk KC;clear hs MZ hy KC;(repeat' first|simp [*,za,c48,Problem.cells]|(apply zb<;>intro _ h<;>try simp [-Nat.le_zero_eq] at h)|(show wpE 0 (zk ..) ..;refine zA ?_)|(refine zq fun v2 H2 fQ aT aF aG aH aI=>?_))
   refine zN [(9,10),(28,52)] (fun (i:Nat) env H=>env 28=.pure (.int .i64 i)/\i<=s.xs.length/\1 < H.nx/\H.get 0=.cells true [.pure (.bool false),.pure .nils]/\∃ V,H.get 1=.cells true [.pure (.bool (Cb ((gs.map (jS p.facts.xs l)).take i))),V]/\Hide (aC GJ 1 H V ((gs.map (jS p.facts.xs l)).take i)/\∀ id,Names V id->1 < id)) (fun i=>s.xs.length - i) 0 ?_ ?_ ?_ ?_
   .decide
   .exact ⟨by simp,by omega,by simp,by simp,.pure .nils,by simp [Cb],⟨by simpa using aC.nil,fun id ⟨_,_,_,h⟩=>by simp at h⟩⟩
   .simp only [zI];omega
   rintro i env H ⟨g28,hi,fD,h0,V,h1,hV⟩;generalize hb:Cb ((gs.map (jS p.facts.xs l)).take i)=b at *
   by_cases aK:i < s.xs.length
   .have w1:IntKind.i64.wrap ((i:Int)+1)=(i+1:Nat):=by rw [wrap64 (by omega) (by omega)];omega
    have pO:(i:Int) < s.xs.length:=by omega
    have BP:i < gs.length:=by rw [<- IW.h];exact aK
    have hme:s.xs[i]∈gs:=by rw [<- IW.h];exact List.getElem_mem aK
    have FL:=MX.h s.xs[i] hme;have Cc:(gs.map (jS p.facts.xs l)).take (i+1)=(gs.map (jS p.facts.xs l)).take i++[jS p.facts.xs l s.xs[i]]:=by
     have e:=IW.h;subst e;rw [List.take_add_one,List.getElem?_eq_getElem (by simpa using aK)];simp
    obtain ⟨g,hg⟩:∃ g,s.xs[i]=g:=⟨_,rfl⟩
    rw [hg] at FL Cc;have Gl:Hide (Cb ((gs.map (jS p.facts.xs l)).take (i+1))=(b||decide (((jS p.facts.xs l g).n:Int)=0))):=⟨by
     rw [Cc,zkK,hb]⟩
    have hlen:((gs.map (jS p.facts.xs l)).take i).length<=12:=by rw [List.length_take];have:=uY.h;omega
    have AU:=Hide.mk Cc;generalize jS p.facts.xs l g=D' at *;generalize (gs.map (jS p.facts.xs l)).take i=L at *;simp only [Problem.cells,Io,List.map] at FL;have vR:=hV.h.1.1.one;have IX:=vR.1;have IY:=vR.2;have Di:D'.pv=.ptr false [lM D'.part,.int .i64 D'.n,.slice false 4 (chunks 4 D'.part.length (D'.ends.map l7)),l7 D'.first] 0:=rfl;have hDH:=Hide.mk Di;rw [Di] at FL;clear MX Cc hb vR Di;obtain ⟨pp,GH⟩:∃ pp,pp=lM D'.part:=⟨_,rfl⟩
    obtain ⟨cc,uU⟩:∃ cc,cc=chunks 4 D'.part.length (D'.ends.map l7):=⟨_,rfl⟩
    obtain ⟨oo,Qh⟩:∃ oo,oo=l7 D'.first:=⟨_,rfl⟩
    have hDc:Hide (D'.pv=.ptr false [pp,.int .i64 D'.n,.slice false 4 cc,oo] 0):=⟨by rw [hDH.h,<- GH,<- uU,<- Qh]⟩
    rw [<- GH,<- uU,<- Qh] at FL;have IZ:GJ D'=[D'.pv]:=rfl;rw [hDc.h] at IZ;obtain ⟨nn,OO⟩:∃ nn:Int,nn=D'.n:=⟨_,rfl⟩
    rw [<- OO] at FL Gl IZ;have M0:=Hide.mk IZ;clear OO IZ;clear GH uU Qh hDH
    cases b with
    | true =>
     have Ag:Hide (Cb ((gs.map (jS p.facts.xs l)).take (i+1))=true):=⟨by rw [Gl.h];rfl⟩
     clear Gl;(repeat' first|simp [*,za,GA]|(apply zb<;>intro _ h<;>try simp [-Nat.le_zero_eq] at h)|(show wpE 0 (zk ..) ..;refine zA ?_)|(refine zq fun v2 H2 fQ aT aF aG aH aI=>?_))
     refine EY (f:=GJ) (sz:=1) (l:=L) ((hV.h.1.set (fun hn=>by have:=hV.h.2 1 hn;omega) _).alloc _) (fun _=>rfl) (by decide) (fun _=>rfl) (by unfold zl;omega) ⟨D',by rw [M0.h];simp,?_⟩
     intro V4 H4 l6 ha;have uG:Hide (aC GJ 1 H4 V4 ((gs.map (jS p.facts.xs l)).take (i+1))/\∀ id,Names V4 id->1 < id):=⟨by rw [AU.h];exact l6,fun id hn=>by have:=ha.new id hn;simp at this;omega⟩
     have g0:H4.get 0=.cells true [.pure (.bool false),.pure .nils]:=by
      rw [ha.get 0 (by rw [pJ,mE];omega) (fun hn=>by have:=hV.h.2 0 hn;omega),ze (by rw [mE];omega),zh (by omega)];exact h0
     have g1:H4.get 1=.cells true [.pure (.bool true),V]:=by
      rw [ha.get 1 (by rw [pJ,mE];omega) (fun hn=>by have:=hV.h.2 1 hn;omega),ze (by rw [mE];omega),zo fD]
     have gn:1 < H4.nx:=by have:=ha.nx;simp at this;omega
     have o4:=l6.1.one;have KD:=o4.1;have KE:=o4.2;clear l6 ha o4 hV;(repeat' first|simp [*,za]|(apply zb<;>intro _ h<;>try simp [-Nat.le_zero_eq] at h)|(show wpE 0 (zk ..) ..;refine zA ?_)|(refine zq fun v2 H2 fQ aT aF aG aH aI=>?_));exact ⟨i+1,by omega,by omega,by omega,V4,⟨Ag.h,rfl⟩,⟨uG.h.1.set (fun hn=>by have:=uG.h.2 1 hn;omega) _,uG.h.2⟩⟩
    | false =>
     by_cases hz:nn=0
     .have Ag:Hide (Cb ((gs.map (jS p.facts.xs l)).take (i+1))=true):=⟨by rw [Gl.h,decide_eq_true hz];rfl⟩
      subst hz;clear Gl;(repeat' first|simp [*,za,GA]|(apply zb<;>intro _ h<;>try simp [-Nat.le_zero_eq] at h)|(show wpE 0 (zk ..) ..;refine zA ?_)|(refine zq fun v2 H2 fQ aT aF aG aH aI=>?_))
      refine EY (f:=GJ) (sz:=1) (l:=L) ((hV.h.1.set (fun hn=>by have:=hV.h.2 1 hn;omega) _).alloc _) (fun _=>rfl) (by decide) (fun _=>rfl) (by unfold zl;omega) ⟨D',by rw [M0.h];simp,?_⟩
      intro V4 H4 l6 ha;have uG:Hide (aC GJ 1 H4 V4 ((gs.map (jS p.facts.xs l)).take (i+1))/\∀ id,Names V4 id->1 < id):=⟨by rw [AU.h];exact l6,fun id hn=>by have:=ha.new id hn;simp at this;omega⟩
      have g0:H4.get 0=.cells true [.pure (.bool false),.pure .nils]:=by
       rw [ha.get 0 (by rw [pJ,mE];omega) (fun hn=>by have:=hV.h.2 0 hn;omega),ze (by rw [mE];omega),zh (by omega)];exact h0
      have g1:H4.get 1=.cells true [.pure (.bool true),V]:=by
       rw [ha.get 1 (by rw [pJ,mE];omega) (fun hn=>by have:=hV.h.2 1 hn;omega),ze (by rw [mE];omega),zo fD]
      have gn:1 < H4.nx:=by have:=ha.nx;simp at this;omega
      have o4:=l6.1.one;have KD:=o4.1;have KE:=o4.2;clear l6 ha o4 hV;(repeat' first|simp [*,za]|(apply zb<;>intro _ h<;>try simp [-Nat.le_zero_eq] at h)|(show wpE 0 (zk ..) ..;refine zA ?_)|(refine zq fun v2 H2 fQ aT aF aG aH aI=>?_));exact ⟨i+1,by omega,by omega,by omega,V4,⟨Ag.h,rfl⟩,⟨uG.h.1.set (fun hn=>by have:=uG.h.2 1 hn;omega) _,uG.h.2⟩⟩
     .have Ag:Hide (Cb ((gs.map (jS p.facts.xs l)).take (i+1))=false):=⟨by rw [Gl.h,decide_eq_false hz];rfl⟩
      clear Gl;(repeat' first|simp [*,za,GA]|(apply zb<;>intro _ h<;>try simp [-Nat.le_zero_eq] at h)|(show wpE 0 (zk ..) ..;refine zA ?_)|(refine zq fun v2 H2 fQ aT aF aG aH aI=>?_))
      refine EY (f:=GJ) (sz:=1) (l:=L) ((hV.h.1.set (fun hn=>by have:=hV.h.2 1 hn;omega) _).alloc _) (fun _=>rfl) (by decide) (fun _=>rfl) (by unfold zl;omega) ⟨D',by rw [M0.h];simp,?_⟩
      intro V4 H4 l6 ha;have uG:Hide (aC GJ 1 H4 V4 ((gs.map (jS p.facts.xs l)).take (i+1))/\∀ id,Names V4 id->1 < id):=⟨by rw [AU.h];exact l6,fun id hn=>by have:=ha.new id hn;simp at this;omega⟩
      have g0:H4.get 0=.cells true [.pure (.bool false),.pure .nils]:=by
       rw [ha.get 0 (by rw [pJ,mE];omega) (fun hn=>by have:=hV.h.2 0 hn;omega),ze (by rw [mE];omega),zh (by omega)];exact h0
      have g1:H4.get 1=.cells true [.pure (.bool false),V]:=by
       rw [ha.get 1 (by rw [pJ,mE];omega) (fun hn=>by have:=hV.h.2 1 hn;omega),ze (by rw [mE];omega),zo fD]
      have gn:1 < H4.nx:=by have:=ha.nx;simp at this;omega
      have o4:=l6.1.one;have KD:=o4.1;have KE:=o4.2;clear l6 ha o4 hV;(repeat' first|simp [*,za]|(apply zb<;>intro _ h<;>try simp [-Nat.le_zero_eq] at h)|(show wpE 0 (zk ..) ..;refine zA ?_)|(refine zq fun v2 H2 fQ aT aF aG aH aI=>?_));exact ⟨i+1,by omega,by omega,by omega,V4,⟨Ag.h,rfl⟩,⟨uG.h.1.set (fun hn=>by have:=uG.h.2 1 hn;omega) _,uG.h.2⟩⟩
   .have wL:i=s.xs.length:=by omega
    subst wL;have bM:(gs.map (jS p.facts.xs l)).take s.xs.length=gs.map (jS p.facts.xs l):=by
     rw [IW.h];exact List.take_of_length_le (by simp)
    rw [bM] at hb hV;have aY:Hide (∀ o,FrzK (H.set 0 o) false 10 V ((Sl.of (gs.map (jS p.facts.xs l))).pv GJ 1)):=⟨fun o=>(hV.h.1.set (fun hn=>by have:=hV.h.2 0 hn;omega) o).res (n:=8) (fun _=>rfl)⟩
    have vR:=hV.h.1.1.one;have IX:=vR.1;have IY:=vR.2;have KC:=RP.h;rw [hb] at KC;have hDb:D.empty=b:=by rw [KC]
    have hDs:Hide (D.bJ=gs.map (jS p.facts.xs l)):=⟨by rw [KC]⟩
    have hDeH2:=Hide.mk KC;have h0n:0 < H.nx:=by omega
    obtain ⟨ids,iY⟩:=FrzK.jw (n:=10) (FrzL.cons (FrzK.pure (.bool b)) (.cons (aY.h (.cells true [.pure (.bool b),V])) .nil));rw [<- hDs.h] at iY;clear hV vR MX RP KC hb bM aY;simp [*,za]
def pV (p:Problem) (D:bB) (e:Int):Prop:=(nT p≠0/\D=⟨false,[]⟩/\e=nT p)\/(nT p=0/\aX p D e)
def wW (s:bX) (j k:Nat):Pt:=match s.ends[j]! with
 | some c=>c[k]!
 | none=>⟨0,0⟩
def RQ (s:bX) (k:Nat):Box:=⟨⟨(wW s (4*k) k).x,(wW s (4*k+1) k).x⟩,⟨(wW s (4*k+2) k).y,(wW s (4*k+3) k).y⟩⟩
def RS (pt:Nat):List bX->Nat->Box×Int×Int
 | [],_=>(⟨⟨0,0⟩,⟨0,0⟩⟩,-1,-1)
 | s::ss,i=>if pt∈s.part then (RQ s (s.part.idxOf pt),(i:Int),(s.part.idxOf pt:Nat)) else RS pt ss (i+1)
structure wX (s:bX):Prop where
 few:s.part.length<=12
 len:s.ends.length=4*s.part.length
 all:∀ o∈s.ends,∃ c,o=some c/\c.length=s.part.length
theorem wX.at {s:bX} (h:wX s) {j k:Nat} (hj:j < s.ends.length) (hk:k < s.part.length):∃ (c:List Pt) (hc:k < c.length),s.ends[j]=some c/\wW s j k=c[k]:=by
 obtain ⟨c,h1,h2⟩:=h.all _ (List.getElem_mem hj)
 refine ⟨c,by omega,h1,?_⟩
 unfold wW;rw [getElem!_pos s.ends j hj,h1];simp only;rw [getElem!_pos c k (by omega)]
abbrev iQ (p:Problem) (pts:List Pt):Prop:=l5 p.facts.xs p.boxes.xs pts
theorem zss (pts:List Pt):Wf (pts.map fT):=fun b hb=>by
 obtain ⟨x,_,rfl⟩:=List.mem_map.1 hb;exact ⟨Int.le_refl _,Int.le_refl _⟩
theorem zqi {l:List Box} {pts:List Pt} (hl:pts.length=l.length) (h:∀ i (h:i < pts.length) (h':i < l.length),fA pts[i] l[i]):aL (pts.map fT) l :=
 ⟨by simpa using hl,fun i h1 h2=>by
  have oV:i < pts.length:=by simpa using h1
  have:=h i oV h2;unfold fA at this;simp only [List.getElem_map,fT,fG,fq];omega⟩
theorem zsv {l:List Box} {pts:List Pt} (h:aL (pts.map fT) l):pts.length=l.length/\∀ i (h:i < pts.length) (h':i < l.length),fA pts[i] l[i] :=
 ⟨by simpa using h.1,fun i h1 h2=>by
  have:=h.2 i (by simpa using h1) h2;simp only [List.getElem_map,fT,fG,fq] at this;unfold fA;omega⟩
theorem zlE (x:Pt) (k:Nat):tJ (fT x) k=fT x:=by
 unfold tJ fT
 split<;>rfl
theorem zjG {facts:List Fact} {pts:List Pt} (h:∀ f∈facts,zJ f (pts.map fT)=false):Stable lG facts (pts.map fT):=fun i hi k _ f hf hs=>by
 unfold lG at hs;have bT:i < pts.length:=by simpa using hi
 have e:zV (pts.map fT) i k=pts.map fT:=by
  rw [Aj hi];have:tJ (pts.map fT)[i] k=(pts.map fT)[i]:=by simp only [List.getElem_map];exact zlE _ _
  rw [this];exact List.set_getElem_self ..
 rw [e,h f hf] at hs;simp at hs
theorem U6 {p:Problem} {r:Option (List Box)} (hr:bN lG p.facts.xs p.boxes.xs r) {pts:List Pt} (h:iQ p pts):∃ l,r=some l/\l5 p.facts.xs l pts:=by
 have hs:=zqi h.len h.CS
 cases r with
 | none=>exact absurd (zjG h.facts) (hr _ (zss pts) hs)
 | some l =>
  have:=zsv (hr.1.all _ (zss pts) hs (zjG h.facts));exact ⟨l,rfl,⟨this.1,this.2,h.facts⟩⟩
theorem zth {p:Problem} {l:List Box} (hs:aL l p.boxes.xs) {pts:List Pt} (h:l5 p.facts.xs l pts):iQ p pts:=by
 have:=zsv ((zqi h.len h.CS).trans hs);exact ⟨this.1,this.2,h.facts⟩
theorem RU {p:Problem} {l:List Box} (hr:bN lG p.facts.xs p.boxes.xs (some l)) (pts:List Pt):iQ p pts↔l5 p.facts.xs l pts :=
 ⟨fun h=>by obtain ⟨l',e,h'⟩:=U6 hr h;simp only [Option.some.injEq] at e;rw [e];exact h',zth hr.1.sub⟩
theorem aX.unique {p:Problem} {D D':bB} {e e':Int} (h:aX p D e) (h':aX p D' e'):D=D'/\e=e':=by
 rcases h with ⟨hr,rfl,rfl⟩|⟨l,m,hr,hm,h⟩
 .rcases h' with ⟨BL,rfl,rfl⟩|⟨l',m',BL,F4,h'⟩
  .exact ⟨rfl,rfl⟩
  .have:=hr.unique BL;simp at this
 .rcases h' with ⟨BL,rfl,rfl⟩|⟨l',m',BL,F4,h'⟩
  .have:=hr.unique BL;simp at this
  .have e1:=hr.unique BL;simp only [Option.some.injEq] at e1;subst e1;have e2:=Yd (hm.unique F4);rw [<- e2] at h';rcases h with ⟨a,rfl,rfl⟩|⟨a,rfl,rfl⟩<;>rcases h' with ⟨b,rfl,rfl⟩|⟨b,rfl,rfl⟩
   .exact ⟨rfl,rfl⟩
   .omega
   .omega
   .exact ⟨rfl,rfl⟩
theorem zjy {n:Nat}:∀ (E E0:List (Nat×Nat)) (m0:Nat->Nat),bF E0 n m0->(∀ e∈E,e.1 < n/\e.2 < n)->∃ m,bF (E0++E) n m
 | [],E0,m0,h,_=>⟨m0,by rw [List.append_nil];exact h⟩
 | e::E,E0,m0,h,hE=>by
  have h1:=hE e List.mem_cons_self;obtain ⟨m,hm⟩:=zjy E (E0++[e]) _ (h.join h1.1 h1.2) fun x hx=>hE x (List.mem_cons_of_mem _ hx);exact ⟨m,by rw [List.append_assoc] at hm;exact hm⟩
theorem zoo {fs:List Fact} {n:Nat} (h:∀ f∈fs,zX f n=true):∃ m,bF (nz fs) n m:=zjy (nz fs) [] _ (bF.nil n) fun e he=>by
 obtain ⟨f,hf,he⟩:=lW.1 he;have hn:=YX (h f hf);have h1:=hn.a;have h2:=hn.b;have h3:=hn.c;unfold wJ at he
 split at he
 .simp only [List.mem_cons,List.not_mem_nil,or_false] at he;rcases he with rfl|rfl<;>exact ⟨by simp only;omega,by simp only;omega⟩
 .simp only [List.mem_cons,List.not_mem_nil,or_false] at he;subst he;exact ⟨by simp only;omega,by simp only;omega⟩
theorem ZQ {p:Problem} (ok:af p):∃ D e,aX p D e:=by
 obtain ⟨r,hr⟩:=XZ (Ir ok) (Fz ok)
 cases r with
 | none=>exact ⟨_,_,.inl ⟨hr,rfl,rfl⟩⟩
 | some l =>
  obtain ⟨m,hm⟩:=zoo ok.fact
  by_cases hv:nC l (z8 m p.boxes.xs.length)<=65536
  .exact ⟨_,_,.inr ⟨l,m,hr,hm,.inr ⟨hv,rfl,rfl⟩⟩⟩
  .exact ⟨_,_,.inr ⟨l,m,hr,hm,.inl ⟨by omega,rfl,rfl⟩⟩⟩
theorem pV.unique {p:Problem} {D D':bB} {e e':Int} (h:pV p D e) (h':pV p D' e'):D=D'/\e=e':=by
 rcases h with ⟨h0,rfl,rfl⟩|⟨h0,hf⟩
 .rcases h' with ⟨_,rfl,rfl⟩|⟨h1,_⟩
  .exact ⟨rfl,rfl⟩
  .exact absurd h1 h0
 .rcases h' with ⟨h1,_⟩|⟨_,CJ⟩
  .exact absurd h0 h1
  .exact hf.unique CJ
structure nV (p:Problem) (D:bB) (l:List Box) (gs:List (List Nat)):Prop where
 GG:bN lG p.facts.xs p.boxes.xs (some l)
 div:fP p.facts.xs l.length gs
 bJ:D.bJ=gs.map (jS p.facts.xs l)
 seen:∀ g∈gs,rZ p.facts.xs l g (jS p.facts.xs l g)
 empty:D.empty=Cb D.bJ
 few:gs.length<=12/\∀ g∈gs,g.length<=12
theorem zsh {p:Problem} (ok:af p) {D:bB} {e:Int} (h:aX p D e):(e=0/\D=⟨true,[]⟩/\bN lG p.facts.xs p.boxes.xs none)\/(e=2/\D=⟨false,[]⟩)\/(e=0/\∃ l gs,nV p D l gs):=by
 rcases h with ⟨hr,rfl,rfl⟩|⟨l,m,hr,hm,h⟩
 .exact .inl ⟨rfl,rfl,hr⟩
 .rcases h with ⟨hv,rfl,rfl⟩|⟨hv,rfl,rfl⟩
  .exact .inr (.inl ⟨rfl,rfl⟩)
  .refine .inr (.inr ⟨rfl,l,z8 m p.boxes.xs.length,?_⟩)
   have hl:l.length=p.boxes.xs.length:=hr.1.sub.1;have hd:=LZ hm (IV ok);have sH:=RN m p.boxes.xs.length;have nb:=ok.nb
   refine ⟨hr,by rw [hl];exact hd,rfl,fun g hg=>?_,rfl,⟨by omega,fun g hg=>by have:=(sH.2 g hg).1;omega⟩⟩
   refine znW (fun k hk=>by rw [hl];exact (hd.one g hg).2 k hk) hr.1.wf (fun f hf ha=>hd.within f hf g hg ha) fun f hf=>?_
   have h1:=(Au f _).1 (ok.fact f hf);exact ⟨by omega,by omega,by omega⟩
theorem U7 {L:List bX}:Cb L=true↔∃ s∈L,s.n=0:=by simp [Cb]
theorem nV.some {p:Problem} {D:bB} {l:List Box} {gs:List (List Nat)} (h:nV p D l gs) (he:D.empty=false) {g:List Nat} (hg:g∈gs) {c:List Pt} (hc:c∈jk p.facts.xs l g):∃ pts,iQ p pts/\pick pts g=c:=by
 have bL:∀ g'∈gs,∃ c',c'∈jk p.facts.xs l g':=fun g' sJ=>by
  have h1:=(h.seen g' sJ).n;have h2:(jS p.facts.xs l g').n≠0:=fun e=>by
   have:D.empty=true:=by
    rw [h.empty,U7,h.bJ];exact ⟨_,List.mem_map.2 ⟨g',sJ,rfl⟩,e⟩
   rw [this] at he;simp at he
  exact ⟨_,List.head_mem (l:=jk p.facts.xs l g') (fun e=>h2 (by rw [h1,e];rfl))⟩
 obtain ⟨ch,nK⟩:∃ ch:List Nat->List Pt,∀ g'∈gs,ch g'∈jk p.facts.xs l g'/\(g'=g->ch g'=c):=by
  refine ⟨fun g'=>if g'=g then c else if h':g'∈gs then (bL g' h').choose else [],fun g' sJ=>?_⟩
  simp only
  by_cases e:g'=g
  .subst e;simp [hc]
  .rw [if_neg e,dif_pos sJ];exact ⟨(bL g' sJ).choose_spec,fun h=>absurd h e⟩
 have hm:gs.map ch∈LX (gs.map (jk p.facts.xs l)):=lD.2 ⟨by simp,fun k a b=>by
  simp only [List.getElem_map];exact (nK _ (List.getElem_mem _)).1⟩
 obtain ⟨h1,h2⟩:=zn4 h.div hm (p0:=List.replicate l.length ⟨0,0⟩) (by simp)
 refine ⟨_,(RU h.GG _).2 h1,?_⟩
 have:=List.map_inj_left.1 h2 g hg;rw [this];exact (nK g hg).2 rfl
theorem nV.Dj {p:Problem} {D:bB} {l:List Box} {gs:List (List Nat)} (h:nV p D l gs):D.empty=true↔¬ ∃ pts,iQ p pts:=by
 constructor
 .rintro he ⟨pts,hp⟩;rw [h.empty,U7,h.bJ] at he;obtain ⟨s,hs,h0⟩:=he;obtain ⟨g,hg,rfl⟩:=List.mem_map.1 hs;have h1:=Yx h.div ((RU h.GG _).1 hp) g hg;rw [(h.seen g hg).n] at h0;rw [List.eq_nil_of_length_eq_zero h0] at h1;simp at h1
 .intro hn
  cases he:D.empty with
  | true=>rfl
  | false =>
   exfalso
   refine hn ?_
   -- one choice of each part
   have bL:∀ g'∈gs,jk p.facts.xs l g'≠[]:=fun g' sJ e=>by
    have:D.empty=true:=by
     rw [h.empty,U7,h.bJ];exact ⟨_,List.mem_map.2 ⟨g',sJ,rfl⟩,by rw [(h.seen g' sJ).n,e];rfl⟩
    rw [this] at he;simp at he
   have hm:(gs.map fun g=>(jk p.facts.xs l g).headD [])∈LX (gs.map (jk p.facts.xs l)):=lD.2 ⟨by simp,fun k a b=>by
    simp only [List.getElem_map];have:=bL _ (List.getElem_mem (l:=gs) (n:=k) (by simpa using a))
    cases hs:jk p.facts.xs l (gs[k]'(by simpa using a)) with
    | nil=>exact absurd hs this
    | cons c cs=>simp⟩
   obtain ⟨h1,_⟩:=zn4 h.div hm (p0:=List.replicate l.length ⟨0,0⟩) (by simp);exact ⟨_,(RU h.GG _).2 h1⟩
theorem zio {p:Problem} (ok:af p) {D:bB} (h:aX p D 0):D.empty=true↔¬ ∃ pts,iQ p pts:=by
 rcases zsh ok h with ⟨_,rfl,hr⟩|⟨he,_⟩|⟨_,l,gs,hi⟩
 .refine ⟨fun _ ⟨pts,hp⟩=>?_,fun _=>rfl⟩
  obtain ⟨l,e,_⟩:=U6 hr hp;simp at e
 .omega
 .exact hi.Dj
def fI (fs:List Fact) (g:List Nat):List Fact:=fs.filter fun f=>g.contains f.a.toNat
def FM (fs:List Fact) (g:List Nat):List Int:=(jb fs.length).filter fun k=>g.contains (fs[k.toNat]!).a.toNat
theorem bn {fs:List Fact} {g:List Nat} {f:Fact}:f∈fI fs g↔f∈fs/\f.a.toNat∈g:=by simp [fI]
theorem ZR (fs:List Fact) (g:List Nat):rY fs (FM fs g):=fun j hj=>J9 fs j (List.mem_filter.1 hj).1
theorem zoP (fs:List Fact) (g:List Nat):(FM fs g).length<=fs.length:=by
 have:=List.length_filter_le (fun k=>g.contains (fs[k.toNat]!).a.toNat) (jb fs.length);rwa [Gx] at this
theorem Dk {fs:List Fact} {g:List Nat} {l:List Box}:0<=bR fs l (FM fs g)↔∃ f∈fI fs g,zJ f l=true:=by
 rw [QR fun j hj=>(ZR fs g j hj).1];unfold FM;simp only [List.mem_filter]
 constructor
 .rintro ⟨j,⟨hj,hn⟩,h⟩;obtain ⟨k,hk,rfl⟩:=iI.1 hj;rw [show ((k:Int)).toNat=k by simp,getElem!_pos fs k hk] at h hn;exact ⟨_,bn.2 ⟨List.getElem_mem hk,by simpa using hn⟩,h⟩
 .rintro ⟨f,hf,h⟩;obtain ⟨hf,hn⟩:=bn.1 hf;obtain ⟨k,hk,rfl⟩:=List.mem_iff_getElem.1 hf;exact ⟨k,⟨iI.2 ⟨k,hk,rfl⟩,by rw [show ((k:Int)).toNat=k by simp,getElem!_pos fs k hk];simpa using hn⟩,by rw [show ((k:Int)).toNat=k by simp,getElem!_pos fs k hk];exact h⟩
theorem ZT:∀ {gs:List (List Nat)},gs.flatten.Nodup->∀ {g g':List Nat} {x:Nat},g∈gs->g'∈gs->x∈g->x∈g'->g=g'
 | [],_,g,g',x,h,_,_,_=>by simp at h
 | a::gs,hn,g,g',x,h,h',hx,KF=>by
  rw [List.flatten_cons,List.nodup_append] at hn;obtain ⟨_,h2,h3⟩:=hn;rcases List.mem_cons.1 h with e|h<;>rcases List.mem_cons.1 h' with e'|h'
  .rw [e,e']
  .rw [e] at hx;exact absurd rfl (h3 x hx x (List.mem_flatten.2 ⟨g',h',KF⟩))
  .rw [e'] at KF;exact absurd rfl (h3 x KF x (List.mem_flatten.2 ⟨g,h,hx⟩))
  .exact ZT h2 h h' hx KF
theorem zi4 {p:Problem} (ok:af p) {gs:List (List Nat)} (hd:fP p.facts.xs p.boxes.xs.length gs) {g:List Nat} (hg:g∈gs) {i:Nat} (hi:i∈g) {f:Fact} (hf:f∈p.facts.xs) (hn:o8 f i=true):f.a.toNat∈g:=by
 have L8:=(Au f _).1 (ok.fact f hf);have ha:f.a.toNat < p.boxes.xs.length:=by have:=(hd.named f hf).a;omega
 obtain ⟨g',sJ,RV⟩:=List.mem_flatten.1 ((hd.all _).1 ha);have hw:=hd.within f hf g' sJ RV;have BP:i∈g':=by
  unfold o8 at hn;simp only [Bool.or_eq_true,Bool.and_eq_true,decide_eq_true_eq] at hn;rcases hn with h|h|⟨hk,h⟩
  .have:=hw.a;rwa [show f.a.toNat=i by omega] at this
  .have:=hw.b;rwa [show f.b.toNat=i by omega] at this
  .have:=hw.c hk;rwa [show f.c.toNat=i by omega] at this
 rw [ZT hd.nodup hg sJ hi BP];exact RV
def I1 (fs:List Fact) (l:List Box) (s:Nat×Nat):Bool:=decide ((bK l[s.1]! (s.2 / 2)).lo < (bK l[s.1]! (s.2 / 2)).hi)&&decide (0<=bR fs (zV l s.1 s.2) (pQ fs (jb fs.length) (s.1:Int)))
def KG (g:List Nat):List (Nat×Nat):=g.flatMap fun i=>(List.range 4).map fun k=>(i,k)
def Dl (fs:List Fact) (g:List Nat) (l:List Box):Option (Nat×Nat):=(KG g).find? (I1 fs l)
def AX (l:List Box) (c:Nat×Nat):Int:=(bK l[c.1]! c.2).hi - (bK l[c.1]! c.2).lo+1
def uH (l:List Box) (s:Int×(Nat×Nat)) (c:Nat×Nat):Int×(Nat×Nat):=if s.1 < AX l c then (AX l c,c) else s
def GK (g:List Nat):List (Nat×Nat):=g.flatMap fun i=>(List.range 2).map fun k=>(i,k)
def vC (g:List Nat) (l:List Box):Nat×Nat:=((GK g).foldl (uH l) (0,(g.headD 0,0))).2
theorem zjC (l:List Box):∀ (cs:List (Nat×Nat)) (s:Int×(Nat×Nat)),s.1<=(cs.foldl (uH l) s).1/\(∀ c∈cs,AX l c<=(cs.foldl (uH l) s).1)/\(cs.foldl (uH l) s=s\/((cs.foldl (uH l) s).2∈cs/\(cs.foldl (uH l) s).1=AX l (cs.foldl (uH l) s).2))
 | [],s=>⟨Int.le_refl _,fun c h=>by simp at h,.inl rfl⟩
 | c::cs,s=>by
  obtain ⟨h1,h2,h3⟩:=zjC l cs (uH l s c);rw [List.foldl_cons];have h4:s.1<=(uH l s c).1/\AX l c<=(uH l s c).1/\(uH l s c=s\/uH l s c=(AX l c,c)):=by
   unfold uH
   split
   .exact ⟨by simp only;omega,Int.le_refl _,.inr rfl⟩
   .exact ⟨Int.le_refl _,by omega,.inl rfl⟩
  refine ⟨by omega,fun c' rG=>?_,?_⟩
  .rcases List.mem_cons.1 rG with rfl|h
   .omega
   .exact h2 c' h
  .rcases h3 with h3|⟨h3,h3'⟩
   .rcases h4.2.2 with h|h
    .exact .inl (h3.trans h)
    .rw [h3,h];exact .inr ⟨List.mem_cons_self,rfl⟩
   .exact .inr ⟨List.mem_cons_of_mem _ h3,h3'⟩
theorem mZ {g:List Nat} {s:Nat×Nat}:s∈KG g↔s.1∈g/\s.2 < 4:=by
 obtain ⟨i,k⟩:=s;simp only [KG,List.mem_flatMap,List.mem_map,List.mem_range,Prod.mk.injEq]
 constructor
 .rintro ⟨a,ha,b,hb,rfl,rfl⟩;exact ⟨ha,hb⟩
 .rintro ⟨ha,hb⟩;exact ⟨i,ha,k,hb,rfl,rfl⟩
theorem r9 {g:List Nat} {s:Nat×Nat}:s∈GK g↔s.1∈g/\s.2 < 2:=by
 obtain ⟨i,k⟩:=s;simp only [GK,List.mem_flatMap,List.mem_map,List.mem_range,Prod.mk.injEq]
 constructor
 .rintro ⟨a,ha,b,hb,rfl,rfl⟩;exact ⟨ha,hb⟩
 .rintro ⟨ha,hb⟩;exact ⟨i,ha,k,hb,rfl,rfl⟩
theorem ZU {g:List Nat} {l:List Box} (bL:g≠[]) (hw:Wf l) (hl:∀ i∈g,i < l.length):(vC g l).1∈g/\(vC g l).2 < 2/\∀ i∈g,∀ k,k < 2->AX l (i,k)<=AX l (vC g l):=by
 obtain ⟨h1,h2,h3⟩:=zjC l (GK g) (0,(g.headD 0,0));obtain ⟨i,g',rfl⟩:=List.exists_cons_of_ne_nil bL;have nM:0 < AX l (i,0):=by
  have:=hw _ (List.getElem_mem (hl i List.mem_cons_self));unfold AX;simp only;rw [getElem!_pos l i (hl i List.mem_cons_self)];unfold jq at this;simp only [bK,if_true];omega
 have h4:=h2 (i,0) (r9.2 ⟨List.mem_cons_self,Nat.zero_lt_two⟩);rcases h3 with h3|⟨h3,h5⟩
 .rw [h3] at h4;simp only at h4;omega
 .have h6:=r9.1 h3;exact ⟨h6.1,h6.2,fun j hj k hk=>by
   have:=h2 (j,k) (r9.2 ⟨hj,hk⟩);rw [h5] at this;exact this⟩
theorem zk3 {b:Box} (hw:jq b) {k:Nat} (hk:k < 4):¬ mg b k↔(bK b (k / 2)).lo < (bK b (k / 2)).hi:=by
 unfold mg bK;unfold jq at hw;have uz:k=0\/k=1\/k=2\/k=3:=by omega
 rcases uz with rfl|rfl|rfl|rfl<;>simp<;>omega
theorem zmh {l:List Box} {i k:Nat} (hi:i < l.length) (hk:k < 4) (ht:mg l[i] k):zV l i k=l:=by
 rw [Aj hi];have:tJ l[i] k=l[i]:=by
  unfold mg at ht;generalize l[i]=bb at *;obtain ⟨⟨a,b⟩,⟨c,d⟩⟩:=bb;have uz:k=0\/k=1\/k=2\/k=3:=by omega
  rcases uz with rfl|rfl|rfl|rfl<;>simp_all [tJ]
 rw [this];exact List.set_getElem_self ..
theorem znF {p:Problem} (ok:af p) {gs:List (List Nat)} (hd:fP p.facts.xs p.boxes.xs.length gs) {g:List Nat} (hg:g∈gs) {l:List Box} (hl:l.length=p.boxes.xs.length) (hw:Wf l) {i k:Nat} (h:Dl p.facts.xs g l=some (i,k)):i∈g/\k < 4/\∃ h:i < l.length,¬ mg l[i] k/\∃ f∈fI p.facts.xs g,lG f (zV l i k):=by
 have hm:=mZ.1 (List.mem_of_find?_eq_some h);have hb:=List.find?_some h;have aU:i < l.length:=by rw [hl];exact (hd.one g hg).2 i hm.1
 simp only [I1,Bool.and_eq_true,decide_eq_true_eq,getElem!_pos l i aU] at hb
 refine ⟨hm.1,hm.2,aU,(zk3 (hw _ (List.getElem_mem aU)) hm.2).2 hb.1,?_⟩
 obtain ⟨f,hf,hn,hs⟩:=pR.1 hb.2;exact ⟨f,bn.2 ⟨hf,zi4 ok hd hg hm.1 hf hn⟩,hs⟩
theorem zmo {p:Problem} (ok:af p) {gs:List (List Nat)} (hd:fP p.facts.xs p.boxes.xs.length gs) {g:List Nat} (hg:g∈gs) {l:List Box} (hl:l.length=p.boxes.xs.length) (hw:Wf l) (h:Dl p.facts.xs g l=none) (hb:¬ Ak lG (fI p.facts.xs g) l):Stable lG (fI p.facts.xs g) l:=fun i hi k hk f hf hs=>by
 obtain ⟨KH,yl⟩:=bn.1 hf
 cases hn:o8 f i with
 | false =>
  unfold lG at hs;rw [Aj hi,Y1 ok KH hn hi] at hs;exact hb ⟨f,hf,hs⟩
 | true =>
  have BP:i∈g:=by
   have oq:=hd.within f KH g hg yl;unfold o8 at hn;simp only [Bool.or_eq_true,Bool.and_eq_true,decide_eq_true_eq] at hn;rcases hn with h|h|⟨hk,h⟩
   .have:=oq.a;rwa [show f.a.toNat=i by omega] at this
   .have:=oq.b;rwa [show f.b.toNat=i by omega] at this
   .have:=oq.c hk;rwa [show f.c.toNat=i by omega] at this
  by_cases ht:mg l[i] k
  .rw [zmh hi hk ht] at hs;exact hb ⟨f,hf,hs⟩
  .have:=List.find?_eq_none.1 h (i,k) (mZ.2 ⟨BP,hk⟩);simp only [I1,Bool.and_eq_true,decide_eq_true_eq,getElem!_pos l i hi] at this;exact this ⟨(zk3 (hw _ (List.getElem_mem hi)) hk).1 ht,pR.2 ⟨f,KH,hn,hs⟩⟩
theorem zrF {p:Problem} (ok:af p) {gs:List (List Nat)} (hd:fP p.facts.xs p.boxes.xs.length gs) {g:List Nat} (hg:g∈gs) (bL:g≠[]) (oL:∀ pts,¬ l5 (fI p.facts.xs g) p.boxes.xs pts) :
  vv lG (fI p.facts.xs g) p.boxes.xs g (Dl p.facts.xs g) (vC g):=by
 have h1:=hd.one g hg
 refine ⟨h1.1,h1.2,fun l i k hl hw h=>znF ok hd hg hl hw h,fun l hl hw h hb=>zmo ok hd hg hl hw h hb,fun l hl hw hs hb=>?_⟩
 have mF:∀ i∈g,i < l.length:=fun i hi=>by rw [hl];exact h1.2 i hi
 obtain ⟨w1,w2,w3⟩:=ZU bL hw mF
 refine ⟨w1,w2,mF _ w1,?_⟩
 refine Classical.byContradiction fun hc=>?_
 have fE:AX l (vC g l)<=1:=by
  unfold AX;rw [getElem!_pos l _ (mF _ w1)];omega
 have bu:∀ i (h:i∈g),l[i]'(mF i h)=fT ⟨(l[i]'(mF i h)).x.lo,(l[i]'(mF i h)).y.lo⟩:=fun i hi=>by
  have h0:=w3 i hi 0 (by decide);have h1:=w3 i hi 1 (by decide);generalize AX l (vC g l)=W at *;have oq:=hw _ (List.getElem_mem (mF i hi));unfold AX at h0 h1;rw [getElem!_pos l i (mF i hi)] at h0 h1;simp only [bK,if_true,Nat.one_ne_zero,if_false] at h0 h1;have QT:(l[i]'(mF i hi)).x.hi - (l[i]'(mF i hi)).x.lo+1<=1:=Int.le_trans h0 fE;have oV:(l[i]'(mF i hi)).y.hi - (l[i]'(mF i hi)).y.lo+1<=1:=Int.le_trans h1 fE;unfold jq at oq;clear h0 h1;generalize l[i]'(mF i hi)=b at *;obtain ⟨⟨a,b⟩,⟨c,d⟩⟩:=b;simp only at QT oV oq;have e1:b=a:=by omega
  have e2:d=c:=by omega
  subst e1 e2;rfl
 refine oL (l.map fun b=>⟨b.x.lo,b.y.lo⟩) ⟨by simp [hl],fun i h h'=>?_,fun f hf=>?_⟩
 .have aU:i < l.length:=by simpa using h
  have s1:=hs.2 i aU h';have s2:=hw _ (List.getElem_mem aU);unfold fG fq at s1;unfold jq at s2;unfold fA;simp only [List.getElem_map];omega
 .obtain ⟨KH,yl⟩:=bn.1 hf;have oq:=hd.within f KH g hg yl;have key:∀ j∈g,((l.map fun b=>(⟨b.x.lo,b.y.lo⟩:Pt)).map fT)[j]! = l[j]! := fun j hj=>by
   have jm:=mF j hj;rw [getElem!_pos l j jm,getElem!_pos _ j (by simpa using jm)];simp only [List.getElem_map];exact (bu j hj).symm
  have e:=JY (f:=f) (l:=((l.map fun b=>(⟨b.x.lo,b.y.lo⟩:Pt)).map fT)) (m:=l) ⟨key _ oq.a,key _ oq.b,fun hk=>key _ (oq.c hk)⟩;rw [e]
  cases nI:zJ f l with
  | false=>rfl
  | true=>exact absurd ⟨f,hf,nI⟩ hb
def U8 (fs:List Fact) (i:Int) (l:List Box):Prop:=0<=i/\i < fs.length/\zJ fs[i.toNat]! l=true
theorem zjD {fs:List Fact} {l:List Box}:∀ {is:List Int},rY fs is->0<=bR fs l is->U8 fs (bR fs l is) l/\bR fs l is∈is
 | [],_,h=>by simp [bR] at h
 | i::is,ho,h=>by
  unfold bR at h ⊢
  by_cases hf:zJ fs[i.toNat]! l=true
  .simp only [hf,if_true] at h ⊢;have:=ho i List.mem_cons_self;exact ⟨⟨this.1,this.2,hf⟩,List.mem_cons_self⟩
  .simp only [hf] at h ⊢;have:=zjD (fun j hj=>ho j (List.mem_cons_of_mem _ hj)) h;exact ⟨this.1,List.mem_cons_of_mem _ this.2⟩
def sP (p:Problem) (g:List Nat) (m:Nat) (l:List Box):List Node:=Ib (fun l=>bR p.facts.xs l (FM p.facts.xs g)) (x9 (Dl p.facts.xs g) (vC g)) m l
theorem zkZ {p:Problem} (ok:af p) (g:List Nat):vg lG (fI p.facts.xs g) p.boxes.xs.length:=fun f hf=>Ir ok f (bn.1 hf).1
theorem zpd {p:Problem} (ok:af p) {gs:List (List Nat)} (hd:fP p.facts.xs p.boxes.xs.length gs) {g:List Nat} (hg:g∈gs) (bL:g≠[]) (oL:∀ pts,¬ l5 (fI p.facts.xs g) p.boxes.xs pts)
  {r:Option (List Box)} (hr:bN lG (fI p.facts.xs g) p.boxes.xs r) {m:Nat} (hm:fU p.boxes.xs < m) :
  oO (U8 p.facts.xs) p.boxes.xs (sP p g m p.boxes.xs)/\(sP p g m p.boxes.xs).length+1<=2*(fU p.boxes.xs+CU r g) :=
 zqH (fun l h=>(zjD (ZR _ _) h).1) (fun l h hb=>by
  obtain ⟨f,hf,hs⟩:=hb;have:=Dk.2 ⟨f,hf,hs⟩;omega) (zkZ ok g) (Fz ok) hr (zrF ok hd hg bL oL) m hm
def Dm (p:Problem) (g:List Nat):Prop:=∀ pts,¬ l5 (fI p.facts.xs g) p.boxes.xs pts
theorem fP.fI {fs:List Fact} {n:Nat} {gs:List (List Nat)} (h:fP fs n gs) (g:List Nat):fP (fI fs g) n gs :=
 ⟨h.nodup,h.all,fun f hf=>h.within f (bn.1 hf).1,fun f hf=>h.named f (bn.1 hf).1⟩
def M3 (l:List Box) (g:List Nat) (c:List Pt):List Pt:=(List.range l.length).map fun j=>if j∈g then c[g.idxOf j]! else ⟨l[j]!.x.lo,l[j]!.y.lo⟩
theorem ZV (l:List Box) (g:List Nat) (c:List Pt):(M3 l g c).length=l.length:=by simp [M3]
theorem zi9 {l:List Box} {g:List Nat} {c:List Pt} {j:Nat} (hj:j < l.length) (h:j∈g):(M3 l g c)[j]! = c[g.idxOf j]! := by
 rw [getElem!_pos _ j (by rw [ZV];exact hj)];simp [M3,h]
theorem zl5 {l:List Box} {g:List Nat} {c:List Pt} (hn:g.Nodup) (hi:∀ i∈g,i < l.length) (hc:c.length=g.length):pick (M3 l g c) g=c:=by
 refine List.ext_getElem (by simp [pick,hc]) fun k h1 h2=>?_
 have hk:k < g.length:=by omega
 simp only [pick,List.getElem_map];rw [zi9 (hi _ (List.getElem_mem hk)) (List.getElem_mem hk),hn.idxOf_getElem k hk,getElem!_pos c k h2]
theorem znm {fs:List Fact} {l:List Box} {g:List Nat} {c:List Pt} (hw:Wf l) (hn:g.Nodup) (hi:∀ i∈g,i < l.length) (oq:∀ f∈fs,f.a.toNat∈g->Within g f) (hc:c∈jk (fI fs g) l g):l5 (fI fs g) l (M3 l g c):=by
 obtain ⟨⟨h1,h2⟩,h3⟩:=(UB hn fun f hf ha=>oq f (bn.1 hf).1 ha).1 hc
 refine ⟨ZV _ _ _,fun j h h'=>?_,fun f hf=>?_⟩
 .by_cases hj:j∈g
  .have e:=zi9 (c:=c) h' hj;rw [getElem!_pos _ j h] at e;rw [e];have hk:g.idxOf j < g.length:=List.idxOf_lt_length_iff.2 hj;have:=h2 (g.idxOf j) hk (by omega);rw [List.getElem_idxOf] at this;rw [getElem!_pos c _ (by omega)];rwa [getElem!_pos l j h'] at this
  .simp only [M3,List.getElem_map,List.getElem_range,hj,if_false];have:=hw _ (List.getElem_mem h');rw [getElem!_pos l j h'];unfold jq at this;unfold fA;simp only;omega
 .obtain ⟨MC,J7⟩:=bn.1 hf;rw [<- Yw (facts:=fs) (ZV l g c) hn hi (oq f MC J7),zl5 hn hi h1];exact h3 f hf J7
theorem zrK {p q:Problem} (ok:af p) {g:List Nat} (hb:q.boxes.xs=p.boxes.xs) (hf:q.facts.xs=fI p.facts.xs g):af q :=
 ⟨by rw [hb];exact ok.nb,by rw [hf];exact Nat.le_trans (List.length_filter_le ..) ok.nf,by rw [hb];exact ok.box,by rw [hf,hb];exact fun f h=>ok.fact f (bn.1 h).1⟩
section
variable {p q:Problem} {gs:List (List Nat)} {g:List Nat}
theorem zlU (hb:q.boxes.xs=p.boxes.xs) (hf:q.facts.xs=fI p.facts.xs g) (hr:bN lG q.facts.xs q.boxes.xs none):Dm p g:=fun pts h=>by
 obtain ⟨l,e,_⟩:=U6 (p:=q) hr (pts:=pts) (by unfold iQ;rw [hb,hf];exact h);simp at e
theorem zqQ (ok:af p) (hd:fP p.facts.xs p.boxes.xs.length gs) (hg:g∈gs) (hb:q.boxes.xs=p.boxes.xs) (hf:q.facts.xs=fI p.facts.xs g) {l:List Box} (hs:aL l p.boxes.xs) (hw:Wf l):rZ q.facts.xs l g (jS q.facts.xs l g):=by
 have h1:=hd.one g hg
 refine znW (fun k hk=>by rw [hs.1];exact h1.2 k hk) hw (fun f h ha=>?_) fun f h=>?_
 .rw [hf] at h;exact hd.within f (bn.1 h).1 g hg ha
 .rw [hf] at h;have h1:=(Au f _).1 (ok.fact f (bn.1 h).1);exact ⟨by omega,by omega,by omega⟩
theorem zlF (ok:af p) (hd:fP p.facts.xs p.boxes.xs.length gs) (hg:g∈gs) (hb:q.boxes.xs=p.boxes.xs) (hf:q.facts.xs=fI p.facts.xs g) {l:List Box} (hr:bN lG q.facts.xs q.boxes.xs (some l)):(jS q.facts.xs l g).n=0↔Dm p g:=by
 have h1:=hd.one g hg;have hs:aL l p.boxes.xs:=by rw [<- hb];exact hr.1.sub
 rw [(zqQ ok hd hg hb hf hs hr.1.wf).n]
 constructor
 .intro h0 pts h;obtain ⟨l',e,h'⟩:=U6 (p:=q) hr (pts:=pts) (by unfold iQ;rw [hb,hf];exact h);simp only [Option.some.injEq] at e;subst e;have:=Yx (by rw [hf,hs.1];exact hd.fI g) h' g hg;rw [List.eq_nil_of_length_eq_zero h0] at this;simp at this
 .intro oL
  refine Classical.byContradiction fun hc=>?_
  obtain ⟨c,hc⟩:=List.exists_mem_of_ne_nil (jk q.facts.xs l g) fun e=>hc (by rw [e];rfl);rw [hf] at hc;have:=znm hr.1.wf h1.1 (fun i hi=>by rw [hs.1];exact h1.2 i hi) (fun f hf ha=>hd.within f hf g hg ha) hc;have h2:=(RU (p:=q) hr _).2 (by rw [hf];exact this);unfold iQ at h2;rw [hf,hb] at h2;exact oL _ h2
theorem zrQ (ok:af p) (hd:fP p.facts.xs p.boxes.xs.length gs) (h:∀ g∈gs,¬ Dm p g):∃ pts,iQ p pts:=by
 have hex:∀ g∈gs,∃ pts,l5 (fI p.facts.xs g) p.boxes.xs pts:=fun g hg=>Classical.byContradiction fun hc=>h g hg fun pts hp=>hc ⟨pts,hp⟩;obtain ⟨ch,nK⟩:∃ ch:List Nat->List Pt,∀ g∈gs,l5 (fI p.facts.xs g) p.boxes.xs (ch g):=by
  refine ⟨fun g=>if h:g∈gs then (hex g h).choose else [],fun g hg=>?_⟩
  simp only;rw [dif_pos hg];exact (hex g hg).choose_spec
 have M4:∀ j,j < p.boxes.xs.length->∃ g∈gs,j∈g:=fun j hj=>List.mem_flatten.1 ((hd.all j).1 hj);obtain ⟨of,M4⟩:∃ of:Nat->List Nat,∀ j,j < p.boxes.xs.length->of j∈gs/\j∈of j:=by
  refine ⟨fun j=>if h:j < p.boxes.xs.length then (M4 j h).choose else [],fun j hj=>?_⟩
  simp only;rw [dif_pos hj];exact (M4 j hj).choose_spec
 have hlen:((List.range p.boxes.xs.length).map fun j=>(ch (of j))[j]!).length=p.boxes.xs.length:=by simp
 refine ⟨(List.range p.boxes.xs.length).map fun j=>(ch (of j))[j]!,hlen,fun j h h'=>?_,fun f hf=>?_⟩
 .have hs:=nK _ (M4 j h').1;have:=hs.CS j (by rw [hs.len];exact h') h';simp only [List.getElem_map,List.getElem_range];rwa [getElem!_pos _ j (by rw [hs.len];exact h')]
 .have ha:f.a.toNat < p.boxes.xs.length:=by have:=(hd.named f hf).a;omega
  obtain ⟨hg,vJ⟩:=M4 _ ha;have oq:=hd.within f hf _ hg vJ;have hs:=nK _ hg;have key:∀ j∈of f.a.toNat,(((List.range p.boxes.xs.length).map fun j=>(ch (of j))[j]!).map fT)[j]! = ((ch (of f.a.toNat)).map fT)[j]! := fun j hj=>by
   have jm:=(hd.one _ hg).2 j hj;have e:of j=of f.a.toNat:=ZT hd.nodup (M4 j jm).1 hg (M4 j jm).2 hj;rw [getElem!_pos _ j (by simpa using jm),getElem!_pos ((ch (of f.a.toNat)).map fT) j (by rw [List.length_map,hs.len];exact jm)];simp only [List.getElem_map,List.getElem_range];rw [e,getElem!_pos _ j (by rw [hs.len];exact jm)]
  rw [JY ⟨key _ oq.a,key _ oq.b,fun hk=>key _ (oq.c hk)⟩];exact hs.facts f (bn.2 ⟨hf,vJ⟩)
end
def pg (fs:List Fact) (tree:List Node):Nat->List Box->Nat->Bool×Nat
 | 0,_,a=>(false,a)
 | m+1,l,a=>match tree[a]? with
  | none=>(false,a)
  | some d=>if d.fact≠-1 then (decide (0<=d.fact)&&(decide (d.fact < fs.length)&&(decide (d.point=0)&&(decide (d.jd=0)&&(decide (d.at_=0)&&zJ fs[d.fact.toNat]! l)))),a+1)
   else if 0<=d.point/\d.point < l.length/\0<=d.jd/\d.jd<=1 then
    if (bK l[d.point.toNat]! d.jd.toNat).lo<=d.at_/\d.at_ < (bK l[d.point.toNat]! d.jd.toNat).hi then
     if (pg fs tree m (bV l d.point.toNat d.jd.toNat d.at_) (a+1)).1 then pg fs tree m (nk l d.point.toNat d.jd.toNat d.at_) (pg fs tree m (bV l d.point.toNat d.jd.toNat d.at_) (a+1)).2
     else (false,(pg fs tree m (bV l d.point.toNat d.jd.toNat d.at_) (a+1)).2)
    else (false,a+1)
   else (false,a+1)
def ym (fs:List Fact) (boxes:List Box) (tree:List Node):Bool:=(pg fs tree (fU boxes+1) boxes 0).1&&decide ((pg fs tree (fU boxes+1) boxes 0).2=tree.length)
theorem RX (fs:List Fact) (tree:List Node):∀ (m:Nat) (l:List Box) (a:Nat),a<=tree.length->a<=(pg fs tree m l a).2/\(pg fs tree m l a).2<=tree.length
 | 0,l,a,h=>⟨Nat.le_refl _,h⟩
 | m+1,l,a,h=>by
  unfold pg
  cases ht:tree[a]? with
  | none=>exact ⟨Nat.le_refl _,h⟩
  | some d =>
   have ha:a < tree.length:=(List.getElem?_eq_some_iff.1 ht).1;simp only
   repeat' split
   .exact ⟨by simp only;omega,by simp only;omega⟩
   .have h1:=RX fs tree m (bV l d.point.toNat d.jd.toNat d.at_) (a+1) (by omega);have h2:=RX fs tree m (nk l d.point.toNat d.jd.toNat d.at_) _ h1.2;exact ⟨by omega,h2.2⟩
   .have h1:=RX fs tree m (bV l d.point.toNat d.jd.toNat d.at_) (a+1) (by omega);exact ⟨by simp only;omega,by simp only;omega⟩
   .exact ⟨by simp only;omega,by simp only;omega⟩
   .exact ⟨by simp only;omega,by simp only;omega⟩
theorem zqq {fs:List Fact} {l:List Box} {t:List Node} (h:oO (U8 fs) l t):∀ (pre post:List Node) (m:Nat),fU l < m->pg fs (pre++t++post) m l pre.length=(true,pre.length+t.length):=by
 induction h with
 | leaf l f hb =>
  intro pre post m hm;obtain ⟨m,rfl⟩:∃ k,m=k+1:=⟨m - 1,by omega⟩
  obtain ⟨h0,h1,h2⟩:=hb;have e:(pre++[(⟨f,0,0,0⟩:Node)]++post)[pre.length]?=some ⟨f,0,0,0⟩:=by simp
  unfold pg;rw [e];simp only;rw [if_pos (by omega),h2];simp [h0,h1]
 | node l i ax t ta tb hp ha hb iha ihb =>
  intro pre post m hm;obtain ⟨m,rfl⟩:∃ k,m=k+1:=⟨m - 1,by omega⟩
  have e:(pre++((⟨-1,i,ax,t⟩:Node)::(ta++tb))++post)[pre.length]?=some ⟨-1,i,ax,t⟩:=by simp
  have aU:=hp.il;have hal:=hp.al;have m1:=QD hp;have m2:=QE hp;have a1:=iha (pre++[⟨-1,i,ax,t⟩]) (tb++post) m (by omega);have b1:=ihb (pre++[⟨-1,i,ax,t⟩]++ta) post m (by omega);have e1:pre++[(⟨-1,i,ax,t⟩:Node)]++ta++(tb++post)=pre++((⟨-1,i,ax,t⟩:Node)::(ta++tb))++post:=by simp
  have e2:pre++[(⟨-1,i,ax,t⟩:Node)]++ta++tb++post=pre++((⟨-1,i,ax,t⟩:Node)::(ta++tb))++post:=by simp
  rw [e1] at a1;rw [e2] at b1;have e3:(pre++[(⟨-1,i,ax,t⟩:Node)]).length=pre.length+1:=by simp
  have e4:(pre++[(⟨-1,i,ax,t⟩:Node)]++ta).length=pre.length+1+ta.length:=by simp;omega
  rw [e3] at a1;rw [e4] at b1;unfold pg;rw [e];simp only [Int.toNat_natCast];rw [if_neg (by simp),if_pos (by omega),if_pos (by rw [getElem!_pos l i aU];exact ⟨hp.lo,hp.hi⟩),a1];simp only [if_true];rw [b1];simp only [List.length_cons,List.length_append,Prod.mk.injEq,true_and];omega
theorem zqF {fs:List Fact} {l:List Box} {t:List Node} (h:oO (U8 fs) l t):ym fs l t=true:=by
 have:=zqq h [] [] (fU l+1) (by omega);simp only [List.nil_append,List.append_nil,List.length_nil,Nat.zero_add] at this;unfold ym;rw [this];simp
end Go.Proofs.YtmmhnfghklppiaaGreat.Vm
