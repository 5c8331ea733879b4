/- Narrow, Parts and Volume: the program's, walked. find and solved: what is seen of all parts, walked. solved, Count: the program's, walked. found.hull and Hull: the program's, walked. What find, Count, Hull and Decide say of the solutions. Plain Lean. A part without a solution: what its tree grows by, and that the tree fits. Plain Lean. The part that has no solution; walking through a tree. Plain Lean. The tree of the guilty part is small where the problem is tractable. Plain Lean. -/
import Derived.Test.YtmmhnfghklppiaaGreatWk22
import Derived.Test.YtmmhnfghklppiaaGreatWk24
import Derived.Test.YtmmhnfghklppiaaGreatWk17
import Derived.Test.YtmmhnfghklppiaaGreatWk8
namespace Go.Proofs.YtmmhnfghklppiaaGreat.Vm
open Go
set_option linter.unusedSimpArgs false
set_option linter.unusedVariables false
set_option maxHeartbeats 4000000
set_option maxRecDepth 4000
theorem zr7 {p:Problem} {l:List Box} (hl:l.length=p.boxes.xs.length):∃ q:Sl Box,EC p (some l)=q.pv Box.cells 4/\q.xs=l:=by
 obtain ⟨bs,fs⟩:=p
 cases bs with
 | nil =>
  have:l=[]:=List.eq_nil_of_length_eq_zero hl;subst this;exact ⟨.nil,rfl,rfl⟩
 | mk h xs=>exact ⟨.mk false l,rfl,rfl⟩
theorem UJ (m:Nat->Nat) (n:Nat):(pG m n).length<=n/\∀ l∈pG m n,l.length<=n/\∀ k∈l,k < n:=by
 refine ⟨zhz m n n,fun l hl=>?_⟩
 obtain ⟨i,_,_,rfl⟩:=jK.1 hl;exact ⟨zjc m i n,fun k hk=>(bY.1 hk).1⟩
structure aZ where
 empty:Bool
 ag:List fE
def ym (s:fE):List PV:=[s.pv]
@[simp] def aZ.cells (D:aZ):List PV:=[.bool D.empty,(Sl.of D.ag).pv ym 1]
def EF (L:List fE):Bool:=L.any fun s=>s.n == 0
theorem zmL (L:List fE) (s:fE):EF (L++[s])=(EF L||decide ((s.n:Int)=0)):=by
 unfold EF;rw [List.any_append];simp only [List.any_cons,List.any_nil,Bool.or_false]
 congr 1
 rw [Bool.eq_iff_iff];simp
def iD (p:Problem) (D:aZ) (e:Int):Prop:=(bM zX p.facts.xs p.boxes.xs none/\D=⟨true,[]⟩/\e=0) \/
 ∃ l m,bM zX p.facts.xs p.boxes.xs (some l)/\bV (pF p.facts.xs) p.boxes.xs.length m /\
  ((65536 < pJ l (pG m p.boxes.xs.length)/\D=⟨false,[]⟩/\e=2) \/
   (pJ l (pG m p.boxes.xs.length)<=65536/\D=⟨EF ((pG m p.boxes.xs.length).map (jE p.facts.xs l)),(pG m p.boxes.xs.length).map (jE p.facts.xs l)⟩/\e=0))
theorem zif {b:List Box}:∀ {ps:List (List Nat)} {x:Int} {g:List Nat},g∈ps->pI b g<=ps.foldl (fun x l=>max x (pI b l)) x
 | a::ps,x,g,h=>by
  rw [List.foldl_cons];rcases List.mem_cons.1 h with rfl|h
  .have mono:∀ (ps:List (List Nat)) (x:Int),x<=ps.foldl (fun x l=>max x (pI b l)) x:=by
    intro ps
    induction ps with
    | nil=>intro x;exact Int.le_refl _
    | cons a ps ih=>intro x;have:=ih (max x (pI b a));rw [List.foldl_cons];omega
   have:=mono ps (max x (pI b g));omega
  .exact zif h
theorem JC {p:Problem} (ok:ae p):∀ f∈p.facts.xs,Named f p.boxes.xs.length:=fun f hf=>zij (ok.fact f hf)
theorem ziC {p:Problem} (ok:ae p):∀ f∈p.facts.xs,f.a≠f.b/\(f.kind=2->f.c≠f.a):=fun f hf=>by
 have h:=(CZ f _).1 (ok.fact f hf)
 refine ⟨by omega,fun hk=>?_⟩
 have:=h.2.2.2.2.2.1 hk;omega
theorem zsZ {p:Problem} (ok:ae p) {l:List Box} {m:Nat->Nat} (hr:bM zX p.facts.xs p.boxes.xs (some l)) (hm:bV (pF p.facts.xs) p.boxes.xs.length m) (hv:pJ l (pG m p.boxes.xs.length)<=65536) {q:Sl Box} (hq:q.xs=l) {g:List Nat} (hg:g∈pG m p.boxes.xs.length):Dj p q g:=by
 have hd:=MS hm (JC ok);have hlen:l.length=p.boxes.xs.length:=hr.1.sub.1;obtain ⟨i,hi,hri,rfl⟩:=jK.1 hg;have Dk:=zlr hm (JC ok) (ziC ok) hi hri;have h1:=hd.one _ hg;have sH:=UJ m p.boxes.xs.length
 refine ⟨ok,by rw [hq];exact hr.1.sub,by rw [hq];exact hr.1.wf,h1.1,fun k hk=>by rw [hq,hlen];exact h1.2 k hk,Dk.2.1,by have:=(sH.2 _ hg).1;have:=ok.nb;omega,fun f hf ha=>hd.within f hf _ hg ha,fun h=>?_⟩
 rw [hq]
 refine Nat.le_trans (zrl hr.1.wf (fun k hk=>by rw [hlen];exact h1.2 k hk) h ?_) (by decide)
 have:=zif (b:=l) (x:=0) hg;unfold pJ at hv;omega
theorem sh48:G.shared 48=false:=by decide
theorem e48 (n:Nat) (p:Problem) (ok:ae p) (D:aZ) (e:Int) (h:iD p D e):zK G (n+51) 48 [.agg p.cells]=some (.aQ [.agg D.cells,.int .i64 e]):=by
 refine zz (zy _) rfl g48 rfl ?_
 rcases h with ⟨hr,rfl,rfl⟩|⟨l,m,hr,hm,h⟩
 .have hn:=fun H=>ze (G:=G) (n:=n+50) (H:=H) (caps:=[]) (ps:=[.agg p.cells]) sh62 (e62 (n+43) p ok none hr);have Ap:EC p none=.nils:=rfl;rw [Ap] at hn;simp only [Problem.cells,List.map] at hn;clear hr Ap;simp [*,zb,c48,Problem.cells]
 .have hl:l.length=p.boxes.xs.length:=hr.1.sub.1;obtain ⟨q,hq,Ni⟩:=zr7 hl;have hn:=fun H=>ze (G:=G) (n:=n+50) (H:=H) (caps:=[]) (ps:=[.agg p.cells]) sh62 (e62 (n+43) p ok (some l) hr);have hp:=fun H=>ze (G:=G) (n:=n+50) (H:=H) (caps:=[]) (ps:=[.agg p.cells]) sh95 (e95 (n+48) p ok m hm);have Dk:=UJ m p.boxes.xs.length;have nb:=ok.nb;have hv:=fun H=>ze (G:=G) (n:=n+50) (H:=H) (caps:=[]) (ps:=[q.pv Box.cells 4,(Sl.of (pG m p.boxes.xs.length)).pv Ju 1]) sh96 (e96 (n+48) q (Sl.of (pG m p.boxes.xs.length)) (by rw [Ni];omega) (by rw [Sl.iV];omega) (by rw [Ni];exact KF ok hr.1.sub hr.1.wf) (by rw [Sl.iV,Ni,hl];exact fun x hx=>⟨by have:=(Dk.2 x hx).1;omega,(Dk.2 x hx).2⟩));have EB:=Hide.mk (fun (Dl:pJ l (pG m p.boxes.xs.length)<=65536) (g:List Nat) (hg:g∈pG m p.boxes.xs.length) H=>ze (G:=G) (n:=n+50) (H:=H) (caps:=[]) (ps:=[.agg p.cells,q.pv Box.cells 4,lK g]) sh97 (e97 n p q g (zsZ ok hr hm Dl Ni hg)));rw [Ni] at EB;rw [ziw] at hp;rw [Sl.iV,Ni] at hv;have vD:Hide ((pG m p.boxes.xs.length).length<=12):=⟨by omega⟩
  generalize pG m p.boxes.xs.length=gs at *;rcases h with ⟨Dl,rfl,rfl⟩|⟨Dl,Nj,rfl⟩
  .have UK:65536 < pJ l gs:=Dl;rw [hq] at hn;simp only [Problem.cells,List.map] at hn hp hv;clear hr hm Dk Ni hq ok nb hl EB Dl;generalize pJ l gs=x at *;generalize q.pv Box.cells 4=y at *;generalize (Sl.of gs).pv Ju 1=w at *;simp [*,zb,c48,Problem.cells]
  .have UK:¬ 65536 < pJ l gs:=by omega
   have Pj:=Hide.mk (EB.h Dl);rw [hq] at hn;simp only [Problem.cells,List.map] at hn hp hv;clear hr hm Dk Ni hq ok nb hl EB Dl;generalize pJ l gs=x at *;generalize hy:q.pv Box.cells 4=y at *;obtain ⟨s,hs⟩:∃ s,s=Sl.of gs:=⟨_,rfl⟩
   have yn:s.xs=gs:=by rw [hs,Sl.iV]
   rw [<- hs] at hp hv;have pV:s.xs.length<=12:=by rw [yn];exact vD.h
   have FD:=Hide.mk yn;have UL:=Hide.mk Nj;clear hs yn hy Nj;(repeat' first|simp [*,zb,c48,Problem.cells]|(apply za<;>intro _ h<;>try simp [-Nat.le_zero_eq] at h)|(show wpE 0 (zm ..) ..;refine zA ?_)|(refine zt fun v2 H2 fD aY aJ aK aL aM=>?_))
   refine zL [(9,10),(28,52)] (fun (i:Nat) env H=>env 28=.pure (.int .i64 i)/\i<=s.xs.length/\1 < H.nx/\H.get 0=.cells true [.pure (.bool false),.pure .nils]/\∃ V,H.get 1=.cells true [.pure (.bool (EF ((gs.map (jE p.facts.xs l)).take i))),V]/\Hide (aD ym 1 H V ((gs.map (jE p.facts.xs l)).take i)/\∀ id,Names V id->1 < id)) (fun i=>s.xs.length - i) 0 ?_ ?_ ?_ ?_
   .decide
   .exact ⟨by simp,by omega,by simp,by simp,.pure .nils,by simp [EF],⟨by simpa using aD.nil,fun id ⟨_,_,_,h⟩=>by simp at h⟩⟩
   .simp only [zF];omega
   rintro i env H ⟨g28,hi,bX,h0,V,h1,hV⟩;generalize hb:EF ((gs.map (jE p.facts.xs l)).take i)=b at *
   by_cases aO:i < s.xs.length
   .have w1:IntKind.i64.wrap ((i:Int)+1)=(i+1:Nat):=by rw [wrap64 (by omega) (by omega)];omega
    have qh:(i:Int) < s.xs.length:=by omega
    have yh:i < gs.length:=by rw [<- FD.h];exact aO
    have hme:s.xs[i]∈gs:=by rw [<- FD.h];exact List.getElem_mem aO
    have IG:=Pj.h s.xs[i] hme;have EG:(gs.map (jE p.facts.xs l)).take (i+1)=(gs.map (jE p.facts.xs l)).take i++[jE p.facts.xs l s.xs[i]]:=by
     have e:=FD.h;subst e;rw [List.take_add_one,List.getElem?_eq_getElem (by simpa using aO)];simp
    obtain ⟨g,hg⟩:∃ g,s.xs[i]=g:=⟨_,rfl⟩
    rw [hg] at IG EG;have Ji:Hide (EF ((gs.map (jE p.facts.xs l)).take (i+1))=(b||decide (((jE p.facts.xs l g).n:Int)=0))):=⟨by
     rw [EG,zmL,hb]⟩
    have hlen:((gs.map (jE p.facts.xs l)).take i).length<=12:=by rw [List.length_take];have:=vD.h;omega
    have Dm:=Hide.mk EG;generalize jE p.facts.xs l g=D' at *;generalize (gs.map (jE p.facts.xs l)).take i=L at *;simp only [Problem.cells,Jv,List.map] at IG;have yo:=hV.h.1.1.one;have KU:=yo.1;have KW:=yo.2;have FE:D'.pv=.ptr false [lK D'.part,.int .i64 D'.n,.slice false 4 (chunks 4 D'.part.length (D'.ends.map iN)),iN D'.first] 0:=rfl;have hDH:=Hide.mk FE;rw [FE] at IG;clear Pj EG hb yo FE;obtain ⟨pp,yj⟩:∃ pp,pp=lK D'.part:=⟨_,rfl⟩
    obtain ⟨cc,tV⟩:∃ cc,cc=chunks 4 D'.part.length (D'.ends.map iN):=⟨_,rfl⟩
    obtain ⟨oo,Hy⟩:∃ oo,oo=iN D'.first:=⟨_,rfl⟩
    have EH:Hide (D'.pv=.ptr false [pp,.int .i64 D'.n,.slice false 4 cc,oo] 0):=⟨by rw [hDH.h,<- yj,<- tV,<- Hy]⟩
    rw [<- yj,<- tV,<- Hy] at IG;have KX:ym D'=[D'.pv]:=rfl;rw [EH.h] at KX;obtain ⟨nn,Q4⟩:∃ nn:Int,nn=D'.n:=⟨_,rfl⟩
    rw [<- Q4] at IG Ji KX;have Pm:=Hide.mk KX;clear Q4 KX;clear yj tV Hy hDH
    cases b with
    | true =>
     have CO:Hide (EF ((gs.map (jE p.facts.xs l)).take (i+1))=true):=⟨by rw [Ji.h];rfl⟩
     clear Ji;(repeat' first|simp [*,zb,Ju]|(apply za<;>intro _ h<;>try simp [-Nat.le_zero_eq] at h)|(show wpE 0 (zm ..) ..;refine zA ?_)|(refine zt fun v2 H2 fD aY aJ aK aL aM=>?_))
     refine H8 (f:=ym) (sz:=1) (l:=L) ((hV.h.1.set (fun hn=>by have:=hV.h.2 1 hn;omega) _).alloc _) (fun _=>rfl) (by decide) (fun _=>rfl) (by unfold zo;omega) ⟨D',by rw [Pm.h];simp,?_⟩
     intro V4 H4 nK ha;have xh:Hide (aD ym 1 H4 V4 ((gs.map (jE p.facts.xs l)).take (i+1))/\∀ id,Names V4 id->1 < id):=⟨by rw [Dm.h];exact nK,fun id hn=>by have:=ha.new id hn;simp at this;omega⟩
     have g0:H4.get 0=.cells true [.pure (.bool false),.pure .nils]:=by
      rw [ha.get 0 (by rw [rC,mi];omega) (fun hn=>by have:=hV.h.2 0 hn;omega),zg (by rw [mi];omega),zf (by omega)];exact h0
     have g1:H4.get 1=.cells true [.pure (.bool true),V]:=by
      rw [ha.get 1 (by rw [rC,mi];omega) (fun hn=>by have:=hV.h.2 1 hn;omega),zg (by rw [mi];omega),zn bX]
     have gn:1 < H4.nx:=by have:=ha.nx;simp at this;omega
     have o4:=nK.1.one;have Q5:=o4.1;have Q7:=o4.2;clear nK ha o4 hV;(repeat' first|simp [*,zb]|(apply za<;>intro _ h<;>try simp [-Nat.le_zero_eq] at h)|(show wpE 0 (zm ..) ..;refine zA ?_)|(refine zt fun v2 H2 fD aY aJ aK aL aM=>?_));exact ⟨i+1,by omega,by omega,by omega,V4,⟨CO.h,rfl⟩,⟨xh.h.1.set (fun hn=>by have:=xh.h.2 1 hn;omega) _,xh.h.2⟩⟩
    | false =>
     by_cases hz:nn=0
     .have CO:Hide (EF ((gs.map (jE p.facts.xs l)).take (i+1))=true):=⟨by rw [Ji.h,decide_eq_true hz];rfl⟩
      subst hz;clear Ji;(repeat' first|simp [*,zb,Ju]|(apply za<;>intro _ h<;>try simp [-Nat.le_zero_eq] at h)|(show wpE 0 (zm ..) ..;refine zA ?_)|(refine zt fun v2 H2 fD aY aJ aK aL aM=>?_))
      refine H8 (f:=ym) (sz:=1) (l:=L) ((hV.h.1.set (fun hn=>by have:=hV.h.2 1 hn;omega) _).alloc _) (fun _=>rfl) (by decide) (fun _=>rfl) (by unfold zo;omega) ⟨D',by rw [Pm.h];simp,?_⟩
      intro V4 H4 nK ha;have xh:Hide (aD ym 1 H4 V4 ((gs.map (jE p.facts.xs l)).take (i+1))/\∀ id,Names V4 id->1 < id):=⟨by rw [Dm.h];exact nK,fun id hn=>by have:=ha.new id hn;simp at this;omega⟩
      have g0:H4.get 0=.cells true [.pure (.bool false),.pure .nils]:=by
       rw [ha.get 0 (by rw [rC,mi];omega) (fun hn=>by have:=hV.h.2 0 hn;omega),zg (by rw [mi];omega),zf (by omega)];exact h0
      have g1:H4.get 1=.cells true [.pure (.bool true),V]:=by
       rw [ha.get 1 (by rw [rC,mi];omega) (fun hn=>by have:=hV.h.2 1 hn;omega),zg (by rw [mi];omega),zn bX]
      have gn:1 < H4.nx:=by have:=ha.nx;simp at this;omega
      have o4:=nK.1.one;have Q5:=o4.1;have Q7:=o4.2;clear nK ha o4 hV;(repeat' first|simp [*,zb]|(apply za<;>intro _ h<;>try simp [-Nat.le_zero_eq] at h)|(show wpE 0 (zm ..) ..;refine zA ?_)|(refine zt fun v2 H2 fD aY aJ aK aL aM=>?_));exact ⟨i+1,by omega,by omega,by omega,V4,⟨CO.h,rfl⟩,⟨xh.h.1.set (fun hn=>by have:=xh.h.2 1 hn;omega) _,xh.h.2⟩⟩
     .have CO:Hide (EF ((gs.map (jE p.facts.xs l)).take (i+1))=false):=⟨by rw [Ji.h,decide_eq_false hz];rfl⟩
      clear Ji;(repeat' first|simp [*,zb,Ju]|(apply za<;>intro _ h<;>try simp [-Nat.le_zero_eq] at h)|(show wpE 0 (zm ..) ..;refine zA ?_)|(refine zt fun v2 H2 fD aY aJ aK aL aM=>?_))
      refine H8 (f:=ym) (sz:=1) (l:=L) ((hV.h.1.set (fun hn=>by have:=hV.h.2 1 hn;omega) _).alloc _) (fun _=>rfl) (by decide) (fun _=>rfl) (by unfold zo;omega) ⟨D',by rw [Pm.h];simp,?_⟩
      intro V4 H4 nK ha;have xh:Hide (aD ym 1 H4 V4 ((gs.map (jE p.facts.xs l)).take (i+1))/\∀ id,Names V4 id->1 < id):=⟨by rw [Dm.h];exact nK,fun id hn=>by have:=ha.new id hn;simp at this;omega⟩
      have g0:H4.get 0=.cells true [.pure (.bool false),.pure .nils]:=by
       rw [ha.get 0 (by rw [rC,mi];omega) (fun hn=>by have:=hV.h.2 0 hn;omega),zg (by rw [mi];omega),zf (by omega)];exact h0
      have g1:H4.get 1=.cells true [.pure (.bool false),V]:=by
       rw [ha.get 1 (by rw [rC,mi];omega) (fun hn=>by have:=hV.h.2 1 hn;omega),zg (by rw [mi];omega),zn bX]
      have gn:1 < H4.nx:=by have:=ha.nx;simp at this;omega
      have o4:=nK.1.one;have Q5:=o4.1;have Q7:=o4.2;clear nK ha o4 hV;(repeat' first|simp [*,zb]|(apply za<;>intro _ h<;>try simp [-Nat.le_zero_eq] at h)|(show wpE 0 (zm ..) ..;refine zA ?_)|(refine zt fun v2 H2 fD aY aJ aK aL aM=>?_));exact ⟨i+1,by omega,by omega,by omega,V4,⟨CO.h,rfl⟩,⟨xh.h.1.set (fun hn=>by have:=xh.h.2 1 hn;omega) _,xh.h.2⟩⟩
   .have xO:i=s.xs.length:=by omega
    subst xO;have fq:(gs.map (jE p.facts.xs l)).take s.xs.length=gs.map (jE p.facts.xs l):=by
     rw [FD.h];exact List.take_of_length_le (by simp)
    rw [fq] at hb hV;have bA:Hide (∀ o,FrzK (H.set 0 o) false 10 V ((Sl.of (gs.map (jE p.facts.xs l))).pv ym 1)):=⟨fun o=>(hV.h.1.set (fun hn=>by have:=hV.h.2 0 hn;omega) o).res (n:=8) (fun _=>rfl)⟩
    have yo:=hV.h.1.1.one;have KU:=yo.1;have KW:=yo.2;have Nj:=UL.h;rw [hb] at Nj;have hDb:D.empty=b:=by rw [Nj]
    have hDs:Hide (D.ag=gs.map (jE p.facts.xs l)):=⟨by rw [Nj]⟩
    have hDeH2:=Hide.mk Nj;have h0n:0 < H.nx:=by omega
    obtain ⟨ids,jk⟩:=FrzK.iA (n:=10) (FrzL.cons (FrzK.pure (.bool b)) (.cons (bA.h (.cells true [.pure (.bool b),V])) .nil));rw [<- hDs.h] at jk;clear hV yo Pj UL Nj hb fq bA;simp [*,zb]
def jL (p:Problem) (D:aZ) (e:Int):Prop:=(zQ p≠0/\D=⟨false,[]⟩/\e=zQ p)\/(zQ p=0/\iD p D e)
theorem sh38:G.shared 38=false:=by decide
theorem e38 (n:Nat) (p:Problem) (D:aZ) (e:Int) (h:jL p D e):zK G (n+52) 38 [.agg p.cells]=some (.aQ [.agg D.cells,.int .i64 e]):=by
 refine zz (zy _) rfl g38 rfl ?_
 have hc:=fun H=>ze (G:=G) (n:=n+51) (H:=H) (caps:=[]) (ps:=[.agg p.cells]) sh45 (e45 (n+48) p);rcases h with ⟨h0,rfl,rfl⟩|⟨h0,hf⟩
 .generalize zQ p=c at *;simp only [Problem.cells,List.map] at hc;simp [*,zb,c38,Problem.cells]
 .have hn:=fun H=>ze (G:=G) (n:=n+51) (H:=H) (caps:=[]) (ps:=[.agg p.cells]) sh48 (e48 n p (bW.1 h0) D e hf);rw [h0] at hc;obtain ⟨De,Ds⟩:=D;simp only [Problem.cells,aZ.cells,List.map] at hc hn ⊢;clear h0 hf;simp [*,zb,c38,Problem.cells]
def wE (s:fE) (j k:Nat):Pt:=match s.ends[j]! with
 | some c=>c[k]!
 | none=>⟨0,0⟩
def Nk (s:fE) (k:Nat):Box:=⟨⟨(wE s (4*k) k).x,(wE s (4*k+1) k).x⟩,⟨(wE s (4*k+2) k).y,(wE s (4*k+3) k).y⟩⟩
def jg (pt:Nat):List fE->Nat->Box×Int×Int
 | [],_=>(⟨⟨0,0⟩,⟨0,0⟩⟩,-1,-1)
 | s::ss,i=>if pt∈s.part then (Nk s (s.part.idxOf pt),(i:Int),(s.part.idxOf pt:Nat)) else jg pt ss (i+1)
structure oM (s:fE):Prop where
 few:s.part.length<=12
 len:s.ends.length=4*s.part.length
 all:∀ o∈s.ends,∃ c,o=some c/\c.length=s.part.length
theorem oM.at {s:fE} (h:oM s) {j k:Nat} (hj:j < s.ends.length) (hk:k < s.part.length):∃ (c:List Pt) (hc:k < c.length),s.ends[j]=some c/\wE s j k=c[k]:=by
 obtain ⟨c,h1,h2⟩:=h.all _ (List.getElem_mem hj)
 refine ⟨c,by omega,h1,?_⟩
 unfold wE;rw [getElem!_pos s.ends j hj,h1];simp only;rw [getElem!_pos c k (by omega)]
theorem Xt {c:List Pt} {k:Nat} (h:k < c.length):BA 2 (.pure (iN (some c))) (.pure (.int .i64 k))=some (.val (.pure (.ptr false [.int .i64 c[k].x,.int .i64 c[k].y] 0))):=by
 have:=rQ (k:=.i64) (f:=Pt.cells) (sz:=2) (s:=Sl.mk false c) (n:=k) (by simpa using h)
 simpa [iN,Sl.uq] using this
theorem ztn {α:Type} {L:List α} {k:Nat} (h:4*k+3 < L.length):(L.drop (4*k)).take 4=[L[4*k],L[4*k+1],L[4*k+2],L[4*k+3]]:=by
 refine List.ext_getElem (by simp;omega) fun i h1 h2=>?_
 have:i=0\/i=1\/i=2\/i=3:=by simp at h2;omega
 rcases this with rfl|rfl|rfl|rfl<;>simp
theorem sh53:G.shared 53=false:=by decide
theorem e53 (n:Nat) (D:aZ) (pt:Nat) (hl:D.ag.length<=12) (hg:∀ s∈D.ag,oM s):zK G (n+2) 53 [.agg D.cells,.int .i64 pt]=some (.aQ [.agg (jg pt D.ag 0).1.cells,.int .i64 (jg pt D.ag 0).2.1,.int .i64 (jg pt D.ag 0).2.2]):=by
 refine zz (zy _) rfl g53 rfl ?_
 obtain ⟨R,hR⟩:∃ R,jg pt D.ag 0=R:=⟨_,rfl⟩
 rw [hR];have II:=Hide.mk hR;have EA:=Hide.mk hg;clear hR hg;obtain ⟨De,Ds⟩:=D;simp only [aZ.cells] at *;obtain ⟨s,hs⟩:∃ s,s=Sl.of Ds:=⟨_,rfl⟩
 have yn:s.xs=Ds:=by rw [hs,Sl.iV]
 rw [<- hs];rw [<- yn] at EA II hl;clear hs yn;(repeat' first|simp [*,zb,c53,zk]|(apply za<;>intro _ h<;>try simp [-Nat.le_zero_eq] at h))
 refine zL [(5,10),(14,63)] (fun (i:Nat) env H=>env 14=.pure (.int .i64 i)/\i<=s.xs.length/\H.get 0=.cells true [.pure (.int .i64 0),.pure (.int .i64 0),.pure (.int .i64 0),.pure (.int .i64 0)]/\Hide (jg pt (s.xs.drop i) i=R)) (fun i=>s.xs.length - i) 0 ?_ ?_ ?_ ?_
 .decide
 .exact ⟨by simp,by omega,by simp,by simpa using II⟩
 .simp only [zF];omega
 clear II;rintro i env H ⟨g14,hi,h0,hR⟩;have vS:=zx h0;have OJ:(0:Nat)≠H.nx:=by omega
 by_cases aO:i < s.xs.length
 .have w1:IntKind.i64.wrap ((i:Int)+1)=(i+1:Nat):=by rw [wrap64 (by omega) (by omega)];omega
  have qh:(i:Int) < s.xs.length:=by omega
  have hD:=EA.h _ (List.getElem_mem aO);have hd:=List.drop_eq_getElem_cons aO;rw [hd] at hR;have mg:=hR.h;unfold jg at mg;obtain ⟨D',FH⟩:∃ D',s.xs[i]=D':=⟨_,rfl⟩
  rw [FH] at mg hD;have Ea:ym s.xs[i]=[.ptr false [lK D'.part,.int .i64 D'.n,.slice false 4 (chunks 4 D'.part.length (D'.ends.map iN)),iN D'.first] 0]:=by rw [FH];rfl
  have c1:=fun H=>ze (G:=G) (n:=n+1) (H:=H) (caps:=[]) (ps:=[(Sl.mk false (zZ D'.part)).pv aI 1,.int .i64 pt]) sh99 (e99 n (Sl.mk false (zZ D'.part)) pt (nE D'.part pt) (by rw [Sl.iW,Ez];have:=hD.few;omega) (Xo D'.part pt));rw [<- Jv] at c1;simp only [List.map] at c1
  by_cases hm:pt∈D'.part
  .rw [if_pos hm] at mg;have hk:=List.idxOf_lt_length_of_mem hm;rw [Xp (by omega) (by simpa using hm)] at c1;simp only [Int.toNat_natCast] at c1;generalize D'.part.idxOf pt=k at *;have hlen:=hD.len;obtain ⟨a0,q0,z0,y0⟩:=hD.at (j:=4*k) (k:=k) (by omega) hk;obtain ⟨a1,q1,z1,y1⟩:=hD.at (j:=4*k+1) (k:=k) (by omega) hk;obtain ⟨a2,q2,z2,y2⟩:=hD.at (j:=4*k+2) (k:=k) (by omega) hk;obtain ⟨a3,q3,z3,y3⟩:=hD.at (j:=4*k+3) (k:=k) (by omega) hk;have Gs:BA 4 (.pure (.slice false 4 (chunks 4 D'.part.length (D'.ends.map iN)))) (.pure (.int .i64 k))=some (.val (.pure (.ptr false [iN (some a0),iN (some a1),iN (some a2),iN (some a3)] 0))):=by
    refine Wy ?_
    rw [zg0 _ _ _ hk,ztn (by simp;omega)];simp [z0,z1,z2,z3]
   have hb:Nk D' k=⟨⟨a0[k].x,a1[k].x⟩,⟨a2[k].y,a3[k].y⟩⟩:=by unfold Nk;rw [y0,y1,y2,y3]
   rw [hb] at mg;have d0:=Xt q0;have d1:=Xt q1;have d2:=Xt q2;have d3:=Xt q3;subst mg;have M0:¬ (k:Int) < 0:=by omega
   clear hR hd FH EA hD hb y0 y1 y2 y3 z0 z1 z2 z3 hm;generalize a0[k]=b0 at *;generalize a1[k]=b1 at *;generalize a2[k]=b2 at *;generalize a3[k]=b3 at *;generalize lK D'.part=pp at *;generalize (chunks 4 D'.part.length (D'.ends.map iN))=cc at *;generalize iN D'.first=oo at *;generalize (D'.n:Int)=nn at *;simp [*,zb,zk,zl,zM]
  .rw [if_neg hm] at mg;have vK:nE D'.part pt=-1:=by
    have h1:=Xo D'.part pt;rcases h1 with ⟨q,hq,_,e,_⟩|⟨h1,_⟩
    .exfalso;apply hm;have:=List.getElem_mem hq;rw [e] at this;have:=(zmt (part:=D'.part) (x:=pt) (by omega)).1 this
     simpa using this
    .exact h1
   rw [vK] at c1;have hR1H:=Hide.mk mg;clear hR mg hd FH EA hD hm;generalize lK D'.part=pp at *;generalize (chunks 4 D'.part.length (D'.ends.map iN))=cc at *;generalize iN D'.first=oo at *;generalize (D'.n:Int)=nn at *;(repeat' first|simp [*,zb,zk]|(apply za<;>intro _ h<;>try simp [-Nat.le_zero_eq] at h));exact ⟨i+1,by omega,by omega,by omega,hR1H⟩
 .have xO:i=s.xs.length:=by omega
  subst xO;rw [List.drop_length] at hR;have mg:=hR.h;unfold jg at mg;subst mg;clear hR EA;simp [*,zb]
abbrev iG (p:Problem) (pts:List Pt):Prop:=mU p.facts.xs p.boxes.xs pts
theorem ztk (pts:List Pt):Wf (pts.map bT):=fun b hb=>by
 obtain ⟨x,_,rfl⟩:=List.mem_map.1 hb;exact ⟨Int.le_refl _,Int.le_refl _⟩
theorem zre {l:List Box} {pts:List Pt} (hl:pts.length=l.length) (h:∀ i (h:i < pts.length) (h':i < l.length),bO pts[i] l[i]):aP (pts.map bT) l :=
 ⟨by simpa using hl,fun i h1 h2=>by
  have tO:i < pts.length:=by simpa using h1
  have:=h i tO h2;unfold bO at this;simp only [List.getElem_map,bT,fH,fG];omega⟩
theorem ztR {l:List Box} {pts:List Pt} (h:aP (pts.map bT) l):pts.length=l.length/\∀ i (h:i < pts.length) (h':i < l.length),bO pts[i] l[i] :=
 ⟨by simpa using h.1,fun i h1 h2=>by
  have:=h.2 i (by simpa using h1) h2;simp only [List.getElem_map,bT,fH,fG] at this;unfold bO;omega⟩
theorem zmp (x:Pt) (k:Nat):vZ (bT x) k=bT x:=by
 unfold vZ bT
 split<;>rfl
theorem zjZ {facts:List Fact} {pts:List Pt} (h:∀ f∈facts,zJ f (pts.map bT)=false):Stable zX facts (pts.map bT):=fun i hi k _ f hf hs=>by
 unfold zX at hs;have bR:i < pts.length:=by simpa using hi
 have e:jW (pts.map bT) i k=pts.map bT:=by
  rw [CR hi];have:vZ (pts.map bT)[i] k=(pts.map bT)[i]:=by simp only [List.getElem_map];exact zmp _ _
  rw [this];exact List.set_getElem_self ..
 rw [e,h f hf] at hs;simp at hs
theorem Xu {p:Problem} {r:Option (List Box)} (hr:bM zX p.facts.xs p.boxes.xs r) {pts:List Pt} (h:iG p pts):∃ l,r=some l/\mU p.facts.xs l pts:=by
 have hs:=zre h.len h.xK
 cases r with
 | none=>exact absurd (zjZ h.facts) (hr _ (ztk pts) hs)
 | some l =>
  have:=ztR (hr.1.all _ (ztk pts) hs (zjZ h.facts));exact ⟨l,rfl,⟨this.1,this.2,h.facts⟩⟩
theorem zn3 {p:Problem} {l:List Box} (hs:aP l p.boxes.xs) {pts:List Pt} (h:mU p.facts.xs l pts):iG p pts:=by
 have:=ztR ((zre h.len h.xK).trans hs);exact ⟨this.1,this.2,h.facts⟩
theorem UM {p:Problem} {l:List Box} (hr:bM zX p.facts.xs p.boxes.xs (some l)) (pts:List Pt):iG p pts↔mU p.facts.xs l pts :=
 ⟨fun h=>by obtain ⟨l',e,h'⟩:=Xu hr h;simp only [Option.some.injEq] at e;rw [e];exact h',zn3 hr.1.sub⟩
theorem iD.unique {p:Problem} {D D':aZ} {e e':Int} (h:iD p D e) (h':iD p D' e'):D=D'/\e=e':=by
 rcases h with ⟨hr,rfl,rfl⟩|⟨l,m,hr,hm,h⟩
 .rcases h' with ⟨En,rfl,rfl⟩|⟨l',m',En,DY,h'⟩
  .exact ⟨rfl,rfl⟩
  .have:=hr.unique En;simp at this
 .rcases h' with ⟨En,rfl,rfl⟩|⟨l',m',En,DY,h'⟩
  .have:=hr.unique En;simp at this
  .have e1:=hr.unique En;simp only [Option.some.injEq] at e1;subst e1;have e2:=zeV (hm.unique DY);rw [<- e2] at h';rcases h with ⟨a,rfl,rfl⟩|⟨a,rfl,rfl⟩<;>rcases h' with ⟨b,rfl,rfl⟩|⟨b,rfl,rfl⟩
   .exact ⟨rfl,rfl⟩
   .omega
   .omega
   .exact ⟨rfl,rfl⟩
theorem zkn {n:Nat}:∀ (E E0:List (Nat×Nat)) (m0:Nat->Nat),bV E0 n m0->(∀ e∈E,e.1 < n/\e.2 < n)->∃ m,bV (E0++E) n m
 | [],E0,m0,h,_=>⟨m0,by rw [List.append_nil];exact h⟩
 | e::E,E0,m0,h,hE=>by
  have h1:=hE e List.mem_cons_self;obtain ⟨m,hm⟩:=zkn E (E0++[e]) _ (h.join h1.1 h1.2) fun x hx=>hE x (List.mem_cons_of_mem _ hx);exact ⟨m,by rw [List.append_assoc] at hm;exact hm⟩
theorem zoU {fs:List Fact} {n:Nat} (h:∀ f∈fs,qX f n=true):∃ m,bV (pF fs) n m:=zkn (pF fs) [] _ (bV.nil n) fun e he=>by
 obtain ⟨f,hf,he⟩:=nC.1 he;have hn:=zij (h f hf);have h1:=hn.a;have h2:=hn.b;have h3:=hn.c;unfold Af at he
 split at he
 .simp only [List.mem_cons,List.not_mem_nil,or_false] at he;rcases he with rfl|rfl<;>exact ⟨by simp only;omega,by simp only;omega⟩
 .simp only [List.mem_cons,List.not_mem_nil,or_false] at he;subst he;exact ⟨by simp only;omega,by simp only;omega⟩
theorem zo7 {p:Problem} (ok:ae p):∃ D e,iD p D e:=by
 obtain ⟨r,hr⟩:=TA (KE ok) (vI ok)
 cases r with
 | none=>exact ⟨_,_,.inl ⟨hr,rfl,rfl⟩⟩
 | some l =>
  obtain ⟨m,hm⟩:=zoU ok.fact
  by_cases hv:pJ l (pG m p.boxes.xs.length)<=65536
  .exact ⟨_,_,.inr ⟨l,m,hr,hm,.inr ⟨hv,rfl,rfl⟩⟩⟩
  .exact ⟨_,_,.inr ⟨l,m,hr,hm,.inl ⟨by omega,rfl,rfl⟩⟩⟩
theorem zqi (p:Problem):∃ D e,jL p D e:=by
 by_cases h:zQ p=0
 .obtain ⟨D,e,hf⟩:=zo7 (bW.1 h);exact ⟨D,e,.inr ⟨h,hf⟩⟩
 .exact ⟨_,_,.inl ⟨h,rfl,rfl⟩⟩
theorem jL.unique {p:Problem} {D D':aZ} {e e':Int} (h:jL p D e) (h':jL p D' e'):D=D'/\e=e':=by
 rcases h with ⟨h0,rfl,rfl⟩|⟨h0,hf⟩
 .rcases h' with ⟨_,rfl,rfl⟩|⟨h1,_⟩
  .exact ⟨rfl,rfl⟩
  .exact absurd h1 h0
 .rcases h' with ⟨h1,_⟩|⟨_,GR⟩
  .exact absurd h0 h1
  .exact hf.unique GR
structure oN (p:Problem) (D:aZ) (l:List Box) (gs:List (List Nat)):Prop where
 Fq:bM zX p.facts.xs p.boxes.xs (some l)
 div:fO p.facts.xs l.length gs
 ag:D.ag=gs.map (jE p.facts.xs l)
 seen:∀ g∈gs,uY p.facts.xs l g (jE p.facts.xs l g)
 empty:D.empty=EF D.ag
 few:gs.length<=12/\∀ g∈gs,g.length<=12
theorem zkE {p:Problem} (ok:ae p) {D:aZ} {e:Int} (h:iD p D e):(e=0/\D=⟨true,[]⟩/\bM zX p.facts.xs p.boxes.xs none)\/(e=2/\D=⟨false,[]⟩)\/(e=0/\∃ l gs,oN p D l gs):=by
 rcases h with ⟨hr,rfl,rfl⟩|⟨l,m,hr,hm,h⟩
 .exact .inl ⟨rfl,rfl,hr⟩
 .rcases h with ⟨hv,rfl,rfl⟩|⟨hv,rfl,rfl⟩
  .exact .inr (.inl ⟨rfl,rfl⟩)
  .refine .inr (.inr ⟨rfl,l,pG m p.boxes.xs.length,?_⟩)
   have hl:l.length=p.boxes.xs.length:=hr.1.sub.1;have hd:=MS hm (JC ok);have sH:=UJ m p.boxes.xs.length;have nb:=ok.nb
   refine ⟨hr,by rw [hl];exact hd,rfl,fun g hg=>?_,rfl,⟨by omega,fun g hg=>by have:=(sH.2 g hg).1;omega⟩⟩
   refine zoD (fun k hk=>by rw [hl];exact (hd.one g hg).2 k hk) hr.1.wf (fun f hf ha=>hd.within f hf g hg ha) fun f hf=>?_
   have h1:=(CZ f _).1 (ok.fact f hf);exact ⟨by omega,by omega,by omega⟩
theorem Q8 {L:List fE}:EF L=true↔∃ s∈L,s.n=0:=by simp [EF]
theorem oN.some {p:Problem} {D:aZ} {l:List Box} {gs:List (List Nat)} (h:oN p D l gs) (he:D.empty=false) {g:List Nat} (hg:g∈gs) {c:List Pt} (hc:c∈jJ p.facts.xs l g):∃ pts,iG p pts/\pick pts g=c:=by
 have bJ:∀ g'∈gs,∃ c',c'∈jJ p.facts.xs l g':=fun g' tX=>by
  have h1:=(h.seen g' tX).n;have h2:(jE p.facts.xs l g').n≠0:=fun e=>by
   have:D.empty=true:=by
    rw [h.empty,Q8,h.ag];exact ⟨_,List.mem_map.2 ⟨g',tX,rfl⟩,e⟩
   rw [this] at he;simp at he
  exact ⟨_,List.head_mem (l:=jJ p.facts.xs l g') (fun e=>h2 (by rw [h1,e];rfl))⟩
 obtain ⟨ch,pU⟩:∃ ch:List Nat->List Pt,∀ g'∈gs,ch g'∈jJ p.facts.xs l g'/\(g'=g->ch g'=c):=by
  refine ⟨fun g'=>if g'=g then c else if h':g'∈gs then (bJ g' h').choose else [],fun g' tX=>?_⟩
  simp only
  by_cases e:g'=g
  .subst e;simp [hc]
  .rw [if_neg e,dif_pos tX];exact ⟨(bJ g' tX).choose_spec,fun h=>absurd h e⟩
 have hm:gs.map ch∈MP (gs.map (jJ p.facts.xs l)):=lh.2 ⟨by simp,fun k a b=>by
  simp only [List.getElem_map];exact (pU _ (List.getElem_mem _)).1⟩
 obtain ⟨h1,h2⟩:=zkG h.div hm (p0:=List.replicate l.length ⟨0,0⟩) (by simp)
 refine ⟨_,(UM h.Fq _).2 h1,?_⟩
 have:=List.map_inj_left.1 h2 g hg;rw [this];exact (pU g hg).2 rfl
theorem oN.FI {p:Problem} {D:aZ} {l:List Box} {gs:List (List Nat)} (h:oN p D l gs):D.empty=true↔¬ ∃ pts,iG p pts:=by
 constructor
 .rintro he ⟨pts,hp⟩;rw [h.empty,Q8,h.ag] at he;obtain ⟨s,hs,h0⟩:=he;obtain ⟨g,hg,rfl⟩:=List.mem_map.1 hs;have h1:=ziX h.div ((UM h.Fq _).1 hp) g hg;rw [(h.seen g hg).n] at h0;rw [List.eq_nil_of_length_eq_zero h0] at h1;simp at h1
 .intro hn
  cases he:D.empty with
  | true=>rfl
  | false =>
   exfalso
   refine hn ?_
   -- one choice of each part
   have bJ:∀ g'∈gs,jJ p.facts.xs l g'≠[]:=fun g' tX e=>by
    have:D.empty=true:=by
     rw [h.empty,Q8,h.ag];exact ⟨_,List.mem_map.2 ⟨g',tX,rfl⟩,by rw [(h.seen g' tX).n,e];rfl⟩
    rw [this] at he;simp at he
   have hm:(gs.map fun g=>(jJ p.facts.xs l g).headD [])∈MP (gs.map (jJ p.facts.xs l)):=lh.2 ⟨by simp,fun k a b=>by
    simp only [List.getElem_map];have:=bJ _ (List.getElem_mem (l:=gs) (n:=k) (by simpa using a))
    cases hs:jJ p.facts.xs l (gs[k]'(by simpa using a)) with
    | nil=>exact absurd hs this
    | cons c cs=>simp⟩
   obtain ⟨h1,_⟩:=zkG h.div hm (p0:=List.replicate l.length ⟨0,0⟩) (by simp);exact ⟨_,(UM h.Fq _).2 h1⟩
theorem ziF {p:Problem} (ok:ae p) {D:aZ} (h:iD p D 0):D.empty=true↔¬ ∃ pts,iG p pts:=by
 rcases zkE ok h with ⟨_,rfl,hr⟩|⟨he,_⟩|⟨_,l,gs,hi⟩
 .refine ⟨fun _ ⟨pts,hp⟩=>?_,fun _=>rfl⟩
  obtain ⟨l,e,_⟩:=Xu hr hp;simp at e
 .omega
 .exact hi.FI
theorem znZ {p:Problem} (ok:ae p) {D:aZ} {e:Int} (h:iD p D e):D.ag.length<=12/\(D.empty=false->∀ s∈D.ag,s.n≠0/\oM s):=by
 rcases zkE ok h with ⟨_,rfl,_⟩|⟨_,rfl⟩|⟨_,l,gs,hi⟩
 .exact ⟨by simp,fun _ s hs=>by simp at hs⟩
 .exact ⟨by simp,fun _ s hs=>by simp at hs⟩
 .refine ⟨by rw [hi.ag,List.length_map];exact hi.few.1,fun he s hs=>?_⟩
  have hn:s.n≠0:=fun e=>by
   have:D.empty=true:=by rw [hi.empty,Q8];exact ⟨s,hs,e⟩
   rw [this] at he;simp at he
  rw [hi.ag] at hs;obtain ⟨g,hg,rfl⟩:=List.mem_map.1 hs;have ho:=hi.seen g hg;have bG:=hi.div.one g hg
  refine ⟨hn,⟨by rw [ho.same];exact hi.few.2 g hg,by rw [ho.same];exact ho.len,fun o Eh=>?_⟩⟩
  obtain ⟨j,hj,rfl⟩:=List.mem_iff_getElem.1 Eh;obtain ⟨c,hc,h1,_⟩:=ho.ends hn j hj
  refine ⟨c,h1,?_⟩
  rw [ho.same];exact ((QM bG.1 (fun f hf ha=>hi.div.within f hf g hg ha)).1 hc).1.1
def fC (fs:List Fact) (g:List Nat):List Fact:=fs.filter fun f=>g.contains f.a.toNat
def IJ (fs:List Fact) (g:List Nat):List Int:=(jS fs.length).filter fun k=>g.contains (fs[k.toNat]!).a.toNat
theorem bB {fs:List Fact} {g:List Nat} {f:Fact}:f∈fC fs g↔f∈fs/\f.a.toNat∈g:=by simp [fC]
theorem zh1 (fs:List Fact) (g:List Nat):uX fs (IJ fs g):=fun j hj=>M3 fs j (List.mem_filter.1 hj).1
theorem zql (fs:List Fact) (g:List Nat):(IJ fs g).length<=fs.length:=by
 have:=List.length_filter_le (fun k=>g.contains (fs[k.toNat]!).a.toNat) (jS fs.length);rwa [Js] at this
theorem FJ {fs:List Fact} {g:List Nat} {l:List Box}:0<=fP fs l (IJ fs g)↔∃ f∈fC fs g,zJ f l=true:=by
 rw [TR fun j hj=>(zh1 fs g j hj).1];unfold IJ;simp only [List.mem_filter]
 constructor
 .rintro ⟨j,⟨hj,hn⟩,h⟩;obtain ⟨k,hk,rfl⟩:=jy.1 hj;rw [show ((k:Int)).toNat=k by simp,getElem!_pos fs k hk] at h hn;exact ⟨_,bB.2 ⟨List.getElem_mem hk,by simpa using hn⟩,h⟩
 .rintro ⟨f,hf,h⟩;obtain ⟨hf,hn⟩:=bB.1 hf;obtain ⟨k,hk,rfl⟩:=List.mem_iff_getElem.1 hf;exact ⟨k,⟨jy.2 ⟨k,hk,rfl⟩,by rw [show ((k:Int)).toNat=k by simp,getElem!_pos fs k hk];simpa using hn⟩,by rw [show ((k:Int)).toNat=k by simp,getElem!_pos fs k hk];exact h⟩
theorem UN:∀ {gs:List (List Nat)},gs.flatten.Nodup->∀ {g g':List Nat} {x:Nat},g∈gs->g'∈gs->x∈g->x∈g'->g=g'
 | [],_,g,g',x,h,_,_,_=>by simp at h
 | a::gs,hn,g,g',x,h,h',hx,Nl=>by
  rw [List.flatten_cons,List.nodup_append] at hn;obtain ⟨_,h2,h3⟩:=hn;rcases List.mem_cons.1 h with e|h<;>rcases List.mem_cons.1 h' with e'|h'
  .rw [e,e']
  .rw [e] at hx;exact absurd rfl (h3 x hx x (List.mem_flatten.2 ⟨g',h',Nl⟩))
  .rw [e'] at Nl;exact absurd rfl (h3 x Nl x (List.mem_flatten.2 ⟨g,h,hx⟩))
  .exact UN h2 h h' hx Nl
theorem zks {p:Problem} (ok:ae p) {gs:List (List Nat)} (hd:fO p.facts.xs p.boxes.xs.length gs) {g:List Nat} (hg:g∈gs) {i:Nat} (hi:i∈g) {f:Fact} (hf:f∈p.facts.xs) (hn:rE f i=true):f.a.toNat∈g:=by
 have OI:=(CZ f _).1 (ok.fact f hf);have ha:f.a.toNat < p.boxes.xs.length:=by have:=(hd.named f hf).a;omega
 obtain ⟨g',tX,UO⟩:=List.mem_flatten.1 ((hd.all _).1 ha);have hw:=hd.within f hf g' tX UO;have yh:i∈g':=by
  unfold rE at hn;simp only [Bool.or_eq_true,Bool.and_eq_true,decide_eq_true_eq] at hn;rcases hn with h|h|⟨hk,h⟩
  .have:=hw.a;rwa [show f.a.toNat=i by omega] at this
  .have:=hw.b;rwa [show f.b.toNat=i by omega] at this
  .have:=hw.c hk;rwa [show f.c.toNat=i by omega] at this
 rw [UN hd.nodup hg tX hi yh];exact UO
def KY (fs:List Fact) (l:List Box) (s:Nat×Nat):Bool:=decide ((bz l[s.1]! (s.2 / 2)).lo < (bz l[s.1]! (s.2 / 2)).hi)&&decide (0<=fP fs (jW l s.1 s.2) (rT fs (jS fs.length) (s.1:Int)))
def Nn (g:List Nat):List (Nat×Nat):=g.flatMap fun i=>(List.range 4).map fun k=>(i,k)
def FK (fs:List Fact) (g:List Nat) (l:List Box):Option (Nat×Nat):=(Nn g).find? (KY fs l)
def Dn (l:List Box) (c:Nat×Nat):Int:=(bz l[c.1]! c.2).hi - (bz l[c.1]! c.2).lo+1
def xk (l:List Box) (s:Int×(Nat×Nat)) (c:Nat×Nat):Int×(Nat×Nat):=if s.1 < Dn l c then (Dn l c,c) else s
def JD (g:List Nat):List (Nat×Nat):=g.flatMap fun i=>(List.range 2).map fun k=>(i,k)
def xQ (g:List Nat) (l:List Box):Nat×Nat:=((JD g).foldl (xk l) (0,(g.headD 0,0))).2
theorem zjA (l:List Box):∀ (cs:List (Nat×Nat)) (s:Int×(Nat×Nat)),s.1<=(cs.foldl (xk l) s).1/\(∀ c∈cs,Dn l c<=(cs.foldl (xk l) s).1)/\(cs.foldl (xk l) s=s\/((cs.foldl (xk l) s).2∈cs/\(cs.foldl (xk l) s).1=Dn l (cs.foldl (xk l) s).2))
 | [],s=>⟨Int.le_refl _,fun c h=>by simp at h,.inl rfl⟩
 | c::cs,s=>by
  obtain ⟨h1,h2,h3⟩:=zjA l cs (xk l s c);rw [List.foldl_cons];have h4:s.1<=(xk l s c).1/\Dn l c<=(xk l s c).1/\(xk l s c=s\/xk l s c=(Dn l c,c)):=by
   unfold xk
   split
   .exact ⟨by simp only;omega,Int.le_refl _,.inr rfl⟩
   .exact ⟨Int.le_refl _,by omega,.inl rfl⟩
  refine ⟨by omega,fun c' uD=>?_,?_⟩
  .rcases List.mem_cons.1 uD with rfl|h
   .omega
   .exact h2 c' h
  .rcases h3 with h3|⟨h3,h3'⟩
   .rcases h4.2.2 with h|h
    .exact .inl (h3.trans h)
    .rw [h3,h];exact .inr ⟨List.mem_cons_self,rfl⟩
   .exact .inr ⟨List.mem_cons_of_mem _ h3,h3'⟩
theorem o8 {g:List Nat} {s:Nat×Nat}:s∈Nn g↔s.1∈g/\s.2 < 4:=by
 obtain ⟨i,k⟩:=s;simp only [Nn,List.mem_flatMap,List.mem_map,List.mem_range,Prod.mk.injEq]
 constructor
 .rintro ⟨a,ha,b,hb,rfl,rfl⟩;exact ⟨ha,hb⟩
 .rintro ⟨ha,hb⟩;exact ⟨i,ha,k,hb,rfl,rfl⟩
theorem uZ {g:List Nat} {s:Nat×Nat}:s∈JD g↔s.1∈g/\s.2 < 2:=by
 obtain ⟨i,k⟩:=s;simp only [JD,List.mem_flatMap,List.mem_map,List.mem_range,Prod.mk.injEq]
 constructor
 .rintro ⟨a,ha,b,hb,rfl,rfl⟩;exact ⟨ha,hb⟩
 .rintro ⟨ha,hb⟩;exact ⟨i,ha,k,hb,rfl,rfl⟩
theorem zgS {g:List Nat} {l:List Box} (bJ:g≠[]) (hw:Wf l) (hl:∀ i∈g,i < l.length):(xQ g l).1∈g/\(xQ g l).2 < 2/\∀ i∈g,∀ k,k < 2->Dn l (i,k)<=Dn l (xQ g l):=by
 obtain ⟨h1,h2,h3⟩:=zjA l (JD g) (0,(g.headD 0,0));obtain ⟨i,g',rfl⟩:=List.exists_cons_of_ne_nil bJ;have pY:0 < Dn l (i,0):=by
  have:=hw _ (List.getElem_mem (hl i List.mem_cons_self));unfold Dn;simp only;rw [getElem!_pos l i (hl i List.mem_cons_self)];unfold jl at this;simp only [bz,if_true];omega
 have h4:=h2 (i,0) (uZ.2 ⟨List.mem_cons_self,Nat.zero_lt_two⟩);rcases h3 with h3|⟨h3,h5⟩
 .rw [h3] at h4;simp only at h4;omega
 .have h6:=uZ.1 h3;exact ⟨h6.1,h6.2,fun j hj k hk=>by
   have:=h2 (j,k) (uZ.2 ⟨hj,hk⟩);rw [h5] at this;exact this⟩
theorem zmU {b:Box} (hw:jl b) {k:Nat} (hk:k < 4):¬ nS b k↔(bz b (k / 2)).lo < (bz b (k / 2)).hi:=by
 unfold nS bz;unfold jl at hw;have nW:k=0\/k=1\/k=2\/k=3:=by omega
 rcases nW with rfl|rfl|rfl|rfl<;>simp<;>omega
theorem zml {l:List Box} {i k:Nat} (hi:i < l.length) (hk:k < 4) (ht:nS l[i] k):jW l i k=l:=by
 rw [CR hi];have:vZ l[i] k=l[i]:=by
  unfold nS at ht;generalize l[i]=bb at *;obtain ⟨⟨a,b⟩,⟨c,d⟩⟩:=bb;have nW:k=0\/k=1\/k=2\/k=3:=by omega
  rcases nW with rfl|rfl|rfl|rfl<;>simp_all [vZ]
 rw [this];exact List.set_getElem_self ..
theorem znq {p:Problem} (ok:ae p) {gs:List (List Nat)} (hd:fO p.facts.xs p.boxes.xs.length gs) {g:List Nat} (hg:g∈gs) {l:List Box} (hl:l.length=p.boxes.xs.length) (hw:Wf l) {i k:Nat} (h:FK p.facts.xs g l=some (i,k)):i∈g/\k < 4/\∃ h:i < l.length,¬ nS l[i] k/\∃ f∈fC p.facts.xs g,zX f (jW l i k):=by
 have hm:=o8.1 (List.mem_of_find?_eq_some h);have hb:=List.find?_some h;have aX:i < l.length:=by rw [hl];exact (hd.one g hg).2 i hm.1
 simp only [KY,Bool.and_eq_true,decide_eq_true_eq,getElem!_pos l i aX] at hb
 refine ⟨hm.1,hm.2,aX,(zmU (hw _ (List.getElem_mem aX)) hm.2).2 hb.1,?_⟩
 obtain ⟨f,hf,hn,hs⟩:=rU.1 hb.2;exact ⟨f,bB.2 ⟨hf,zks ok hd hg hm.1 hf hn⟩,hs⟩
theorem zm7 {p:Problem} (ok:ae p) {gs:List (List Nat)} (hd:fO p.facts.xs p.boxes.xs.length gs) {g:List Nat} (hg:g∈gs) {l:List Box} (hl:l.length=p.boxes.xs.length) (hw:Wf l) (h:FK p.facts.xs g l=none) (hb:¬ CS zX (fC p.facts.xs g) l):Stable zX (fC p.facts.xs g) l:=fun i hi k hk f hf hs=>by
 obtain ⟨IK,xR⟩:=bB.1 hf
 cases hn:rE f i with
 | false =>
  unfold zX at hs;rw [CR hi,zg6 ok IK hn hi] at hs;exact hb ⟨f,hf,hs⟩
 | true =>
  have yh:i∈g:=by
   have nN:=hd.within f IK g hg xR;unfold rE at hn;simp only [Bool.or_eq_true,Bool.and_eq_true,decide_eq_true_eq] at hn;rcases hn with h|h|⟨hk,h⟩
   .have:=nN.a;rwa [show f.a.toNat=i by omega] at this
   .have:=nN.b;rwa [show f.b.toNat=i by omega] at this
   .have:=nN.c hk;rwa [show f.c.toNat=i by omega] at this
  by_cases ht:nS l[i] k
  .rw [zml hi hk ht] at hs;exact hb ⟨f,hf,hs⟩
  .have:=List.find?_eq_none.1 h (i,k) (o8.2 ⟨yh,hk⟩);simp only [KY,Bool.and_eq_true,decide_eq_true_eq,getElem!_pos l i hi] at this;exact this ⟨(zmU (hw _ (List.getElem_mem hi)) hk).1 ht,rU.2 ⟨f,IK,hn,hs⟩⟩
theorem zsD {p:Problem} (ok:ae p) {gs:List (List Nat)} (hd:fO p.facts.xs p.boxes.xs.length gs) {g:List Nat} (hg:g∈gs) (bJ:g≠[]) (qQ:∀ pts,¬ mU (fC p.facts.xs g) p.boxes.xs pts) :
  xL zX (fC p.facts.xs g) p.boxes.xs g (FK p.facts.xs g) (xQ g):=by
 have h1:=hd.one g hg
 refine ⟨h1.1,h1.2,fun l i k hl hw h=>znq ok hd hg hl hw h,fun l hl hw h hb=>zm7 ok hd hg hl hw h hb,fun l hl hw hs hb=>?_⟩
 have nY:∀ i∈g,i < l.length:=fun i hi=>by rw [hl];exact h1.2 i hi
 obtain ⟨w1,w2,w3⟩:=zgS bJ hw nY
 refine ⟨w1,w2,nY _ w1,?_⟩
 refine Classical.byContradiction fun hc=>?_
 have bZ:Dn l (xQ g l)<=1:=by
  unfold Dn;rw [getElem!_pos l _ (nY _ w1)];omega
 have bG:∀ i (h:i∈g),l[i]'(nY i h)=bT ⟨(l[i]'(nY i h)).x.lo,(l[i]'(nY i h)).y.lo⟩:=fun i hi=>by
  have h0:=w3 i hi 0 (by decide);have h1:=w3 i hi 1 (by decide);generalize Dn l (xQ g l)=W at *;have nN:=hw _ (List.getElem_mem (nY i hi));unfold Dn at h0 h1;rw [getElem!_pos l i (nY i hi)] at h0 h1;simp only [bz,if_true,Nat.one_ne_zero,if_false] at h0 h1;have TY:(l[i]'(nY i hi)).x.hi - (l[i]'(nY i hi)).x.lo+1<=1:=Int.le_trans h0 bZ;have tO:(l[i]'(nY i hi)).y.hi - (l[i]'(nY i hi)).y.lo+1<=1:=Int.le_trans h1 bZ;unfold jl at nN;clear h0 h1;generalize l[i]'(nY i hi)=b at *;obtain ⟨⟨a,b⟩,⟨c,d⟩⟩:=b;simp only at TY tO nN;have e1:b=a:=by omega
  have e2:d=c:=by omega
  subst e1 e2;rfl
 refine qQ (l.map fun b=>⟨b.x.lo,b.y.lo⟩) ⟨by simp [hl],fun i h h'=>?_,fun f hf=>?_⟩
 .have aX:i < l.length:=by simpa using h
  have s1:=hs.2 i aX h';have s2:=hw _ (List.getElem_mem aX);unfold fH fG at s1;unfold jl at s2;unfold bO;simp only [List.getElem_map];omega
 .obtain ⟨IK,xR⟩:=bB.1 hf;have nN:=hd.within f IK g hg xR;have key:∀ j∈g,((l.map fun b=>(⟨b.x.lo,b.y.lo⟩:Pt)).map bT)[j]! = l[j]! := fun j hj=>by
   have j4:=nY j hj;rw [getElem!_pos l j j4,getElem!_pos _ j (by simpa using j4)];simp only [List.getElem_map];exact (bG j hj).symm
  have e:=Jp (f:=f) (l:=((l.map fun b=>(⟨b.x.lo,b.y.lo⟩:Pt)).map bT)) (m:=l) ⟨key _ nN.a,key _ nN.b,fun hk=>key _ (nN.c hk)⟩;rw [e]
  cases pR:zJ f l with
  | false=>rfl
  | true=>exact absurd ⟨f,hf,pR⟩ hb
def Xv (fs:List Fact) (i:Int) (l:List Box):Prop:=0<=i/\i < fs.length/\zJ fs[i.toNat]! l=true
theorem zj1 {fs:List Fact} {l:List Box}:∀ {is:List Int},uX fs is->0<=fP fs l is->Xv fs (fP fs l is) l/\fP fs l is∈is
 | [],_,h=>by simp [fP] at h
 | i::is,ho,h=>by
  unfold fP at h ⊢
  by_cases hf:zJ fs[i.toNat]! l=true
  .simp only [hf,if_true] at h ⊢;have:=ho i List.mem_cons_self;exact ⟨⟨this.1,this.2,hf⟩,List.mem_cons_self⟩
  .simp only [hf] at h ⊢;have:=zj1 (fun j hj=>ho j (List.mem_cons_of_mem _ hj)) h;exact ⟨this.1,List.mem_cons_of_mem _ this.2⟩
def vL (p:Problem) (g:List Nat) (m:Nat) (l:List Box):List Node:=Kt (fun l=>fP p.facts.xs l (IJ p.facts.xs g)) (BF (FK p.facts.xs g) (xQ g)) m l
theorem Xw {p:Problem} (ok:ae p) (g:List Nat):xI zX (fC p.facts.xs g) p.boxes.xs.length:=fun f hf=>KE ok f (bB.1 hf).1
theorem zki {p:Problem} (ok:ae p) {gs:List (List Nat)} (hd:fO p.facts.xs p.boxes.xs.length gs) {g:List Nat} (hg:g∈gs) (bJ:g≠[]) (qQ:∀ pts,¬ mU (fC p.facts.xs g) p.boxes.xs pts)
  {r:Option (List Box)} (hr:bM zX (fC p.facts.xs g) p.boxes.xs r) {m:Nat} (hm:iq p.boxes.xs < m) :
  qW (Xv p.facts.xs) p.boxes.xs (vL p g m p.boxes.xs)/\(vL p g m p.boxes.xs).length+1<=2*(iq p.boxes.xs+uT r g) :=
 zq5 (fun l h=>(zj1 (zh1 _ _) h).1) (fun l h hb=>by
  obtain ⟨f,hf,hs⟩:=hb;have:=FJ.2 ⟨f,hf,hs⟩;omega) (Xw ok g) (vI ok) hr (zsD ok hd hg bJ qQ) m hm
def EI (p:Problem) (g:List Nat):Prop:=∀ pts,¬ mU (fC p.facts.xs g) p.boxes.xs pts
theorem fO.fC {fs:List Fact} {n:Nat} {gs:List (List Nat)} (h:fO fs n gs) (g:List Nat):fO (fC fs g) n gs :=
 ⟨h.nodup,h.all,fun f hf=>h.within f (bB.1 hf).1,fun f hf=>h.named f (bB.1 hf).1⟩
def Pn (l:List Box) (g:List Nat) (c:List Pt):List Pt:=(List.range l.length).map fun j=>if j∈g then c[g.idxOf j]! else ⟨l[j]!.x.lo,l[j]!.y.lo⟩
theorem zfY (l:List Box) (g:List Nat) (c:List Pt):(Pn l g c).length=l.length:=by simp [Pn]
theorem zko {l:List Box} {g:List Nat} {c:List Pt} {j:Nat} (hj:j < l.length) (h:j∈g):(Pn l g c)[j]! = c[g.idxOf j]! := by
 rw [getElem!_pos _ j (by rw [zfY];exact hj)];simp [Pn,h]
theorem zmA {l:List Box} {g:List Nat} {c:List Pt} (hn:g.Nodup) (hi:∀ i∈g,i < l.length) (hc:c.length=g.length):pick (Pn l g c) g=c:=by
 refine List.ext_getElem (by simp [pick,hc]) fun k h1 h2=>?_
 have hk:k < g.length:=by omega
 simp only [pick,List.getElem_map];rw [zko (hi _ (List.getElem_mem hk)) (List.getElem_mem hk),hn.idxOf_getElem k hk,getElem!_pos c k h2]
theorem znW {fs:List Fact} {l:List Box} {g:List Nat} {c:List Pt} (hw:Wf l) (hn:g.Nodup) (hi:∀ i∈g,i < l.length) (nN:∀ f∈fs,f.a.toNat∈g->Within g f) (hc:c∈jJ (fC fs g) l g):mU (fC fs g) l (Pn l g c):=by
 obtain ⟨⟨h1,h2⟩,h3⟩:=(QM hn fun f hf ha=>nN f (bB.1 hf).1 ha).1 hc
 refine ⟨zfY _ _ _,fun j h h'=>?_,fun f hf=>?_⟩
 .by_cases hj:j∈g
  .have e:=zko (c:=c) h' hj;rw [getElem!_pos _ j h] at e;rw [e];have hk:g.idxOf j < g.length:=List.idxOf_lt_length_iff.2 hj;have:=h2 (g.idxOf j) hk (by omega);rw [List.getElem_idxOf] at this;rw [getElem!_pos c _ (by omega)];rwa [getElem!_pos l j h'] at this
  .simp only [Pn,List.getElem_map,List.getElem_range,hj,if_false];have:=hw _ (List.getElem_mem h');rw [getElem!_pos l j h'];unfold jl at this;unfold bO;simp only;omega
 .obtain ⟨OT,iZ⟩:=bB.1 hf;rw [<- zfW (facts:=fs) (zfY l g c) hn hi (nN f OT iZ),zmA hn hi h1];exact h3 f hf iZ
theorem zsR {p q:Problem} (ok:ae p) {g:List Nat} (hb:q.boxes.xs=p.boxes.xs) (hf:q.facts.xs=fC p.facts.xs g):ae q :=
 ⟨by rw [hb];exact ok.nb,by rw [hf];exact Nat.le_trans (List.length_filter_le ..) ok.nf,by rw [hb];exact ok.box,by rw [hf,hb];exact fun f h=>ok.fact f (bB.1 h).1⟩
section
variable {p q:Problem} {gs:List (List Nat)} {g:List Nat}
theorem zhl (hb:q.boxes.xs=p.boxes.xs) (hf:q.facts.xs=fC p.facts.xs g) (hr:bM zX q.facts.xs q.boxes.xs none):EI p g:=fun pts h=>by
 obtain ⟨l,e,_⟩:=Xu (p:=q) hr (pts:=pts) (by unfold iG;rw [hb,hf];exact h);simp at e
theorem zrA (ok:ae p) (hd:fO p.facts.xs p.boxes.xs.length gs) (hg:g∈gs) (hb:q.boxes.xs=p.boxes.xs) (hf:q.facts.xs=fC p.facts.xs g) {l:List Box} (hs:aP l p.boxes.xs) (hw:Wf l):uY q.facts.xs l g (jE q.facts.xs l g):=by
 have h1:=hd.one g hg
 refine zoD (fun k hk=>by rw [hs.1];exact h1.2 k hk) hw (fun f h ha=>?_) fun f h=>?_
 .rw [hf] at h;exact hd.within f (bB.1 h).1 g hg ha
 .rw [hf] at h;have h1:=(CZ f _).1 (ok.fact f (bB.1 h).1);exact ⟨by omega,by omega,by omega⟩
theorem zly (ok:ae p) (hd:fO p.facts.xs p.boxes.xs.length gs) (hg:g∈gs) (hb:q.boxes.xs=p.boxes.xs) (hf:q.facts.xs=fC p.facts.xs g) {l:List Box} (hr:bM zX q.facts.xs q.boxes.xs (some l)):(jE q.facts.xs l g).n=0↔EI p g:=by
 have h1:=hd.one g hg;have hs:aP l p.boxes.xs:=by rw [<- hb];exact hr.1.sub
 rw [(zrA ok hd hg hb hf hs hr.1.wf).n]
 constructor
 .intro h0 pts h;obtain ⟨l',e,h'⟩:=Xu (p:=q) hr (pts:=pts) (by unfold iG;rw [hb,hf];exact h);simp only [Option.some.injEq] at e;subst e;have:=ziX (by rw [hf,hs.1];exact hd.fC g) h' g hg;rw [List.eq_nil_of_length_eq_zero h0] at this;simp at this
 .intro qQ
  refine Classical.byContradiction fun hc=>?_
  obtain ⟨c,hc⟩:=List.exists_mem_of_ne_nil (jJ q.facts.xs l g) fun e=>hc (by rw [e];rfl);rw [hf] at hc;have:=znW hr.1.wf h1.1 (fun i hi=>by rw [hs.1];exact h1.2 i hi) (fun f hf ha=>hd.within f hf g hg ha) hc;have h2:=(UM (p:=q) hr _).2 (by rw [hf];exact this);unfold iG at h2;rw [hf,hb] at h2;exact qQ _ h2
theorem zsu (ok:ae p) (hd:fO p.facts.xs p.boxes.xs.length gs) (h:∀ g∈gs,¬ EI p g):∃ pts,iG p pts:=by
 have hex:∀ g∈gs,∃ pts,mU (fC p.facts.xs g) p.boxes.xs pts:=fun g hg=>Classical.byContradiction fun hc=>h g hg fun pts hp=>hc ⟨pts,hp⟩;obtain ⟨ch,pU⟩:∃ ch:List Nat->List Pt,∀ g∈gs,mU (fC p.facts.xs g) p.boxes.xs (ch g):=by
  refine ⟨fun g=>if h:g∈gs then (hex g h).choose else [],fun g hg=>?_⟩
  simp only;rw [dif_pos hg];exact (hex g hg).choose_spec
 have Po:∀ j,j < p.boxes.xs.length->∃ g∈gs,j∈g:=fun j hj=>List.mem_flatten.1 ((hd.all j).1 hj);obtain ⟨of,Po⟩:∃ of:Nat->List Nat,∀ j,j < p.boxes.xs.length->of j∈gs/\j∈of j:=by
  refine ⟨fun j=>if h:j < p.boxes.xs.length then (Po j h).choose else [],fun j hj=>?_⟩
  simp only;rw [dif_pos hj];exact (Po j hj).choose_spec
 have hlen:((List.range p.boxes.xs.length).map fun j=>(ch (of j))[j]!).length=p.boxes.xs.length:=by simp
 refine ⟨(List.range p.boxes.xs.length).map fun j=>(ch (of j))[j]!,hlen,fun j h h'=>?_,fun f hf=>?_⟩
 .have hs:=pU _ (Po j h').1;have:=hs.xK j (by rw [hs.len];exact h') h';simp only [List.getElem_map,List.getElem_range];rwa [getElem!_pos _ j (by rw [hs.len];exact h')]
 .have ha:f.a.toNat < p.boxes.xs.length:=by have:=(hd.named f hf).a;omega
  obtain ⟨hg,Cc⟩:=Po _ ha;have nN:=hd.within f hf _ hg Cc;have hs:=pU _ hg;have key:∀ j∈of f.a.toNat,(((List.range p.boxes.xs.length).map fun j=>(ch (of j))[j]!).map bT)[j]! = ((ch (of f.a.toNat)).map bT)[j]! := fun j hj=>by
   have j4:=(hd.one _ hg).2 j hj;have e:of j=of f.a.toNat:=UN hd.nodup (Po j j4).1 hg (Po j j4).2 hj;rw [getElem!_pos _ j (by simpa using j4),getElem!_pos ((ch (of f.a.toNat)).map bT) j (by rw [List.length_map,hs.len];exact j4)];simp only [List.getElem_map,List.getElem_range];rw [e,getElem!_pos _ j (by rw [hs.len];exact j4)]
  rw [Jp ⟨key _ nN.a,key _ nN.b,fun hk=>key _ (nN.c hk)⟩];exact hs.facts f (bB.2 ⟨hf,Cc⟩)
end
def rG (fs:List Fact) (tree:List Node):Nat->List Box->Nat->Bool×Nat
 | 0,_,a=>(false,a)
 | m+1,l,a=>match tree[a]? with
  | none=>(false,a)
  | some d=>if d.fact≠-1 then (decide (0<=d.fact)&&(decide (d.fact < fs.length)&&(decide (d.point=0)&&(decide (d.jT=0)&&(decide (d.at_=0)&&zJ fs[d.fact.toNat]! l)))),a+1)
   else if 0<=d.point/\d.point < l.length/\0<=d.jT/\d.jT<=1 then
    if (bz l[d.point.toNat]! d.jT.toNat).lo<=d.at_/\d.at_ < (bz l[d.point.toNat]! d.jT.toNat).hi then
     if (rG fs tree m (fU l d.point.toNat d.jT.toNat d.at_) (a+1)).1 then rG fs tree m (pq l d.point.toNat d.jT.toNat d.at_) (rG fs tree m (fU l d.point.toNat d.jT.toNat d.at_) (a+1)).2
     else (false,(rG fs tree m (fU l d.point.toNat d.jT.toNat d.at_) (a+1)).2)
    else (false,a+1)
   else (false,a+1)
def rf (fs:List Fact) (boxes:List Box) (tree:List Node):Bool:=(rG fs tree (iq boxes+1) boxes 0).1&&decide ((rG fs tree (iq boxes+1) boxes 0).2=tree.length)
theorem UQ (fs:List Fact) (tree:List Node):∀ (m:Nat) (l:List Box) (a:Nat),a<=tree.length->a<=(rG fs tree m l a).2/\(rG fs tree m l a).2<=tree.length
 | 0,l,a,h=>⟨Nat.le_refl _,h⟩
 | m+1,l,a,h=>by
  unfold rG
  cases ht:tree[a]? with
  | none=>exact ⟨Nat.le_refl _,h⟩
  | some d =>
   have ha:a < tree.length:=(List.getElem?_eq_some_iff.1 ht).1;simp only
   repeat' split
   .exact ⟨by simp only;omega,by simp only;omega⟩
   .have h1:=UQ fs tree m (fU l d.point.toNat d.jT.toNat d.at_) (a+1) (by omega);have h2:=UQ fs tree m (pq l d.point.toNat d.jT.toNat d.at_) _ h1.2;exact ⟨by omega,h2.2⟩
   .have h1:=UQ fs tree m (fU l d.point.toNat d.jT.toNat d.at_) (a+1) (by omega);exact ⟨by simp only;omega,by simp only;omega⟩
   .exact ⟨by simp only;omega,by simp only;omega⟩
   .exact ⟨by simp only;omega,by simp only;omega⟩
theorem zqA {fs:List Fact} {l:List Box} {t:List Node} (h:qW (Xv fs) l t):∀ (pre post:List Node) (m:Nat),iq l < m->rG fs (pre++t++post) m l pre.length=(true,pre.length+t.length):=by
 induction h with
 | leaf l f hb =>
  intro pre post m hm;obtain ⟨m,rfl⟩:∃ k,m=k+1:=⟨m - 1,by omega⟩
  obtain ⟨h0,h1,h2⟩:=hb;have e:(pre++[(⟨f,0,0,0⟩:Node)]++post)[pre.length]?=some ⟨f,0,0,0⟩:=by simp
  unfold rG;rw [e];simp only;rw [if_pos (by omega),h2];simp [h0,h1]
 | node l i ax t ta tb hp ha hb iha ihb =>
  intro pre post m hm;obtain ⟨m,rfl⟩:∃ k,m=k+1:=⟨m - 1,by omega⟩
  have e:(pre++((⟨-1,i,ax,t⟩:Node)::(ta++tb))++post)[pre.length]?=some ⟨-1,i,ax,t⟩:=by simp
  have aX:=hp.il;have iI:=hp.al;have m1:=TB hp;have m2:=TC hp;have a1:=iha (pre++[⟨-1,i,ax,t⟩]) (tb++post) m (by omega);have b1:=ihb (pre++[⟨-1,i,ax,t⟩]++ta) post m (by omega);have e1:pre++[(⟨-1,i,ax,t⟩:Node)]++ta++(tb++post)=pre++((⟨-1,i,ax,t⟩:Node)::(ta++tb))++post:=by simp
  have e2:pre++[(⟨-1,i,ax,t⟩:Node)]++ta++tb++post=pre++((⟨-1,i,ax,t⟩:Node)::(ta++tb))++post:=by simp
  rw [e1] at a1;rw [e2] at b1;have e3:(pre++[(⟨-1,i,ax,t⟩:Node)]).length=pre.length+1:=by simp
  have e4:(pre++[(⟨-1,i,ax,t⟩:Node)]++ta).length=pre.length+1+ta.length:=by simp;omega
  rw [e3] at a1;rw [e4] at b1;unfold rG;rw [e];simp only [Int.toNat_natCast];rw [if_neg (by simp),if_pos (by omega),if_pos (by rw [getElem!_pos l i aX];exact ⟨hp.lo,hp.hi⟩),a1];simp only [if_true];rw [b1];simp only [List.length_cons,List.length_append,Prod.mk.injEq,true_and];omega
theorem zrD {fs:List Fact} {l:List Box} {t:List Node} (h:qW (Xv fs) l t):rf fs l t=true:=by
 have:=zqA h [] [] (iq l+1) (by omega);simp only [List.nil_append,List.append_nil,List.length_nil,Nat.zero_add] at this;unfold rf;rw [this];simp
def u6 (g:List Nat) (N:List Box) (pts:List Pt):List Box:=(List.range N.length).map fun j=>if j∈g then N[j]! else bT pts[j]!
theorem zoS (g:List Nat) (N:List Box) (pts:List Pt):(u6 g N pts).length=N.length:=by simp [u6]
theorem UR {g:List Nat} {N:List Box} {pts:List Pt} {j:Nat} (h:j < N.length):(u6 g N pts)[j]! = if j∈g then N[j]! else bT pts[j]! := by
 rw [getElem!_pos _ j (by rw [zoS];exact h)];simp [u6]
theorem UT {l:List Box} {i k j:Nat} (hi:i < l.length) (hj:j < l.length):(jW l i k)[j]! = if i=j then vZ l[j]! k else l[j]! := by
 rw [CR hi,getElem!_pos _ j (by simpa using hj),List.getElem_set]
 split
 .rename_i e;subst e;rw [getElem!_pos l i hi]
 .rw [getElem!_pos l j hj]
structure um (q:Problem) (g:List Nat) (pts:List Pt):Prop where
 xK:∀ j,j < q.boxes.xs.length->j ∉ g->bO pts[j]! q.boxes.xs[j]!
 len:pts.length=q.boxes.xs.length
 facts:∀ f∈q.facts.xs,f.a.toNat ∉ g->zJ f (pts.map bT)=false
theorem znj {q:Problem} (ok:ae q) {gs:List (List Nat)} (hd:fO q.facts.xs q.boxes.xs.length gs) {g:List Nat} (hg:g∈gs) {N:List Box} (hw:Wf N) (hs:aP N q.boxes.xs) (fA:Stable zX (fC q.facts.xs g) N) {pts:List Pt} (hb:um q g pts) :
  Wf (u6 g N pts)/\aP (u6 g N pts) q.boxes.xs/\Stable zX q.facts.xs (u6 g N pts):=by
 have hl:=zoS g N pts
 refine ⟨fun b hbm=>?_,⟨by rw [hl];exact hs.1,fun i h1 h2=>?_⟩,fun i hi k hk f hf Np=>?_⟩
 .obtain ⟨j,hj,rfl⟩:=List.mem_iff_getElem.1 hbm;have oZ:j < N.length:=by omega
  have e:=UR (g:=g) (pts:=pts) oZ;rw [getElem!_pos _ j hj] at e;rw [e]
  split
  .rw [getElem!_pos N j oZ];exact hw _ (List.getElem_mem oZ)
  .exact ⟨Int.le_refl _,Int.le_refl _⟩
 .have oZ:i < N.length:=by omega
  have e:=UR (g:=g) (pts:=pts) oZ;rw [getElem!_pos _ i h1] at e;rw [e]
  split
  .rw [getElem!_pos N i oZ];exact hs.2 i oZ h2
  .rename_i Ws;have:=hb.xK i h2 Ws;rw [getElem!_pos q.boxes.xs i h2] at this;unfold bO at this;simp only [bT,fH,fG];omega
 .have hn:=hd.named f hf;have xO:i < N.length:=by omega
  by_cases xR:f.a.toNat∈g
  .have nN:=hd.within f hf g hg xR;have key:∀ j∈g,(jW (u6 g N pts) i k)[j]! = (jW N i k)[j]! := fun j hj=>by
    have j4:j < N.length:=by rw [hs.1];exact (hd.one g hg).2 j hj
    rw [UT hi (by omega),UT xO j4,UR j4,if_pos hj]
   refine fA i xO k hk f (bB.2 ⟨hf,xR⟩) ?_
   unfold zX at Np ⊢;rw [<- Np];exact (Jp ⟨key _ nN.a,key _ nN.b,fun h2=>key _ (nN.c h2)⟩).symm
  .have key:∀ j:Int,0<=j/\j < q.boxes.xs.length->j.toNat ∉ g->(jW (u6 g N pts) i k)[j.toNat]! = (pts.map bT)[j.toNat]! := fun j h1 hj=>by
    have j4:j.toNat < N.length:=by rw [hs.1];omega
    have UU:j.toNat < pts.length:=by rw [hb.len];omega
    rw [UT hi (by omega),UR j4,if_neg hj,getElem!_pos (pts.map bT) _ (by simpa using UU),List.getElem_map,getElem!_pos pts _ UU]
    split
    .exact zmp _ _
    .rfl
   have out:∀ j:Int,0<=j->rE f j=true->j.toNat ∉ g:=fun j h0 hj BL=>xR (zks ok hd hg BL hf (by rw [show ((j.toNat:Nat):Int)=j by omega];exact hj));have na:rE f f.a=true:=by unfold rE;simp
   have nb:rE f f.b=true:=by unfold rE;simp
   have nc:f.kind=2->rE f f.c=true:=fun h=>by unfold rE;simp [h]
   have e:=Jp (f:=f) (l:=jW (u6 g N pts) i k) (m:=pts.map bT) ⟨key _ hn.a xR,key _ hn.b (out _ hn.b.1 nb),fun h2=>key _ hn.c (out _ hn.c.1 (nc h2))⟩;unfold zX at Np;rw [e,hb.facts f hf xR] at Np;simp at Np
theorem zoX {g:List Nat} {N:List Box} {pts:List Pt}:∀ {h:List Nat},(∀ i∈h,i∈g/\i < N.length)->fB (u6 g N pts) h=fB N h
 | [],_=>rfl
 | i::h,hh=>by
  have h1:=hh i List.mem_cons_self;simp only [fB];rw [UR h1.2,if_pos h1.1,zoX fun j hj=>hh j (List.mem_cons_of_mem _ hj)]
theorem Xx {a b:List Box} (hs:aP a b):∀ {g:List Nat},(∀ i∈g,i < a.length)->fB a g<=fB b g
 | [],_=>Nat.le_refl _
 | i::g,h=>by
  have hi:=h i List.mem_cons_self;have bR:i < b.length:=by rw [<- hs.1];exact hi
  have h1:=hs.2 i hi bR;simp only [fB];rw [getElem!_pos a i hi,getElem!_pos b i bR]
  refine Nat.mul_le_mul ?_ (Xx hs fun j hj=>h j (List.mem_cons_of_mem _ hj))
  unfold fH fG at h1;unfold vG;exact Nat.mul_le_mul (by omega) (by omega)
theorem zim {b:Box} (h:jl b):rF b=(vG b:Int):=by
 unfold rF vG;unfold jl at h;rw [Int.natCast_mul,Int.toNat_of_nonneg (by omega),Int.toNat_of_nonneg (by omega)]
theorem zmH {l:List Box} (hw:Wf l):∀ (g:List Nat) (n:Nat),(∀ i∈g,i < l.length)->1<=n->lZ l n g<=65536->((n*fB l g:Nat):Int)=lZ l n g
 | [],n,_,_,_=>by simp [lZ,fB]
 | i::g,n,h,h1,hv=>by
  have hi:=h i List.mem_cons_self;have nN:=hw _ (List.getElem_mem hi);have ha:=zim nN;have hp:=Z8 nN;have e1:rF l[i]! = (vG l[i]! : Int):=by rw [getElem!_pos l i hi];exact ha
  have hp1:1<=vG l[i]! := by rw [getElem!_pos l i hi];exact hp
  have hgt:∀ (g:List Nat) (x:Int),(∀ i∈g,i < l.length)->x=65537->lZ l x g=65537:=by
   intro g
   induction g with
   | nil=>intro x _ hx;simp [lZ,hx]
   | cons a g ih =>
    intro x hh hx;rw [lZ]
    refine ih _ (fun j hj=>hh j (List.mem_cons_of_mem _ hj)) ?_
    have ha:=hh a List.mem_cons_self;have h2:=Z8 (hw _ (List.getElem_mem ha));have h3:rF l[a]! = (vG l[a]:Int):=by rw [getElem!_pos l a ha];exact zim (hw _ (List.getElem_mem ha))
    rw [h3,hx];omega
  have Pq:∀ j∈g,j < l.length:=fun j hj=>h j (List.mem_cons_of_mem _ hj);rw [lZ] at hv ⊢;rw [e1] at hv ⊢
  by_cases hc:(n:Int)*(vG l[i]! : Int)<=65536
  .rw [show min ((n:Int)*(vG l[i]! : Int)) 65537=((n*vG l[i]! : Nat):Int) by rw [Int.natCast_mul];omega] at hv ⊢;rw [<- zmH hw g (n*vG l[i]!) Pq (Nat.mul_pos h1 hp1) hv];simp only [fB];rw [Nat.mul_assoc]
  .rw [show min ((n:Int)*(vG l[i]! : Int)) 65537=65537 by omega,hgt g _ Pq rfl] at hv;omega
theorem zqY {l:List Box} (hw:Wf l) {g:List Nat} (hg:∀ i∈g,i < l.length) (h1:1 < g.length) (hv:pI l g<=65536):fB l g<=65536:=by
 unfold pI at hv;rw [if_pos h1] at hv;have:=zmH hw g 1 hg (Nat.le_refl _) (by simpa using hv);simp at this;omega
theorem Xy {p:Problem} (ok:ae p) {gs:List (List Nat)} (hd:fO p.facts.xs p.boxes.xs.length gs) {g:List Nat} (hg:g∈gs) (qQ:EI p g):1 < g.length:=by
 refine Classical.byContradiction fun hc=>?_
 have bG:fC p.facts.xs g=[]:=by
  refine List.eq_nil_iff_forall_not_mem.2 fun f hf=>?_
  obtain ⟨IK,xR⟩:=bB.1 hf;have hw:=hd.within f IK g hg xR;have OI:=(CZ f _).1 (ok.fact f IK)
  match g,hc,hw with
  | [],_,hw=>simpa using hw.a
  | [x],_,hw =>
   have ha:=hw.a;have hb:=hw.b;simp only [List.mem_singleton] at ha hb;omega
  | x::y::r,hc,_=>simp at hc
 refine qQ (p.boxes.xs.map fun b=>⟨b.x.lo,b.y.lo⟩) ⟨by simp,fun i h h'=>?_,fun f hf=>?_⟩
 .have:=vI ok _ (List.getElem_mem h');unfold jl at this;simp only [List.getElem_map];unfold bO;simp only;omega
 .rw [bG] at hf;simp at hf
theorem zpS {q:Problem} (ok:ae q) {gs:List (List Nat)} (hd:fO q.facts.xs q.boxes.xs.length gs) {g:List Nat} (hg:g∈gs) {r:Option (List Box)} (hr:bM zX (fC q.facts.xs g) q.boxes.xs r) {pts:List Pt} (hb:um q g pts)
  (hv:∀ m,Wf m->aP m q.boxes.xs->Stable zX q.facts.xs m->fB m g<=65536):uT r g<=65536:=by
 cases r with
 | none=>simp [uT]
 | some N =>
  obtain ⟨h1,h2⟩:=hr;obtain ⟨w,s,st⟩:=znj ok hd hg h1.wf h1.sub h2 hb;have:=hv _ w s st;rw [zoX fun i hi=>⟨hi,by rw [h1.sub.1];exact (hd.one g hg).2 i hi⟩] at this;exact this
theorem zpz {p q:Problem} (Gt:ae q) {gs:List (List Nat)} (hd:fO q.facts.xs q.boxes.xs.length gs) {g:List Nat} (hg:g∈gs) {pts:List Pt} (hs:iG p pts) (hl:q.boxes.xs.length=p.boxes.xs.length)
  (Dp:∀ j,j < q.boxes.xs.length->j ∉ g->q.boxes.xs[j]! = p.boxes.xs[j]!) (hf:∀ f∈q.facts.xs,f.a.toNat ∉ g->zJ f (pts.map bT)=false):um q g pts :=
 ⟨fun j hj BL=>by
  rw [Dp j hj BL];have UU:j < pts.length:=by rw [hs.len];omega
  have:=hs.xK j UU (by omega);rwa [getElem!_pos pts j UU,getElem!_pos p.boxes.xs j (by omega)],by rw [hs.len,hl],hf⟩
end Go.Proofs.YtmmhnfghklppiaaGreat.Vm
