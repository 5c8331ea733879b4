/- Narrow, Parts and Volume: the program's, walked. find and solved: what is seen of all parts, walked. solved, Count: the program's, walked. found.hull and Hull: the program's, walked. What find, Count, Hull and Decide say of the solutions. Plain Lean. A part without a solution: what its tree grows by, and that the tree fits. Plain Lean. The part that has no solution; walking through a tree. Plain Lean. -/
import Derived.Test.YtmmhnfghklppiaaGreatUk22
import Derived.Test.YtmmhnfghklppiaaGreatUk24
import Derived.Test.YtmmhnfghklppiaaGreatUk17
import Derived.Test.YtmmhnfghklppiaaGreatUk8
namespace Go.Proofs.YtmmhnfghklppiaaGreat.Vm
open Go
set_option linter.unusedSimpArgs false
set_option linter.unusedVariables false
set_option maxHeartbeats 4000000
set_option maxRecDepth 4000
theorem zqJ {p:Problem} {l:List Box} (hl:l.length=p.boxes.xs.length):∃ q:Sl Box,FD p (some l)=q.pv Box.cells 4/\q.xs=l:=by
 obtain ⟨bs,fs⟩:=p
 cases bs with
 | nil =>
  have:l=[]:=List.eq_nil_of_length_eq_zero hl;subst this;exact ⟨.nil,rfl,rfl⟩
 | mk h xs=>exact ⟨.mk false l,rfl,rfl⟩
theorem HY (m:Nat->Nat) (n:Nat):(zK m n).length<=n/\∀ l∈zK m n,l.length<=n/\∀ k∈l,k < n:=by
 refine ⟨zfr m n n,fun l hl=>?_⟩
 obtain ⟨i,_,_,rfl⟩:=jh.1 hl;exact ⟨zf8 m i n,fun k hk=>(bY.1 hk).1⟩
structure aN where
 empty:Bool
 aa:List fB
def x9 (s:fB):List PV:=[s.pv]
@[simp] def aN.cells (D:aN):List PV:=[.bool D.empty,(Sl.of D.aa).pv x9 1]
def xg (L:List fB):Bool:=L.any fun s=>s.n == 0
theorem zmV (L:List fB) (s:fB):xg (L++[s])=(xg L||decide ((s.n:Int)=0)):=by
 unfold xg;rw [List.any_append];simp only [List.any_cons,List.any_nil,Bool.or_false]
 congr 1
 rw [Bool.eq_iff_iff];simp
def fV (p:Problem) (D:aN) (e:Int):Prop:=(bM jR p.facts.xs p.boxes.xs none/\D=⟨true,[]⟩/\e=0) \/
 ∃ l m,bM jR p.facts.xs p.boxes.xs (some l)/\bH (mM p.facts.xs) p.boxes.xs.length m /\
  ((65536 < mF l (zK m p.boxes.xs.length)/\D=⟨false,[]⟩/\e=2) \/
   (mF l (zK m p.boxes.xs.length)<=65536/\D=⟨xg ((zK m p.boxes.xs.length).map (zW p.facts.xs l)),(zK m p.boxes.xs.length).map (zW p.facts.xs l)⟩/\e=0))
theorem Za {b:List Box}:∀ {ps:List (List Nat)} {x:Int} {g:List Nat},g∈ps->iM b g<=ps.foldl (fun x l=>max x (iM b l)) x
 | a::ps,x,g,h=>by
  rw [List.foldl_cons];rcases List.mem_cons.1 h with rfl|h
  .have mono:∀ (ps:List (List Nat)) (x:Int),x<=ps.foldl (fun x l=>max x (iM b l)) x:=by
    intro ps
    induction ps with
    | nil=>intro x;exact Int.le_refl _
    | cons a ps ih=>intro x;have:=ih (max x (iM b a));rw [List.foldl_cons];omega
   have:=mono ps (max x (iM b g));omega
  .exact Za h
theorem FH {p:Problem} (ok:ak p):∀ f∈p.facts.xs,Named f p.boxes.xs.length:=fun f hf=>YV (ok.fact f hf)
theorem zh5 {p:Problem} (ok:ak p):∀ f∈p.facts.xs,f.a≠f.b/\(f.kind=2->f.c≠f.a):=fun f hf=>by
 have h:=(vR f _).1 (ok.fact f hf)
 refine ⟨by omega,fun hk=>?_⟩
 have:=h.2.2.2.2.2.1 hk;omega
theorem ztj {p:Problem} (ok:ak p) {l:List Box} {m:Nat->Nat} (hr:bM jR p.facts.xs p.boxes.xs (some l)) (hm:bH (mM p.facts.xs) p.boxes.xs.length m) (hv:mF l (zK m p.boxes.xs.length)<=65536) {q:Sl Box} (hq:q.xs=l) {g:List Nat} (hg:g∈zK m p.boxes.xs.length):Ei p q g:=by
 have hd:=Ho hm (FH ok);have hlen:l.length=p.boxes.xs.length:=hr.1.sub.1;obtain ⟨i,hi,hri,rfl⟩:=jh.1 hg;have rG:=ziF hm (FH ok) (zh5 ok) hi hri;have h1:=hd.one _ hg;have o9:=HY m p.boxes.xs.length
 refine ⟨ok,by rw [hq];exact hr.1.sub,by rw [hq];exact hr.1.wf,h1.1,fun k hk=>by rw [hq,hlen];exact h1.2 k hk,rG.2.1,by have:=(o9.2 _ hg).1;have:=ok.nb;omega,fun f hf ha=>hd.within f hf _ hg ha,fun h=>?_⟩
 rw [hq]
 refine Nat.le_trans (zqT hr.1.wf (fun k hk=>by rw [hlen];exact h1.2 k hk) h ?_) (by decide)
 have:=Za (b:=l) (x:=0) hg;unfold mF at hv;omega
theorem sh48:G.shared 48=false:=by decide
theorem e48 (n:Nat) (p:Problem) (ok:ak p) (D:aN) (e:Int) (h:fV p D e):zF G (n+51) 48 [.agg p.cells]=some (.aQ [.agg D.cells,.int .i64 e]):=by
 refine zy (zx _) rfl g48 rfl ?_
 rcases h with ⟨hr,rfl,rfl⟩|⟨l,m,hr,hm,h⟩
 .have hn:=fun H=>zf (G:=G) (n:=n+50) (H:=H) (caps:=[]) (ps:=[.agg p.cells]) sh62 (e62 (n+43) p ok none hr);have rF:FD p none=.nils:=rfl;rw [rF] at hn;simp only [Problem.cells,List.map] at hn;clear hr rF;simp [*,zb,c48,Problem.cells]
 .have hl:l.length=p.boxes.xs.length:=hr.1.sub.1;obtain ⟨q,hq,Ou⟩:=zqJ hl;have hn:=fun H=>zf (G:=G) (n:=n+50) (H:=H) (caps:=[]) (ps:=[.agg p.cells]) sh62 (e62 (n+43) p ok (some l) hr);have hp:=fun H=>zf (G:=G) (n:=n+50) (H:=H) (caps:=[]) (ps:=[.agg p.cells]) sh95 (e95 (n+48) p ok m hm);have rG:=HY m p.boxes.xs.length;have nb:=ok.nb;have hv:=fun H=>zf (G:=G) (n:=n+50) (H:=H) (caps:=[]) (ps:=[q.pv Box.cells 4,(Sl.of (zK m p.boxes.xs.length)).pv qz 1]) sh96 (e96 (n+48) q (Sl.of (zK m p.boxes.xs.length)) (by rw [Ou];omega) (by rw [Sl.fP];omega) (by rw [Ou];exact Ed ok hr.1.sub hr.1.wf) (by rw [Sl.fP,Ou,hl];exact fun x hx=>⟨by have:=(rG.2 x hx).1;omega,(rG.2 x hx).2⟩));have Bw:=Hide.mk (fun (Ej:mF l (zK m p.boxes.xs.length)<=65536) (g:List Nat) (hg:g∈zK m p.boxes.xs.length) H=>zf (G:=G) (n:=n+50) (H:=H) (caps:=[]) (ps:=[.agg p.cells,q.pv Box.cells 4,lD g]) sh97 (e97 n p q g (ztj ok hr hm Ej Ou hg)));rw [Ou] at Bw;rw [YS] at hp;rw [Sl.fP,Ou] at hv;have sD:Hide ((zK m p.boxes.xs.length).length<=12):=⟨by omega⟩
  generalize zK m p.boxes.xs.length=gs at *;rcases h with ⟨Ej,rfl,rfl⟩|⟨Ej,KF,rfl⟩
  .have Wj:65536 < mF l gs:=Ej;rw [hq] at hn;simp only [Problem.cells,List.map] at hn hp hv;clear hr hm rG Ou hq ok nb hl Bw Ej;generalize mF l gs=x at *;generalize q.pv Box.cells 4=y at *;generalize (Sl.of gs).pv qz 1=w at *;simp [*,zb,c48,Problem.cells]
  .have Wj:¬ 65536 < mF l gs:=by omega
   have QD:=Hide.mk (Bw.h Ej);rw [hq] at hn;simp only [Problem.cells,List.map] at hn hp hv;clear hr hm rG Ou hq ok nb hl Bw Ej;generalize mF l gs=x at *;generalize hy:q.pv Box.cells 4=y at *;obtain ⟨s,hs⟩:∃ s,s=Sl.of gs:=⟨_,rfl⟩
   have qE:s.xs=gs:=by rw [hs,Sl.fP]
   rw [<- hs] at hp hv;have Ah:s.xs.length<=12:=by rw [qE];exact sD.h
   have rH:=Hide.mk qE;have Wl:=Hide.mk KF;clear hs qE hy KF;(repeat' first|simp [*,zb,c48,Problem.cells]|(apply za<;>intro _ h<;>try simp [-Nat.le_zero_eq] at h)|(show wpE 0 (zh ..) ..;refine zm ?_)|(refine ze fun v2 H2 aV aD ae af ai aj=>?_))
   refine zA [(9,10),(28,52)] (fun (i:Nat) env H=>env 28=.pure (.int .i64 i)/\i<=s.xs.length/\1 < H.nx/\H.get 0=.cells true [.pure (.bool false),.pure .nils]/\∃ V,H.get 1=.cells true [.pure (.bool (xg ((gs.map (zW p.facts.xs l)).take i))),V]/\Hide (aC x9 1 H V ((gs.map (zW p.facts.xs l)).take i)/\∀ id,Names V id->1 < id)) (fun i=>s.xs.length - i) 0 ?_ ?_ ?_ ?_
   .decide
   .exact ⟨by simp,by omega,by simp,by simp,.pure .nils,by simp [xg],⟨by simpa using aC.nil,fun id ⟨_,_,_,h⟩=>by simp at h⟩⟩
   .simp only [zz];omega
   rintro i env H ⟨g28,hi,bU,h0,V,h1,hV⟩;generalize hb:xg ((gs.map (zW p.facts.xs l)).take i)=b at *
   by_cases aK:i < s.xs.length
   .have w1:IntKind.i64.wrap ((i:Int)+1)=(i+1:Nat):=by rw [wrap64 (by omega) (by omega)];omega
    have jM:(i:Int) < s.xs.length:=by omega
    have xW:i < gs.length:=by rw [<- rH.h];exact aK
    have hme:s.xs[i]∈gs:=by rw [<- rH.h];exact List.getElem_mem aK
    have Jz:=QD.h s.xs[i] hme;have FI:(gs.map (zW p.facts.xs l)).take (i+1)=(gs.map (zW p.facts.xs l)).take i++[zW p.facts.xs l s.xs[i]]:=by
     have e:=rH.h;subst e;rw [List.take_add_one,List.getElem?_eq_getElem (by simpa using aK)];simp
    obtain ⟨g,hg⟩:∃ g,s.xs[i]=g:=⟨_,rfl⟩
    rw [hg] at Jz FI;have J5:Hide (xg ((gs.map (zW p.facts.xs l)).take (i+1))=(b||decide (((zW p.facts.xs l g).n:Int)=0))):=⟨by
     rw [FI,zmV,hb]⟩
    have hlen:((gs.map (zW p.facts.xs l)).take i).length<=12:=by rw [List.length_take];have:=sD.h;omega
    have Em:=Hide.mk FI;generalize zW p.facts.xs l g=D' at *;generalize (gs.map (zW p.facts.xs l)).take i=L at *;simp only [Problem.cells,Kv,List.map] at Jz;have wL:=hV.h.1.1.one;have JA:=wL.1;have JB:=wL.2;have Gv:D'.pv=.ptr false [lD D'.part,.int .i64 D'.n,.slice false 4 (chunks 4 D'.part.length (D'.ends.map iN)),iN D'.first] 0:=rfl;have hDH:=Hide.mk Gv;rw [Gv] at Jz;clear QD FI hb wL Gv;obtain ⟨pp,AQ⟩:∃ pp,pp=lD D'.part:=⟨_,rfl⟩
    obtain ⟨cc,wF⟩:∃ cc,cc=chunks 4 D'.part.length (D'.ends.map iN):=⟨_,rfl⟩
    obtain ⟨oo,IY⟩:∃ oo,oo=iN D'.first:=⟨_,rfl⟩
    have JC:Hide (D'.pv=.ptr false [pp,.int .i64 D'.n,.slice false 4 cc,oo] 0):=⟨by rw [hDH.h,<- AQ,<- wF,<- IY]⟩
    rw [<- AQ,<- wF,<- IY] at Jz;have ML:x9 D'=[D'.pv]:=rfl;rw [JC.h] at ML;obtain ⟨nn,Tn⟩:∃ nn:Int,nn=D'.n:=⟨_,rfl⟩
    rw [<- Tn] at Jz J5 ML;have QE:=Hide.mk ML;clear Tn ML;clear AQ wF IY hDH
    cases b with
    | true =>
     have DV:Hide (xg ((gs.map (zW p.facts.xs l)).take (i+1))=true):=⟨by rw [J5.h];rfl⟩
     clear J5;(repeat' first|simp [*,zb,qz]|(apply za<;>intro _ h<;>try simp [-Nat.le_zero_eq] at h)|(show wpE 0 (zh ..) ..;refine zm ?_)|(refine ze fun v2 H2 aV aD ae af ai aj=>?_))
     refine Fp (f:=x9) (sz:=1) (l:=L) ((hV.h.1.set (fun hn=>by have:=hV.h.2 1 hn;omega) _).alloc _) (fun _=>rfl) (by decide) (fun _=>rfl) (by unfold zu;omega) ⟨D',by rw [QE.h];simp,?_⟩
     intro V4 H4 j5 ha;have wM:Hide (aC x9 1 H4 V4 ((gs.map (zW p.facts.xs l)).take (i+1))/\∀ id,Names V4 id->1 < id):=⟨by rw [Em.h];exact j5,fun id hn=>by have:=ha.new id hn;simp at this;omega⟩
     have g0:H4.get 0=.cells true [.pure (.bool false),.pure .nils]:=by
      rw [ha.get 0 (by rw [qp,lM];omega) (fun hn=>by have:=hV.h.2 0 hn;omega),zi (by rw [lM];omega),zg (by omega)];exact h0
     have g1:H4.get 1=.cells true [.pure (.bool true),V]:=by
      rw [ha.get 1 (by rw [qp,lM];omega) (fun hn=>by have:=hV.h.2 1 hn;omega),zi (by rw [lM];omega),zn bU]
     have gn:1 < H4.nx:=by have:=ha.nx;simp at this;omega
     have o4:=j5.1.one;have Tq:=o4.1;have Tt:=o4.2;clear j5 ha o4 hV;(repeat' first|simp [*,zb]|(apply za<;>intro _ h<;>try simp [-Nat.le_zero_eq] at h)|(show wpE 0 (zh ..) ..;refine zm ?_)|(refine ze fun v2 H2 aV aD ae af ai aj=>?_));exact ⟨i+1,by omega,by omega,by omega,V4,⟨DV.h,rfl⟩,⟨wM.h.1.set (fun hn=>by have:=wM.h.2 1 hn;omega) _,wM.h.2⟩⟩
    | false =>
     by_cases hz:nn=0
     .have DV:Hide (xg ((gs.map (zW p.facts.xs l)).take (i+1))=true):=⟨by rw [J5.h,decide_eq_true hz];rfl⟩
      subst hz;clear J5;(repeat' first|simp [*,zb,qz]|(apply za<;>intro _ h<;>try simp [-Nat.le_zero_eq] at h)|(show wpE 0 (zh ..) ..;refine zm ?_)|(refine ze fun v2 H2 aV aD ae af ai aj=>?_))
      refine Fp (f:=x9) (sz:=1) (l:=L) ((hV.h.1.set (fun hn=>by have:=hV.h.2 1 hn;omega) _).alloc _) (fun _=>rfl) (by decide) (fun _=>rfl) (by unfold zu;omega) ⟨D',by rw [QE.h];simp,?_⟩
      intro V4 H4 j5 ha;have wM:Hide (aC x9 1 H4 V4 ((gs.map (zW p.facts.xs l)).take (i+1))/\∀ id,Names V4 id->1 < id):=⟨by rw [Em.h];exact j5,fun id hn=>by have:=ha.new id hn;simp at this;omega⟩
      have g0:H4.get 0=.cells true [.pure (.bool false),.pure .nils]:=by
       rw [ha.get 0 (by rw [qp,lM];omega) (fun hn=>by have:=hV.h.2 0 hn;omega),zi (by rw [lM];omega),zg (by omega)];exact h0
      have g1:H4.get 1=.cells true [.pure (.bool true),V]:=by
       rw [ha.get 1 (by rw [qp,lM];omega) (fun hn=>by have:=hV.h.2 1 hn;omega),zi (by rw [lM];omega),zn bU]
      have gn:1 < H4.nx:=by have:=ha.nx;simp at this;omega
      have o4:=j5.1.one;have Tq:=o4.1;have Tt:=o4.2;clear j5 ha o4 hV;(repeat' first|simp [*,zb]|(apply za<;>intro _ h<;>try simp [-Nat.le_zero_eq] at h)|(show wpE 0 (zh ..) ..;refine zm ?_)|(refine ze fun v2 H2 aV aD ae af ai aj=>?_));exact ⟨i+1,by omega,by omega,by omega,V4,⟨DV.h,rfl⟩,⟨wM.h.1.set (fun hn=>by have:=wM.h.2 1 hn;omega) _,wM.h.2⟩⟩
     .have DV:Hide (xg ((gs.map (zW p.facts.xs l)).take (i+1))=false):=⟨by rw [J5.h,decide_eq_false hz];rfl⟩
      clear J5;(repeat' first|simp [*,zb,qz]|(apply za<;>intro _ h<;>try simp [-Nat.le_zero_eq] at h)|(show wpE 0 (zh ..) ..;refine zm ?_)|(refine ze fun v2 H2 aV aD ae af ai aj=>?_))
      refine Fp (f:=x9) (sz:=1) (l:=L) ((hV.h.1.set (fun hn=>by have:=hV.h.2 1 hn;omega) _).alloc _) (fun _=>rfl) (by decide) (fun _=>rfl) (by unfold zu;omega) ⟨D',by rw [QE.h];simp,?_⟩
      intro V4 H4 j5 ha;have wM:Hide (aC x9 1 H4 V4 ((gs.map (zW p.facts.xs l)).take (i+1))/\∀ id,Names V4 id->1 < id):=⟨by rw [Em.h];exact j5,fun id hn=>by have:=ha.new id hn;simp at this;omega⟩
      have g0:H4.get 0=.cells true [.pure (.bool false),.pure .nils]:=by
       rw [ha.get 0 (by rw [qp,lM];omega) (fun hn=>by have:=hV.h.2 0 hn;omega),zi (by rw [lM];omega),zg (by omega)];exact h0
      have g1:H4.get 1=.cells true [.pure (.bool false),V]:=by
       rw [ha.get 1 (by rw [qp,lM];omega) (fun hn=>by have:=hV.h.2 1 hn;omega),zi (by rw [lM];omega),zn bU]
      have gn:1 < H4.nx:=by have:=ha.nx;simp at this;omega
      have o4:=j5.1.one;have Tq:=o4.1;have Tt:=o4.2;clear j5 ha o4 hV;(repeat' first|simp [*,zb]|(apply za<;>intro _ h<;>try simp [-Nat.le_zero_eq] at h)|(show wpE 0 (zh ..) ..;refine zm ?_)|(refine ze fun v2 H2 aV aD ae af ai aj=>?_));exact ⟨i+1,by omega,by omega,by omega,V4,⟨DV.h,rfl⟩,⟨wM.h.1.set (fun hn=>by have:=wM.h.2 1 hn;omega) _,wM.h.2⟩⟩
   .have qy:i=s.xs.length:=by omega
    subst qy;have fe:(gs.map (zW p.facts.xs l)).take s.xs.length=gs.map (zW p.facts.xs l):=by
     rw [rH.h];exact List.take_of_length_le (by simp)
    rw [fe] at hb hV;have bD:Hide (∀ o,FrzK (H.set 0 o) false 10 V ((Sl.of (gs.map (zW p.facts.xs l))).pv x9 1)):=⟨fun o=>(hV.h.1.set (fun hn=>by have:=hV.h.2 0 hn;omega) o).res (n:=8) (fun _=>rfl)⟩
    have wL:=hV.h.1.1.one;have JA:=wL.1;have JB:=wL.2;have KF:=Wl.h;rw [hb] at KF;have hDb:D.empty=b:=by rw [KF]
    have MM:Hide (D.aa=gs.map (zW p.facts.xs l)):=⟨by rw [KF]⟩
    have hDeH2:=Hide.mk KF;have h0n:0 < H.nx:=by omega
    obtain ⟨ids,iw⟩:=FrzK.fQ (n:=10) (FrzL.cons (FrzK.pure (.bool b)) (.cons (bD.h (.cells true [.pure (.bool b),V])) .nil));rw [<- MM.h] at iw;clear hV wL QD Wl KF hb fe bD;simp [*,zb]
def ik (p:Problem) (D:aN) (e:Int):Prop:=(jL p≠0/\D=⟨false,[]⟩/\e=jL p)\/(jL p=0/\fV p D e)
theorem sh38:G.shared 38=false:=by decide
theorem e38 (n:Nat) (p:Problem) (D:aN) (e:Int) (h:ik p D e):zF G (n+52) 38 [.agg p.cells]=some (.aQ [.agg D.cells,.int .i64 e]):=by
 refine zy (zx _) rfl g38 rfl ?_
 have hc:=fun H=>zf (G:=G) (n:=n+51) (H:=H) (caps:=[]) (ps:=[.agg p.cells]) sh45 (e45 (n+48) p);rcases h with ⟨h0,rfl,rfl⟩|⟨h0,hf⟩
 .generalize jL p=c at *;simp only [Problem.cells,List.map] at hc;simp [*,zb,c38,Problem.cells]
 .have hn:=fun H=>zf (G:=G) (n:=n+51) (H:=H) (caps:=[]) (ps:=[.agg p.cells]) sh48 (e48 n p (bT.1 h0) D e hf);rw [h0] at hc;obtain ⟨De,Ds⟩:=D;simp only [Problem.cells,aN.cells,List.map] at hc hn ⊢;clear h0 hf;simp [*,zb,c38,Problem.cells]
def Zb:List Nat->Int->Option Int
 | [],n=>some n
 | c::cs,n=>if 4611686018427387904 / n < (c:Int) then none else Zb cs (n*c)
def Wm (D:aN) (e:Int):Int×Int:=if e≠0\/D.empty=true then (0,e) else match Zb (D.aa.map (·.n)) 1 with
 | none=>(0,3)
 | some n=>(n,0)
def xh (s:fB) (j k:Nat):Pt:=match s.ends[j]! with
 | some c=>c[k]!
 | none=>⟨0,0⟩
def Ov (s:fB) (k:Nat):Box:=⟨⟨(xh s (4*k) k).x,(xh s (4*k+1) k).x⟩,⟨(xh s (4*k+2) k).y,(xh s (4*k+3) k).y⟩⟩
def zZ (pt:Nat):List fB->Nat->Box×Int×Int
 | [],_=>(⟨⟨0,0⟩,⟨0,0⟩⟩,-1,-1)
 | s::ss,i=>if pt∈s.part then (Ov s (s.part.idxOf pt),(i:Int),(s.part.idxOf pt:Nat)) else zZ pt ss (i+1)
structure lI (s:fB):Prop where
 few:s.part.length<=12
 len:s.ends.length=4*s.part.length
 all:∀ o∈s.ends,∃ c,o=some c/\c.length=s.part.length
theorem lI.at {s:fB} (h:lI s) {j k:Nat} (hj:j < s.ends.length) (hk:k < s.part.length):∃ (c:List Pt) (hc:k < c.length),s.ends[j]=some c/\xh s j k=c[k]:=by
 obtain ⟨c,h1,h2⟩:=h.all _ (List.getElem_mem hj)
 refine ⟨c,by omega,h1,?_⟩
 unfold xh;rw [getElem!_pos s.ends j hj,h1];simp only;rw [getElem!_pos c k (by omega)]
theorem Zc {c:List Pt} {k:Nat} (h:k < c.length):yV 2 (.pure (iN (some c))) (.pure (.int .i64 k))=some (.val (.pure (.ptr false [.int .i64 c[k].x,.int .i64 c[k].y] 0))):=by
 have:=pR (k:=.i64) (f:=Pt.cells) (sz:=2) (s:=Sl.mk false c) (n:=k) (by simpa using h)
 simpa [iN,Sl.uZ] using this
theorem ztG {α:Type} {L:List α} {k:Nat} (h:4*k+3 < L.length):(L.drop (4*k)).take 4=[L[4*k],L[4*k+1],L[4*k+2],L[4*k+3]]:=by
 refine List.ext_getElem (by simp;omega) fun i h1 h2=>?_
 have:i=0\/i=1\/i=2\/i=3:=by simp at h2;omega
 rcases this with rfl|rfl|rfl|rfl<;>simp
theorem sh53:G.shared 53=false:=by decide
theorem e53 (n:Nat) (D:aN) (pt:Nat) (hl:D.aa.length<=12) (hg:∀ s∈D.aa,lI s):zF G (n+2) 53 [.agg D.cells,.int .i64 pt]=some (.aQ [.agg (zZ pt D.aa 0).1.cells,.int .i64 (zZ pt D.aa 0).2.1,.int .i64 (zZ pt D.aa 0).2.2]):=by
 refine zy (zx _) rfl g53 rfl ?_
 obtain ⟨R,hR⟩:∃ R,zZ pt D.aa 0=R:=⟨_,rfl⟩
 rw [hR];have hRH:=Hide.mk hR;have vT:=Hide.mk hg;clear hR hg;obtain ⟨De,Ds⟩:=D;simp only [aN.cells] at *;obtain ⟨s,hs⟩:∃ s,s=Sl.of Ds:=⟨_,rfl⟩
 have qE:s.xs=Ds:=by rw [hs,Sl.fP]
 rw [<- hs];rw [<- qE] at vT hRH hl;clear hs qE;(repeat' first|simp [*,zb,c53,zH]|(apply za<;>intro _ h<;>try simp [-Nat.le_zero_eq] at h))
 refine zA [(5,10),(14,63)] (fun (i:Nat) env H=>env 14=.pure (.int .i64 i)/\i<=s.xs.length/\H.get 0=.cells true [.pure (.int .i64 0),.pure (.int .i64 0),.pure (.int .i64 0),.pure (.int .i64 0)]/\Hide (zZ pt (s.xs.drop i) i=R)) (fun i=>s.xs.length - i) 0 ?_ ?_ ?_ ?_
 .decide
 .exact ⟨by simp,by omega,by simp,by simpa using hRH⟩
 .simp only [zz];omega
 clear hRH;rintro i env H ⟨g14,hi,h0,hR⟩;have qU:=zo h0;have Qe:(0:Nat)≠H.nx:=by omega
 by_cases aK:i < s.xs.length
 .have w1:IntKind.i64.wrap ((i:Int)+1)=(i+1:Nat):=by rw [wrap64 (by omega) (by omega)];omega
  have jM:(i:Int) < s.xs.length:=by omega
  have hD:=vT.h _ (List.getElem_mem aK);have hd:=List.drop_eq_getElem_cons aK;rw [hd] at hR;have nu:=hR.h;unfold zZ at nu;obtain ⟨D',BH⟩:∃ D',s.xs[i]=D':=⟨_,rfl⟩
  rw [BH] at nu hD;have EX:x9 s.xs[i]=[.ptr false [lD D'.part,.int .i64 D'.n,.slice false 4 (chunks 4 D'.part.length (D'.ends.map iN)),iN D'.first] 0]:=by rw [BH];rfl
  have c1:=fun H=>zf (G:=G) (n:=n+1) (H:=H) (caps:=[]) (ps:=[(Sl.mk false (zL D'.part)).pv aF 1,.int .i64 pt]) sh99 (e99 n (Sl.mk false (zL D'.part)) pt (nK D'.part pt) (by rw [Sl.bL,z8];have:=hD.few;omega) (Y6 D'.part pt));rw [<- Kv] at c1;simp only [List.map] at c1
  by_cases hm:pt∈D'.part
  .rw [if_pos hm] at nu;have hk:=List.idxOf_lt_length_of_mem hm;rw [Y7 (by omega) (by simpa using hm)] at c1;simp only [Int.toNat_natCast] at c1;generalize D'.part.idxOf pt=k at *;have hlen:=hD.len;obtain ⟨a0,q0,z0,y0⟩:=hD.at (j:=4*k) (k:=k) (by omega) hk;obtain ⟨a1,q1,z1,y1⟩:=hD.at (j:=4*k+1) (k:=k) (by omega) hk;obtain ⟨a2,q2,z2,y2⟩:=hD.at (j:=4*k+2) (k:=k) (by omega) hk;obtain ⟨a3,q3,z3,y3⟩:=hD.at (j:=4*k+3) (k:=k) (by omega) hk;have HZ:yV 4 (.pure (.slice false 4 (chunks 4 D'.part.length (D'.ends.map iN)))) (.pure (.int .i64 k))=some (.val (.pure (.ptr false [iN (some a0),iN (some a1),iN (some a2),iN (some a3)] 0))):=by
    refine Yg ?_
    rw [zg1 _ _ _ hk,ztG (by simp;omega)];simp [z0,z1,z2,z3]
   have hb:Ov D' k=⟨⟨a0[k].x,a1[k].x⟩,⟨a2[k].y,a3[k].y⟩⟩:=by unfold Ov;rw [y0,y1,y2,y3]
   rw [hb] at nu;have d0:=Zc q0;have d1:=Zc q1;have d2:=Zc q2;have d3:=Zc q3;subst nu;have Hu:¬ (k:Int) < 0:=by omega
   clear hR hd BH vT hD hb y0 y1 y2 y3 z0 z1 z2 z3 hm;generalize a0[k]=b0 at *;generalize a1[k]=b1 at *;generalize a2[k]=b2 at *;generalize a3[k]=b3 at *;generalize lD D'.part=pp at *;generalize (chunks 4 D'.part.length (D'.ends.map iN))=cc at *;generalize iN D'.first=oo at *;generalize (D'.n:Int)=nn at *;simp [*,zb,zH,zU,qi]
  .rw [if_neg hm] at nu;have wK:nK D'.part pt=-1:=by
    have h1:=Y6 D'.part pt;rcases h1 with ⟨q,hq,_,e,_⟩|⟨h1,_⟩
    .exfalso;apply hm;have:=List.getElem_mem hq;rw [e] at this;have:=(zmK (part:=D'.part) (x:=pt) (by omega)).1 this
     simpa using this
    .exact h1
   rw [wK] at c1;have hR1H:=Hide.mk nu;clear hR nu hd BH vT hD hm;generalize lD D'.part=pp at *;generalize (chunks 4 D'.part.length (D'.ends.map iN))=cc at *;generalize iN D'.first=oo at *;generalize (D'.n:Int)=nn at *;(repeat' first|simp [*,zb,zH]|(apply za<;>intro _ h<;>try simp [-Nat.le_zero_eq] at h));exact ⟨i+1,by omega,by omega,by omega,hR1H⟩
 .have qy:i=s.xs.length:=by omega
  subst qy;rw [List.drop_length] at hR;have nu:=hR.h;unfold zZ at nu;subst nu;clear hR vT;simp [*,zb]
def rJ (D:aN) (e:Int) (N:Nat):List Box×Int:=if e≠0 then ([],e) else if D.empty=true then ([],9) else ((List.range N).map fun i=>(zZ i D.aa 0).1,0)
theorem sh24:G.shared 24=false:=by decide
theorem e24 (n:Nat) (p:Problem) (D:aN) (e:Int) (h:ik p D e) (hb:p.boxes.xs.length<=12\/e≠0) (hl:D.aa.length<=12) (hg:D.empty=false->∀ s∈D.aa,lI s):zF G (n+53) 24 [.agg p.cells]=some (.aQ [(Sl.of (rJ D e p.boxes.xs.length).1).pv Box.cells 4,.int .i64 (rJ D e p.boxes.xs.length).2]):=by
 refine zy (zx _) rfl g24 rfl ?_
 have hn:=fun H=>zf (G:=G) (n:=n+52) (H:=H) (caps:=[]) (ps:=[.agg p.cells]) sh38 (e38 n p D e h);simp only [Problem.cells,aN.cells,List.map] at hn;clear h
 by_cases h1:e=0
 case neg =>
  have hr:rJ D e p.boxes.xs.length=([],e):=by unfold rJ;rw [if_pos h1]
  rw [hr];clear hr hg;simp [*,zb,c24,Problem.cells]
 case pos =>
  subst h1
  cases hD:D.empty with
  | true =>
   have hr:rJ D 0 p.boxes.xs.length=([],9):=by unfold rJ;rw [if_neg (by simp),if_pos hD]
   rw [hr];rw [hD] at hn;clear hr hg;simp [*,zb,c24,Problem.cells]
  | false =>
   have hr:rJ D 0 p.boxes.xs.length=((List.range p.boxes.xs.length).map fun i=>(zZ i D.aa 0).1,0):=by unfold rJ;rw [if_neg (by simp),if_neg (by simp [hD])]
   rw [hr];have hN:p.boxes.xs.length<=12:=by rcases hb with h|h;exact h;exact absurd rfl h
   have xN:=Hide.mk (fun (i:Nat) H=>zf (G:=G) (n:=n+52) (H:=H) (caps:=[]) (ps:=[.agg D.cells,.int .i64 i]) sh53 (e53 (n+50) D i hl (hg hD)));simp only [aN.cells,hD,List.map] at xN;rw [hD] at hn;clear hr hg hb;have SQ:∀ i,((List.range (i+1)).map fun i=>(zZ i D.aa 0).1)=((List.range i).map fun i=>(zZ i D.aa 0).1)++[(zZ i D.aa 0).1]:=fun i=>by rw [List.range_succ,List.map_append];rfl
   have Ox:∀ i,((List.range i).map fun i=>(zZ i D.aa 0).1).length=i:=fun i=>by simp
   have Wn:=Hide.mk SQ;have Oy:=Hide.mk Ox;have h00:Hide (((List.range 0).map fun i=>(zZ i D.aa 0).1)=[]):=⟨rfl⟩
   obtain ⟨hu,MN⟩:∃ hu:Nat->Box×Int×Int,hu=fun i=>zZ i D.aa 0:=⟨_,rfl⟩
   obtain ⟨T,hT⟩:∃ T:Nat->List Box,T=fun i=>(List.range i).map fun i=>(zZ i D.aa 0).1:=⟨_,rfl⟩
   have hT1:((List.range p.boxes.xs.length).map fun i=>(zZ i D.aa 0).1)=T p.boxes.xs.length:=by rw [hT]
   rw [hT1];have hTn:Hide (∀ i,T (i+1)=T i++[(hu i).1]):=⟨fun i=>by rw [hT,MN];exact Wn.h i⟩
   have hTl:Hide (∀ i,(T i).length=i):=⟨fun i=>by rw [hT];exact Oy.h i⟩
   have Ec:Hide (T 0=[]):=⟨by rw [hT];rfl⟩
   have En:Hide (∀ (i:Nat) H,zG (zt G (n+52)) H (.pure (.func 53 [])) [.pure (.agg [.bool false,(Sl.of D.aa).pv x9 1]),.pure (.int .i64 i)]=some (.val (.pure (.aQ [.agg (hu i).1.cells,.int .i64 (hu i).2.1,.int .i64 (hu i).2.2])))):=⟨fun i H=>by rw [MN];exact xN.h i H⟩
   clear SQ Ox Wn Oy hT MN hT1 xN h00 hD;(repeat' first|simp [*,zb,c24,Problem.cells]|(apply za<;>intro _ h<;>try simp [-Nat.le_zero_eq] at h)|(show wpE 0 (zh ..) ..;refine zm ?_)|(refine ze fun v2 H2 aV aD ae af ai aj=>?_))
   refine zA [(6,10),(26,40)] (fun (i:Nat) env H=>env 26=.pure (.int .i64 i)/\i<=p.boxes.xs.length/\0 < H.nx/\H.get 0=.cells true [.pure (.bool false),.pure ((Sl.of D.aa).pv x9 1)]/\∃ V,env 6=V/\Hide (aC Box.cells 4 H V (T i)/\∀ id,Names V id->0 < id)) (fun i=>p.boxes.xs.length - i) 0 ?_ ?_ ?_ ?_
   .decide
   .exact ⟨by simp,by omega,by simp,by simp,.pure .nils,by simp,⟨by rw [Ec.h];exact aC.nil,fun id ⟨_,_,_,h⟩=>by simp at h⟩⟩
   .simp only [zz];omega
   rintro i env H ⟨g26,hi,bU,h0,V,g6,hV⟩
   by_cases aK:i < p.boxes.xs.length
   .have w1:IntKind.i64.wrap ((i:Int)+1)=(i+1:Nat):=by rw [wrap64 (by omega) (by omega)];omega
    have jM:(i:Int) < p.boxes.xs.length:=by omega
    have hc:=En.h i;have hTn1:=Hide.mk (hTn.h i);have hTl1:=Hide.mk (hTl.h i);generalize hu i=hui at *;obtain ⟨⟨⟨x0,x1⟩,⟨y0,y1⟩⟩,ii,kk⟩:=hui;simp only [Box.cells,Span.cells] at hc;have wL:=hV.h.1.1.one;have JA:=wL.1;have JB:=wL.2;clear En hTn hTl wL;(repeat' first|simp [*,zb,Box.cells,Span.cells]|(apply za<;>intro _ h<;>try simp [-Nat.le_zero_eq] at h)|(show wpE 0 (zh ..) ..;refine zm ?_)|(refine ze fun v2 H2 aV aD ae af ai aj=>?_))
    refine Fp (f:=Box.cells) (sz:=4) (l:=T i) ((hV.h.1.mi _ _).alloc _) (fun _=>rfl) (by decide) (fun _=>rfl) (by rw [hTl1.h];unfold zu;omega) ⟨⟨⟨x0,x1⟩,⟨y0,y1⟩⟩,by simp [Box.cells,Span.cells],?_⟩
    intro V4 H4 j5 ha;have wM:Hide (aC Box.cells 4 H4 V4 (T (i+1))/\∀ id,Names V4 id->0 < id):=⟨by rw [hTn1.h];exact j5,fun id hn=>by have:=ha.new id hn;simp at this;omega⟩
    have g0:H4.get 0=.cells true [.pure (.bool false),.pure ((Sl.of D.aa).pv x9 1)]:=by
     rw [ha.get 0 (by rw [qp,lM,qp];omega) (fun hn=>by have:=hV.h.2 0 hn;omega),zi (by rw [lM,qp];omega),zg (by omega),zi bU];exact h0
    have gn:0 < H4.nx:=by have:=ha.nx;simp at this;omega
    clear j5 ha hV;(repeat' first|simp [*,zb]|(apply za<;>intro _ h<;>try simp [-Nat.le_zero_eq] at h)|(show wpE 0 (zh ..) ..;refine zm ?_)|(refine ze fun v2 H2 aV aD ae af ai aj=>?_));exact ⟨i+1,by omega,by omega,by omega,wM⟩
   .have qy:i=p.boxes.xs.length:=by omega
    subst qy;obtain ⟨ids,iw⟩:=hV.h.1.res (n:=9) (fun _=>rfl);clear En hTn hTl hV;simp [*,zb]
abbrev fZ (p:Problem) (pts:List Pt):Prop:=mU p.facts.xs p.boxes.xs pts
theorem ztU (pts:List Pt):Wf (pts.map bf):=fun b hb=>by
 obtain ⟨x,_,rfl⟩:=List.mem_map.1 hb;exact ⟨Int.le_refl _,Int.le_refl _⟩
theorem zrG {l:List Box} {pts:List Pt} (hl:pts.length=l.length) (h:∀ i (h:i < pts.length) (h':i < l.length),bF pts[i] l[i]):aR (pts.map bf) l :=
 ⟨by simpa using hl,fun i h1 h2=>by
  have uP:i < pts.length:=by simpa using h1
  have:=h i uP h2;unfold bF at this;simp only [List.getElem_map,bf,fD,fC];omega⟩
theorem ztX {l:List Box} {pts:List Pt} (h:aR (pts.map bf) l):pts.length=l.length/\∀ i (h:i < pts.length) (h':i < l.length),bF pts[i] l[i] :=
 ⟨by simpa using h.1,fun i h1 h2=>by
  have:=h.2 i (by simpa using h1) h2;simp only [List.getElem_map,bf,fD,fC] at this;unfold bF;omega⟩
theorem zlC (x:Pt) (k:Nat):qw (bf x) k=bf x:=by
 unfold qw bf
 split<;>rfl
theorem zjV {facts:List Fact} {pts:List Pt} (h:∀ f∈facts,zD f (pts.map bf)=false):Stable jR facts (pts.map bf):=fun i hi k _ f hf hs=>by
 unfold jR at hs;have bV:i < pts.length:=by simpa using hi
 have e:jP (pts.map bf) i k=pts.map bf:=by
  rw [CX hi];have:qw (pts.map bf)[i] k=(pts.map bf)[i]:=by simp only [List.getElem_map];exact zlC _ _
  rw [this];exact List.set_getElem_self ..
 rw [e,h f hf] at hs;simp at hs
theorem Zd {p:Problem} {r:Option (List Box)} (hr:bM jR p.facts.xs p.boxes.xs r) {pts:List Pt} (h:fZ p pts):∃ l,r=some l/\mU p.facts.xs l pts:=by
 have hs:=zrG h.len h.y8
 cases r with
 | none=>exact absurd (zjV h.facts) (hr _ (ztU pts) hs)
 | some l =>
  have:=ztX (hr.1.all _ (ztU pts) hs (zjV h.facts));exact ⟨l,rfl,⟨this.1,this.2,h.facts⟩⟩
theorem Ze {p:Problem} {l:List Box} (hs:aR l p.boxes.xs) {pts:List Pt} (h:mU p.facts.xs l pts):fZ p pts:=by
 have:=ztX ((zrG h.len h.y8).trans hs);exact ⟨this.1,this.2,h.facts⟩
theorem QF {p:Problem} {l:List Box} (hr:bM jR p.facts.xs p.boxes.xs (some l)) (pts:List Pt):fZ p pts↔mU p.facts.xs l pts :=
 ⟨fun h=>by obtain ⟨l',e,h'⟩:=Zd hr h;simp only [Option.some.injEq] at e;rw [e];exact h',Ze hr.1.sub⟩
theorem fV.unique {p:Problem} {D D':aN} {e e':Int} (h:fV p D e) (h':fV p D' e'):D=D'/\e=e':=by
 rcases h with ⟨hr,rfl,rfl⟩|⟨l,m,hr,hm,h⟩
 .rcases h' with ⟨Ff,rfl,rfl⟩|⟨l',m',Ff,EO,h'⟩
  .exact ⟨rfl,rfl⟩
  .have:=hr.unique Ff;simp at this
 .rcases h' with ⟨Ff,rfl,rfl⟩|⟨l',m',Ff,EO,h'⟩
  .have:=hr.unique Ff;simp at this
  .have e1:=hr.unique Ff;simp only [Option.some.injEq] at e1;subst e1;have e2:=zeS (hm.unique EO);rw [<- e2] at h';rcases h with ⟨a,rfl,rfl⟩|⟨a,rfl,rfl⟩<;>rcases h' with ⟨b,rfl,rfl⟩|⟨b,rfl,rfl⟩
   .exact ⟨rfl,rfl⟩
   .omega
   .omega
   .exact ⟨rfl,rfl⟩
theorem zkl {n:Nat}:∀ (E E0:List (Nat×Nat)) (m0:Nat->Nat),bH E0 n m0->(∀ e∈E,e.1 < n/\e.2 < n)->∃ m,bH (E0++E) n m
 | [],E0,m0,h,_=>⟨m0,by rw [List.append_nil];exact h⟩
 | e::E,E0,m0,h,hE=>by
  have h1:=hE e List.mem_cons_self;obtain ⟨m,hm⟩:=zkl E (E0++[e]) _ (h.join h1.1 h1.2) fun x hx=>hE x (List.mem_cons_of_mem _ hx);exact ⟨m,by rw [List.append_assoc] at hm;exact hm⟩
theorem zkV {fs:List Fact} {n:Nat} (h:∀ f∈fs,qh f n=true):∃ m,bH (mM fs) n m:=zkl (mM fs) [] _ (bH.nil n) fun e he=>by
 obtain ⟨f,hf,he⟩:=nI.1 he;have hn:=YV (h f hf);have h1:=hn.a;have h2:=hn.b;have h3:=hn.c;unfold AB at he
 split at he
 .simp only [List.mem_cons,List.not_mem_nil,or_false] at he;rcases he with rfl|rfl<;>exact ⟨by simp only;omega,by simp only;omega⟩
 .simp only [List.mem_cons,List.not_mem_nil,or_false] at he;subst he;exact ⟨by simp only;omega,by simp only;omega⟩
theorem zsw {p:Problem} (ok:ak p):∃ D e,fV p D e:=by
 obtain ⟨r,hr⟩:=Yr (Kz ok) (xX ok)
 cases r with
 | none=>exact ⟨_,_,.inl ⟨hr,rfl,rfl⟩⟩
 | some l =>
  obtain ⟨m,hm⟩:=zkV ok.fact
  by_cases hv:mF l (zK m p.boxes.xs.length)<=65536
  .exact ⟨_,_,.inr ⟨l,m,hr,hm,.inr ⟨hv,rfl,rfl⟩⟩⟩
  .exact ⟨_,_,.inr ⟨l,m,hr,hm,.inl ⟨by omega,rfl,rfl⟩⟩⟩
theorem ik.unique {p:Problem} {D D':aN} {e e':Int} (h:ik p D e) (h':ik p D' e'):D=D'/\e=e':=by
 rcases h with ⟨h0,rfl,rfl⟩|⟨h0,hf⟩
 .rcases h' with ⟨_,rfl,rfl⟩|⟨h1,_⟩
  .exact ⟨rfl,rfl⟩
  .exact absurd h1 h0
 .rcases h' with ⟨h1,_⟩|⟨_,wD⟩
  .exact absurd h0 h1
  .exact hf.unique wD
structure lJ (p:Problem) (D:aN) (l:List Box) (gs:List (List Nat)):Prop where
 BA:bM jR p.facts.xs p.boxes.xs (some l)
 div:iI p.facts.xs l.length gs
 aa:D.aa=gs.map (zW p.facts.xs l)
 seen:∀ g∈gs,sS p.facts.xs l g (zW p.facts.xs l g)
 empty:D.empty=xg D.aa
 few:gs.length<=12/\∀ g∈gs,g.length<=12
theorem Zf {p:Problem} (ok:ak p) {D:aN} {e:Int} (h:fV p D e):(e=0/\D=⟨true,[]⟩/\bM jR p.facts.xs p.boxes.xs none)\/(e=2/\D=⟨false,[]⟩)\/(e=0/\∃ l gs,lJ p D l gs):=by
 rcases h with ⟨hr,rfl,rfl⟩|⟨l,m,hr,hm,h⟩
 .exact .inl ⟨rfl,rfl,hr⟩
 .rcases h with ⟨hv,rfl,rfl⟩|⟨hv,rfl,rfl⟩
  .exact .inr (.inl ⟨rfl,rfl⟩)
  .refine .inr (.inr ⟨rfl,l,zK m p.boxes.xs.length,?_⟩)
   have hl:l.length=p.boxes.xs.length:=hr.1.sub.1;have hd:=Ho hm (FH ok);have o9:=HY m p.boxes.xs.length;have nb:=ok.nb
   refine ⟨hr,by rw [hl];exact hd,rfl,fun g hg=>?_,rfl,⟨by omega,fun g hg=>by have:=(o9.2 g hg).1;omega⟩⟩
   refine Y8 (fun k hk=>by rw [hl];exact (hd.one g hg).2 k hk) hr.1.wf (fun f hf ha=>hd.within f hf g hg ha) fun f hf=>?_
   have h1:=(vR f _).1 (ok.fact f hf);exact ⟨by omega,by omega,by omega⟩
theorem iJ {L:List fB}:xg L=true↔∃ s∈L,s.n=0:=by simp [xg]
theorem lJ.some {p:Problem} {D:aN} {l:List Box} {gs:List (List Nat)} (h:lJ p D l gs) (he:D.empty=false) {g:List Nat} (hg:g∈gs) {c:List Pt} (hc:c∈jd p.facts.xs l g):∃ pts,fZ p pts/\pick pts g=c:=by
 have bC:∀ g'∈gs,∃ c',c'∈jd p.facts.xs l g':=fun g' tq=>by
  have h1:=(h.seen g' tq).n;have h2:(zW p.facts.xs l g').n≠0:=fun e=>by
   have:D.empty=true:=by
    rw [h.empty,iJ,h.aa];exact ⟨_,List.mem_map.2 ⟨g',tq,rfl⟩,e⟩
   rw [this] at he;simp at he
  exact ⟨_,List.head_mem (l:=jd p.facts.xs l g') (fun e=>h2 (by rw [h1,e];rfl))⟩
 obtain ⟨ch,qg⟩:∃ ch:List Nat->List Pt,∀ g'∈gs,ch g'∈jd p.facts.xs l g'/\(g'=g->ch g'=c):=by
  refine ⟨fun g'=>if g'=g then c else if h':g'∈gs then (bC g' h').choose else [],fun g' tq=>?_⟩
  simp only
  by_cases e:g'=g
  .subst e;simp [hc]
  .rw [if_neg e,dif_pos tq];exact ⟨(bC g' tq).choose_spec,fun h=>absurd h e⟩
 have hm:gs.map ch∈LP (gs.map (jd p.facts.xs l)):=jF.2 ⟨by simp,fun k a b=>by
  simp only [List.getElem_map];exact (qg _ (List.getElem_mem _)).1⟩
 obtain ⟨h1,h2⟩:=YP h.div hm (p0:=List.replicate l.length ⟨0,0⟩) (by simp)
 refine ⟨_,(QF h.BA _).2 h1,?_⟩
 have:=List.map_inj_left.1 h2 g hg;rw [this];exact (qg g hg).2 rfl
theorem lJ.Gw {p:Problem} {D:aN} {l:List Box} {gs:List (List Nat)} (h:lJ p D l gs):D.empty=true↔¬ ∃ pts,fZ p pts:=by
 constructor
 .rintro he ⟨pts,hp⟩;rw [h.empty,iJ,h.aa] at he;obtain ⟨s,hs,h0⟩:=he;obtain ⟨g,hg,rfl⟩:=List.mem_map.1 hs;have h1:=YO h.div ((QF h.BA _).1 hp) g hg;rw [(h.seen g hg).n] at h0;rw [List.eq_nil_of_length_eq_zero h0] at h1;simp at h1
 .intro hn
  cases he:D.empty with
  | true=>rfl
  | false =>
   exfalso
   refine hn ?_
   -- one choice of each part
   have bC:∀ g'∈gs,jd p.facts.xs l g'≠[]:=fun g' tq e=>by
    have:D.empty=true:=by
     rw [h.empty,iJ,h.aa];exact ⟨_,List.mem_map.2 ⟨g',tq,rfl⟩,by rw [(h.seen g' tq).n,e];rfl⟩
    rw [this] at he;simp at he
   have hm:(gs.map fun g=>(jd p.facts.xs l g).headD [])∈LP (gs.map (jd p.facts.xs l)):=jF.2 ⟨by simp,fun k a b=>by
    simp only [List.getElem_map];have:=bC _ (List.getElem_mem (l:=gs) (n:=k) (by simpa using a))
    cases hs:jd p.facts.xs l (gs[k]'(by simpa using a)) with
    | nil=>exact absurd hs this
    | cons c cs=>simp⟩
   obtain ⟨h1,_⟩:=YP h.div hm (p0:=List.replicate l.length ⟨0,0⟩) (by simp);exact ⟨_,(QF h.BA _).2 h1⟩
theorem zjm {p:Problem} (ok:ak p) {D:aN} (h:fV p D 0):D.empty=true↔¬ ∃ pts,fZ p pts:=by
 rcases Zf ok h with ⟨_,rfl,hr⟩|⟨he,_⟩|⟨_,l,gs,hi⟩
 .refine ⟨fun _ ⟨pts,hp⟩=>?_,fun _=>rfl⟩
  obtain ⟨l,e,_⟩:=Zd hr hp;simp at e
 .omega
 .exact hi.Gw
theorem zi7 {p:Problem} (ok:ak p) {D:aN} {e:Int} (h:fV p D e):D.aa.length<=12/\(D.empty=false->∀ s∈D.aa,s.n≠0/\lI s):=by
 rcases Zf ok h with ⟨_,rfl,_⟩|⟨_,rfl⟩|⟨_,l,gs,hi⟩
 .exact ⟨by simp,fun _ s hs=>by simp at hs⟩
 .exact ⟨by simp,fun _ s hs=>by simp at hs⟩
 .refine ⟨by rw [hi.aa,List.length_map];exact hi.few.1,fun he s hs=>?_⟩
  have hn:s.n≠0:=fun e=>by
   have:D.empty=true:=by rw [hi.empty,iJ];exact ⟨s,hs,e⟩
   rw [this] at he;simp at he
  rw [hi.aa] at hs;obtain ⟨g,hg,rfl⟩:=List.mem_map.1 hs;have ho:=hi.seen g hg;have bn:=hi.div.one g hg
  refine ⟨hn,⟨by rw [ho.same];exact hi.few.2 g hg,by rw [ho.same];exact ho.len,fun o E9=>?_⟩⟩
  obtain ⟨j,hj,rfl⟩:=List.mem_iff_getElem.1 E9;obtain ⟨c,hc,h1,_⟩:=ho.ends hn j hj
  refine ⟨c,h1,?_⟩
  rw [ho.same];exact ((Kq bn.1 (fun f hf ha=>hi.div.within f hf g hg ha)).1 hc).1.1
theorem zlj {p:Problem} {D:aN} {e:Int} (h:ik p D e):D.aa.length<=12/\(D.empty=false->∀ s∈D.aa,s.n≠0/\lI s):=by
 rcases h with ⟨_,rfl,_⟩|⟨h0,hf⟩
 .exact ⟨by simp,fun _ s hs=>by simp at hs⟩
 .exact zi7 (bT.1 h0) hf
def iC (fs:List Fact) (g:List Nat):List Fact:=fs.filter fun f=>g.contains f.a.toNat
def JD (fs:List Fact) (g:List Nat):List Int:=(jQ fs.length).filter fun k=>g.contains (fs[k.toNat]!).a.toNat
theorem bK {fs:List Fact} {g:List Nat} {f:Fact}:f∈iC fs g↔f∈fs/\f.a.toNat∈g:=by simp [iC]
theorem ziU (fs:List Fact) (g:List Nat):vS fs (JD fs g):=fun j hj=>Oe fs j (List.mem_filter.1 hj).1
theorem zqf (fs:List Fact) (g:List Nat):(JD fs g).length<=fs.length:=by
 have:=List.length_filter_le (fun k=>g.contains (fs[k.toNat]!).a.toNat) (jQ fs.length);rwa [Ku] at this
theorem Gx {fs:List Fact} {g:List Nat} {l:List Box}:0<=fI fs l (JD fs g)↔∃ f∈iC fs g,zD f l=true:=by
 rw [Vo fun j hj=>(ziU fs g j hj).1];unfold JD;simp only [List.mem_filter]
 constructor
 .rintro ⟨j,⟨hj,hn⟩,h⟩;obtain ⟨k,hk,rfl⟩:=jv.1 hj;rw [show ((k:Int)).toNat=k by simp,getElem!_pos fs k hk] at h hn;exact ⟨_,bK.2 ⟨List.getElem_mem hk,by simpa using hn⟩,h⟩
 .rintro ⟨f,hf,h⟩;obtain ⟨hf,hn⟩:=bK.1 hf;obtain ⟨k,hk,rfl⟩:=List.mem_iff_getElem.1 hf;exact ⟨k,⟨jv.2 ⟨k,hk,rfl⟩,by rw [show ((k:Int)).toNat=k by simp,getElem!_pos fs k hk];simpa using hn⟩,by rw [show ((k:Int)).toNat=k by simp,getElem!_pos fs k hk];exact h⟩
theorem zh8:∀ {gs:List (List Nat)},gs.flatten.Nodup->∀ {g g':List Nat} {x:Nat},g∈gs->g'∈gs->x∈g->x∈g'->g=g'
 | [],_,g,g',x,h,_,_,_=>by simp at h
 | a::gs,hn,g,g',x,h,h',hx,Oz=>by
  rw [List.flatten_cons,List.nodup_append] at hn;obtain ⟨_,h2,h3⟩:=hn;rcases List.mem_cons.1 h with e|h<;>rcases List.mem_cons.1 h' with e'|h'
  .rw [e,e']
  .rw [e] at hx;exact absurd rfl (h3 x hx x (List.mem_flatten.2 ⟨g',h',Oz⟩))
  .rw [e'] at Oz;exact absurd rfl (h3 x Oz x (List.mem_flatten.2 ⟨g,h,hx⟩))
  .exact zh8 h2 h h' hx Oz
theorem zjP {p:Problem} (ok:ak p) {gs:List (List Nat)} (hd:iI p.facts.xs p.boxes.xs.length gs) {g:List Nat} (hg:g∈gs) {i:Nat} (hi:i∈g) {f:Fact} (hf:f∈p.facts.xs) (hn:rU f i=true):f.a.toNat∈g:=by
 have Db:=(vR f _).1 (ok.fact f hf);have ha:f.a.toNat < p.boxes.xs.length:=by have:=(hd.named f hf).a;omega
 obtain ⟨g',tq,Wp⟩:=List.mem_flatten.1 ((hd.all _).1 ha);have hw:=hd.within f hf g' tq Wp;have xW:i∈g':=by
  unfold rU at hn;simp only [Bool.or_eq_true,Bool.and_eq_true,decide_eq_true_eq] at hn;rcases hn with h|h|⟨hk,h⟩
  .have:=hw.a;rwa [show f.a.toNat=i by omega] at this
  .have:=hw.b;rwa [show f.b.toNat=i by omega] at this
  .have:=hw.c hk;rwa [show f.c.toNat=i by omega] at this
 rw [zh8 hd.nodup hg tq hi xW];exact Wp
def MO (fs:List Fact) (l:List Box) (s:Nat×Nat):Bool:=decide ((bA l[s.1]! (s.2 / 2)).lo < (bA l[s.1]! (s.2 / 2)).hi)&&decide (0<=fI fs (jP l s.1 s.2) (sO fs (jQ fs.length) (s.1:Int)))
def OA (g:List Nat):List (Nat×Nat):=g.flatMap fun i=>(List.range 4).map fun k=>(i,k)
def Gy (fs:List Fact) (g:List Nat) (l:List Box):Option (Nat×Nat):=(OA g).find? (MO fs l)
def Eo (l:List Box) (c:Nat×Nat):Int:=(bA l[c.1]! c.2).hi - (bA l[c.1]! c.2).lo+1
def yc (l:List Box) (s:Int×(Nat×Nat)) (c:Nat×Nat):Int×(Nat×Nat):=if s.1 < Eo l c then (Eo l c,c) else s
def KG (g:List Nat):List (Nat×Nat):=g.flatMap fun i=>(List.range 2).map fun k=>(i,k)
def Ai (g:List Nat) (l:List Box):Nat×Nat:=((KG g).foldl (yc l) (0,(g.headD 0,0))).2
theorem zke (l:List Box):∀ (cs:List (Nat×Nat)) (s:Int×(Nat×Nat)),s.1<=(cs.foldl (yc l) s).1/\(∀ c∈cs,Eo l c<=(cs.foldl (yc l) s).1)/\(cs.foldl (yc l) s=s\/((cs.foldl (yc l) s).2∈cs/\(cs.foldl (yc l) s).1=Eo l (cs.foldl (yc l) s).2))
 | [],s=>⟨Int.le_refl _,fun c h=>by simp at h,.inl rfl⟩
 | c::cs,s=>by
  obtain ⟨h1,h2,h3⟩:=zke l cs (yc l s c);rw [List.foldl_cons];have h4:s.1<=(yc l s c).1/\Eo l c<=(yc l s c).1/\(yc l s c=s\/yc l s c=(Eo l c,c)):=by
   unfold yc
   split
   .exact ⟨by simp only;omega,Int.le_refl _,.inr rfl⟩
   .exact ⟨Int.le_refl _,by omega,.inl rfl⟩
  refine ⟨by omega,fun c' vB=>?_,?_⟩
  .rcases List.mem_cons.1 vB with rfl|h
   .omega
   .exact h2 c' h
  .rcases h3 with h3|⟨h3,h3'⟩
   .rcases h4.2.2 with h|h
    .exact .inl (h3.trans h)
    .rw [h3,h];exact .inr ⟨List.mem_cons_self,rfl⟩
   .exact .inr ⟨List.mem_cons_of_mem _ h3,h3'⟩
theorem pG {g:List Nat} {s:Nat×Nat}:s∈OA g↔s.1∈g/\s.2 < 4:=by
 obtain ⟨i,k⟩:=s;simp only [OA,List.mem_flatMap,List.mem_map,List.mem_range,Prod.mk.injEq]
 constructor
 .rintro ⟨a,ha,b,hb,rfl,rfl⟩;exact ⟨ha,hb⟩
 .rintro ⟨ha,hb⟩;exact ⟨i,ha,k,hb,rfl,rfl⟩
theorem vX {g:List Nat} {s:Nat×Nat}:s∈KG g↔s.1∈g/\s.2 < 2:=by
 obtain ⟨i,k⟩:=s;simp only [KG,List.mem_flatMap,List.mem_map,List.mem_range,Prod.mk.injEq]
 constructor
 .rintro ⟨a,ha,b,hb,rfl,rfl⟩;exact ⟨ha,hb⟩
 .rintro ⟨ha,hb⟩;exact ⟨i,ha,k,hb,rfl,rfl⟩
theorem zgQ {g:List Nat} {l:List Box} (bC:g≠[]) (hw:Wf l) (hl:∀ i∈g,i < l.length):(Ai g l).1∈g/\(Ai g l).2 < 2/\∀ i∈g,∀ k,k < 2->Eo l (i,k)<=Eo l (Ai g l):=by
 obtain ⟨h1,h2,h3⟩:=zke l (KG g) (0,(g.headD 0,0));obtain ⟨i,g',rfl⟩:=List.exists_cons_of_ne_nil bC;have mg:0 < Eo l (i,0):=by
  have:=hw _ (List.getElem_mem (hl i List.mem_cons_self));unfold Eo;simp only;rw [getElem!_pos l i (hl i List.mem_cons_self)];unfold ja at this;simp only [bA,if_true];omega
 have h4:=h2 (i,0) (vX.2 ⟨List.mem_cons_self,Nat.zero_lt_two⟩);rcases h3 with h3|⟨h3,h5⟩
 .rw [h3] at h4;simp only at h4;omega
 .have h6:=vX.1 h3;exact ⟨h6.1,h6.2,fun j hj k hk=>by
   have:=h2 (j,k) (vX.2 ⟨hj,hk⟩);rw [h5] at this;exact this⟩
theorem zlR {b:Box} (hw:ja b) {k:Nat} (hk:k < 4):¬ mI b k↔(bA b (k / 2)).lo < (bA b (k / 2)).hi:=by
 unfold mI bA;unfold ja at hw;have nE:k=0\/k=1\/k=2\/k=3:=by omega
 rcases nE with rfl|rfl|rfl|rfl<;>simp<;>omega
theorem zl3 {l:List Box} {i k:Nat} (hi:i < l.length) (hk:k < 4) (ht:mI l[i] k):jP l i k=l:=by
 rw [CX hi];have:qw l[i] k=l[i]:=by
  unfold mI at ht;generalize l[i]=bb at *;obtain ⟨⟨a,b⟩,⟨c,d⟩⟩:=bb;have nE:k=0\/k=1\/k=2\/k=3:=by omega
  rcases nE with rfl|rfl|rfl|rfl<;>simp_all [qw]
 rw [this];exact List.set_getElem_self ..
theorem znl {p:Problem} (ok:ak p) {gs:List (List Nat)} (hd:iI p.facts.xs p.boxes.xs.length gs) {g:List Nat} (hg:g∈gs) {l:List Box} (hl:l.length=p.boxes.xs.length) (hw:Wf l) {i k:Nat} (h:Gy p.facts.xs g l=some (i,k)):i∈g/\k < 4/\∃ h:i < l.length,¬ mI l[i] k/\∃ f∈iC p.facts.xs g,jR f (jP l i k):=by
 have hm:=pG.1 (List.mem_of_find?_eq_some h);have hb:=List.find?_some h;have aT:i < l.length:=by rw [hl];exact (hd.one g hg).2 i hm.1
 simp only [MO,Bool.and_eq_true,decide_eq_true_eq,getElem!_pos l i aT] at hb
 refine ⟨hm.1,hm.2,aT,(zlR (hw _ (List.getElem_mem aT)) hm.2).2 hb.1,?_⟩
 obtain ⟨f,hf,hn,hs⟩:=sQ.1 hb.2;exact ⟨f,bK.2 ⟨hf,zjP ok hd hg hm.1 hf hn⟩,hs⟩
theorem znW {p:Problem} (ok:ak p) {gs:List (List Nat)} (hd:iI p.facts.xs p.boxes.xs.length gs) {g:List Nat} (hg:g∈gs) {l:List Box} (hl:l.length=p.boxes.xs.length) (hw:Wf l) (h:Gy p.facts.xs g l=none) (hb:¬ DZ jR (iC p.facts.xs g) l):Stable jR (iC p.facts.xs g) l:=fun i hi k hk f hf hs=>by
 obtain ⟨Gz,Df⟩:=bK.1 hf
 cases hn:rU f i with
 | false =>
  unfold jR at hs;rw [CX hi,zg7 ok Gz hn hi] at hs;exact hb ⟨f,hf,hs⟩
 | true =>
  have xW:i∈g:=by
   have pI:=hd.within f Gz g hg Df;unfold rU at hn;simp only [Bool.or_eq_true,Bool.and_eq_true,decide_eq_true_eq] at hn;rcases hn with h|h|⟨hk,h⟩
   .have:=pI.a;rwa [show f.a.toNat=i by omega] at this
   .have:=pI.b;rwa [show f.b.toNat=i by omega] at this
   .have:=pI.c hk;rwa [show f.c.toNat=i by omega] at this
  by_cases ht:mI l[i] k
  .rw [zl3 hi hk ht] at hs;exact hb ⟨f,hf,hs⟩
  .have:=List.find?_eq_none.1 h (i,k) (pG.2 ⟨xW,hk⟩);simp only [MO,Bool.and_eq_true,decide_eq_true_eq,getElem!_pos l i hi] at this;exact this ⟨(zlR (hw _ (List.getElem_mem hi)) hk).1 ht,sQ.2 ⟨f,Gz,hn,hs⟩⟩
theorem zsQ {p:Problem} (ok:ak p) {gs:List (List Nat)} (hd:iI p.facts.xs p.boxes.xs.length gs) {g:List Nat} (hg:g∈gs) (bC:g≠[]) (ry:∀ pts,¬ mU (iC p.facts.xs g) p.boxes.xs pts) :
  y9 jR (iC p.facts.xs g) p.boxes.xs g (Gy p.facts.xs g) (Ai g):=by
 have h1:=hd.one g hg
 refine ⟨h1.1,h1.2,fun l i k hl hw h=>znl ok hd hg hl hw h,fun l hl hw h hb=>znW ok hd hg hl hw h hb,fun l hl hw hs hb=>?_⟩
 have ou:∀ i∈g,i < l.length:=fun i hi=>by rw [hl];exact h1.2 i hi
 obtain ⟨w1,w2,w3⟩:=zgQ bC hw ou
 refine ⟨w1,w2,ou _ w1,?_⟩
 refine Classical.byContradiction fun hc=>?_
 have fF:Eo l (Ai g l)<=1:=by
  unfold Eo;rw [getElem!_pos l _ (ou _ w1)];omega
 have bn:∀ i (h:i∈g),l[i]'(ou i h)=bf ⟨(l[i]'(ou i h)).x.lo,(l[i]'(ou i h)).y.lo⟩:=fun i hi=>by
  have h0:=w3 i hi 0 (by decide);have h1:=w3 i hi 1 (by decide);generalize Eo l (Ai g l)=W at *;have pI:=hw _ (List.getElem_mem (ou i hi));unfold Eo at h0 h1;rw [getElem!_pos l i (ou i hi)] at h0 h1;simp only [bA,if_true,Nat.one_ne_zero,if_false] at h0 h1;have Vt:(l[i]'(ou i hi)).x.hi - (l[i]'(ou i hi)).x.lo+1<=1:=Int.le_trans h0 fF;have uP:(l[i]'(ou i hi)).y.hi - (l[i]'(ou i hi)).y.lo+1<=1:=Int.le_trans h1 fF;unfold ja at pI;clear h0 h1;generalize l[i]'(ou i hi)=b at *;obtain ⟨⟨a,b⟩,⟨c,d⟩⟩:=b;simp only at Vt uP pI;have e1:b=a:=by omega
  have e2:d=c:=by omega
  subst e1 e2;rfl
 refine ry (l.map fun b=>⟨b.x.lo,b.y.lo⟩) ⟨by simp [hl],fun i h h'=>?_,fun f hf=>?_⟩
 .have aT:i < l.length:=by simpa using h
  have s1:=hs.2 i aT h';have s2:=hw _ (List.getElem_mem aT);unfold fD fC at s1;unfold ja at s2;unfold bF;simp only [List.getElem_map];omega
 .obtain ⟨Gz,Df⟩:=bK.1 hf;have pI:=hd.within f Gz g hg Df;have key:∀ j∈g,((l.map fun b=>(⟨b.x.lo,b.y.lo⟩:Pt)).map bf)[j]! = l[j]! := fun j hj=>by
   have iX:=ou j hj;rw [getElem!_pos l j iX,getElem!_pos _ j (by simpa using iX)];simp only [List.getElem_map];exact (bn j hj).symm
  have e:=LJ (f:=f) (l:=((l.map fun b=>(⟨b.x.lo,b.y.lo⟩:Pt)).map bf)) (m:=l) ⟨key _ pI.a,key _ pI.b,fun hk=>key _ (pI.c hk)⟩;rw [e]
  cases qd:zD f l with
  | false=>rfl
  | true=>exact absurd ⟨f,hf,qd⟩ hb
def Zg (fs:List Fact) (i:Int) (l:List Box):Prop:=0<=i/\i < fs.length/\zD fs[i.toNat]! l=true
theorem zkx {fs:List Fact} {l:List Box}:∀ {is:List Int},vS fs is->0<=fI fs l is->Zg fs (fI fs l is) l/\fI fs l is∈is
 | [],_,h=>by simp [fI] at h
 | i::is,ho,h=>by
  unfold fI at h ⊢
  by_cases hf:zD fs[i.toNat]! l=true
  .simp only [hf,if_true] at h ⊢;have:=ho i List.mem_cons_self;exact ⟨⟨this.1,this.2,hf⟩,List.mem_cons_self⟩
  .simp only [hf] at h ⊢;have:=zkx (fun j hj=>ho j (List.mem_cons_of_mem _ hj)) h;exact ⟨this.1,List.mem_cons_of_mem _ this.2⟩
def xk (p:Problem) (g:List Nat) (m:Nat) (l:List Box):List Node:=LD (fun l=>fI p.facts.xs l (JD p.facts.xs g)) (C8 (Gy p.facts.xs g) (Ai g)) m l
theorem zlJ {p:Problem} (ok:ak p) (g:List Nat):yZ jR (iC p.facts.xs g) p.boxes.xs.length:=fun f hf=>Kz ok f (bK.1 hf).1
theorem zp7 {p:Problem} (ok:ak p) {gs:List (List Nat)} (hd:iI p.facts.xs p.boxes.xs.length gs) {g:List Nat} (hg:g∈gs) (bC:g≠[]) (ry:∀ pts,¬ mU (iC p.facts.xs g) p.boxes.xs pts)
  {r:Option (List Box)} (hr:bM jR (iC p.facts.xs g) p.boxes.xs r) {m:Nat} (hm:iU p.boxes.xs < m) :
  rC (Zg p.facts.xs) p.boxes.xs (xk p g m p.boxes.xs)/\(xk p g m p.boxes.xs).length+1<=2*(iU p.boxes.xs+Gf r g) :=
 zrP (fun l h=>(zkx (ziU _ _) h).1) (fun l h hb=>by
  obtain ⟨f,hf,hs⟩:=hb;have:=Gx.2 ⟨f,hf,hs⟩;omega) (zlJ ok g) (xX ok) hr (zsQ ok hd hg bC ry) m hm
def GA (p:Problem) (g:List Nat):Prop:=∀ pts,¬ mU (iC p.facts.xs g) p.boxes.xs pts
theorem iI.iC {fs:List Fact} {n:Nat} {gs:List (List Nat)} (h:iI fs n gs) (g:List Nat):iI (iC fs g) n gs :=
 ⟨h.nodup,h.all,fun f hf=>h.within f (bK.1 hf).1,fun f hf=>h.named f (bK.1 hf).1⟩
def QG (l:List Box) (g:List Nat) (c:List Pt):List Pt:=(List.range l.length).map fun j=>if j∈g then c[g.idxOf j]! else ⟨l[j]!.x.lo,l[j]!.y.lo⟩
theorem zga (l:List Box) (g:List Nat) (c:List Pt):(QG l g c).length=l.length:=by simp [QG]
theorem zjO {l:List Box} {g:List Nat} {c:List Pt} {j:Nat} (hj:j < l.length) (h:j∈g):(QG l g c)[j]! = c[g.idxOf j]! := by
 rw [getElem!_pos _ j (by rw [zga];exact hj)];simp [QG,h]
theorem zl1 {l:List Box} {g:List Nat} {c:List Pt} (hn:g.Nodup) (hi:∀ i∈g,i < l.length) (hc:c.length=g.length):pick (QG l g c) g=c:=by
 refine List.ext_getElem (by simp [pick,hc]) fun k h1 h2=>?_
 have hk:k < g.length:=by omega
 simp only [pick,List.getElem_map];rw [zjO (hi _ (List.getElem_mem hk)) (List.getElem_mem hk),hn.idxOf_getElem k hk,getElem!_pos c k h2]
theorem znA {fs:List Fact} {l:List Box} {g:List Nat} {c:List Pt} (hw:Wf l) (hn:g.Nodup) (hi:∀ i∈g,i < l.length) (pI:∀ f∈fs,f.a.toNat∈g->Within g f) (hc:c∈jd (iC fs g) l g):mU (iC fs g) l (QG l g c):=by
 obtain ⟨⟨h1,h2⟩,h3⟩:=(Kq hn fun f hf ha=>pI f (bK.1 hf).1 ha).1 hc
 refine ⟨zga _ _ _,fun j h h'=>?_,fun f hf=>?_⟩
 .by_cases hj:j∈g
  .have e:=zjO (c:=c) h' hj;rw [getElem!_pos _ j h] at e;rw [e];have hk:g.idxOf j < g.length:=List.idxOf_lt_length_iff.2 hj;have:=h2 (g.idxOf j) hk (by omega);rw [List.getElem_idxOf] at this;rw [getElem!_pos c _ (by omega)];rwa [getElem!_pos l j h'] at this
  .simp only [QG,List.getElem_map,List.getElem_range,hj,if_false];have:=hw _ (List.getElem_mem h');rw [getElem!_pos l j h'];unfold ja at this;unfold bF;simp only;omega
 .obtain ⟨Hw,pF⟩:=bK.1 hf;rw [<- YN (facts:=fs) (zga l g c) hn hi (pI f Hw pF),zl1 hn hi h1];exact h3 f hf pF
theorem zto {p q:Problem} (ok:ak p) {g:List Nat} (hb:q.boxes.xs=p.boxes.xs) (hf:q.facts.xs=iC p.facts.xs g):ak q :=
 ⟨by rw [hb];exact ok.nb,by rw [hf];exact Nat.le_trans (List.length_filter_le ..) ok.nf,by rw [hb];exact ok.box,by rw [hf,hb];exact fun f h=>ok.fact f (bK.1 h).1⟩
section
variable {p q:Problem} {gs:List (List Nat)} {g:List Nat}
theorem zmH (hb:q.boxes.xs=p.boxes.xs) (hf:q.facts.xs=iC p.facts.xs g) (hr:bM jR q.facts.xs q.boxes.xs none):GA p g:=fun pts h=>by
 obtain ⟨l,e,_⟩:=Zd (p:=q) hr (pts:=pts) (by unfold fZ;rw [hb,hf];exact h);simp at e
theorem zrl (ok:ak p) (hd:iI p.facts.xs p.boxes.xs.length gs) (hg:g∈gs) (hb:q.boxes.xs=p.boxes.xs) (hf:q.facts.xs=iC p.facts.xs g) {l:List Box} (hs:aR l p.boxes.xs) (hw:Wf l):sS q.facts.xs l g (zW q.facts.xs l g):=by
 have h1:=hd.one g hg
 refine Y8 (fun k hk=>by rw [hs.1];exact h1.2 k hk) hw (fun f h ha=>?_) fun f h=>?_
 .rw [hf] at h;exact hd.within f (bK.1 h).1 g hg ha
 .rw [hf] at h;have h1:=(vR f _).1 (ok.fact f (bK.1 h).1);exact ⟨by omega,by omega,by omega⟩
theorem zm1 (ok:ak p) (hd:iI p.facts.xs p.boxes.xs.length gs) (hg:g∈gs) (hb:q.boxes.xs=p.boxes.xs) (hf:q.facts.xs=iC p.facts.xs g) {l:List Box} (hr:bM jR q.facts.xs q.boxes.xs (some l)):(zW q.facts.xs l g).n=0↔GA p g:=by
 have h1:=hd.one g hg;have hs:aR l p.boxes.xs:=by rw [<- hb];exact hr.1.sub
 rw [(zrl ok hd hg hb hf hs hr.1.wf).n]
 constructor
 .intro h0 pts h;obtain ⟨l',e,h'⟩:=Zd (p:=q) hr (pts:=pts) (by unfold fZ;rw [hb,hf];exact h);simp only [Option.some.injEq] at e;subst e;have:=YO (by rw [hf,hs.1];exact hd.iC g) h' g hg;rw [List.eq_nil_of_length_eq_zero h0] at this;simp at this
 .intro ry
  refine Classical.byContradiction fun hc=>?_
  obtain ⟨c,hc⟩:=List.exists_mem_of_ne_nil (jd q.facts.xs l g) fun e=>hc (by rw [e];rfl);rw [hf] at hc;have:=znA hr.1.wf h1.1 (fun i hi=>by rw [hs.1];exact h1.2 i hi) (fun f hf ha=>hd.within f hf g hg ha) hc;have h2:=(QF (p:=q) hr _).2 (by rw [hf];exact this);unfold fZ at h2;rw [hf,hb] at h2;exact ry _ h2
theorem zsD (ok:ak p) (hd:iI p.facts.xs p.boxes.xs.length gs) (h:∀ g∈gs,¬ GA p g):∃ pts,fZ p pts:=by
 have hex:∀ g∈gs,∃ pts,mU (iC p.facts.xs g) p.boxes.xs pts:=fun g hg=>Classical.byContradiction fun hc=>h g hg fun pts hp=>hc ⟨pts,hp⟩;obtain ⟨ch,qg⟩:∃ ch:List Nat->List Pt,∀ g∈gs,mU (iC p.facts.xs g) p.boxes.xs (ch g):=by
  refine ⟨fun g=>if h:g∈gs then (hex g h).choose else [],fun g hg=>?_⟩
  simp only;rw [dif_pos hg];exact (hex g hg).choose_spec
 have MP:∀ j,j < p.boxes.xs.length->∃ g∈gs,j∈g:=fun j hj=>List.mem_flatten.1 ((hd.all j).1 hj);obtain ⟨of,MP⟩:∃ of:Nat->List Nat,∀ j,j < p.boxes.xs.length->of j∈gs/\j∈of j:=by
  refine ⟨fun j=>if h:j < p.boxes.xs.length then (MP j h).choose else [],fun j hj=>?_⟩
  simp only;rw [dif_pos hj];exact (MP j hj).choose_spec
 have hlen:((List.range p.boxes.xs.length).map fun j=>(ch (of j))[j]!).length=p.boxes.xs.length:=by simp
 refine ⟨(List.range p.boxes.xs.length).map fun j=>(ch (of j))[j]!,hlen,fun j h h'=>?_,fun f hf=>?_⟩
 .have hs:=qg _ (MP j h').1;have:=hs.y8 j (by rw [hs.len];exact h') h';simp only [List.getElem_map,List.getElem_range];rwa [getElem!_pos _ j (by rw [hs.len];exact h')]
 .have ha:f.a.toNat < p.boxes.xs.length:=by have:=(hd.named f hf).a;omega
  obtain ⟨hg,Du⟩:=MP _ ha;have pI:=hd.within f hf _ hg Du;have hs:=qg _ hg;have key:∀ j∈of f.a.toNat,(((List.range p.boxes.xs.length).map fun j=>(ch (of j))[j]!).map bf)[j]! = ((ch (of f.a.toNat)).map bf)[j]! := fun j hj=>by
   have iX:=(hd.one _ hg).2 j hj;have e:of j=of f.a.toNat:=zh8 hd.nodup (MP j iX).1 hg (MP j iX).2 hj;rw [getElem!_pos _ j (by simpa using iX),getElem!_pos ((ch (of f.a.toNat)).map bf) j (by rw [List.length_map,hs.len];exact iX)];simp only [List.getElem_map,List.getElem_range];rw [e,getElem!_pos _ j (by rw [hs.len];exact iX)]
  rw [LJ ⟨key _ pI.a,key _ pI.b,fun hk=>key _ (pI.c hk)⟩];exact hs.facts f (bK.2 ⟨hf,Du⟩)
end
def rX (fs:List Fact) (tree:List Node):Nat->List Box->Nat->Bool×Nat
 | 0,_,a=>(false,a)
 | m+1,l,a=>match tree[a]? with
  | none=>(false,a)
  | some d=>if d.fact≠-1 then (decide (0<=d.fact)&&(decide (d.fact < fs.length)&&(decide (d.point=0)&&(decide (d.nY=0)&&(decide (d.at_=0)&&zD fs[d.fact.toNat]! l)))),a+1)
   else if 0<=d.point/\d.point < l.length/\0<=d.nY/\d.nY<=1 then
    if (bA l[d.point.toNat]! d.nY.toNat).lo<=d.at_/\d.at_ < (bA l[d.point.toNat]! d.nY.toNat).hi then
     if (rX fs tree m (fM l d.point.toNat d.nY.toNat d.at_) (a+1)).1 then rX fs tree m (pV l d.point.toNat d.nY.toNat d.at_) (rX fs tree m (fM l d.point.toNat d.nY.toNat d.at_) (a+1)).2
     else (false,(rX fs tree m (fM l d.point.toNat d.nY.toNat d.at_) (a+1)).2)
    else (false,a+1)
   else (false,a+1)
def GD (fs:List Fact) (boxes:List Box) (tree:List Node):Bool:=(rX fs tree (iU boxes+1) boxes 0).1&&decide ((rX fs tree (iU boxes+1) boxes 0).2=tree.length)
theorem Wq (fs:List Fact) (tree:List Node):∀ (m:Nat) (l:List Box) (a:Nat),a<=tree.length->a<=(rX fs tree m l a).2/\(rX fs tree m l a).2<=tree.length
 | 0,l,a,h=>⟨Nat.le_refl _,h⟩
 | m+1,l,a,h=>by
  unfold rX
  cases ht:tree[a]? with
  | none=>exact ⟨Nat.le_refl _,h⟩
  | some d =>
   have ha:a < tree.length:=(List.getElem?_eq_some_iff.1 ht).1;simp only
   repeat' split
   .exact ⟨by simp only;omega,by simp only;omega⟩
   .have h1:=Wq fs tree m (fM l d.point.toNat d.nY.toNat d.at_) (a+1) (by omega);have h2:=Wq fs tree m (pV l d.point.toNat d.nY.toNat d.at_) _ h1.2;exact ⟨by omega,h2.2⟩
   .have h1:=Wq fs tree m (fM l d.point.toNat d.nY.toNat d.at_) (a+1) (by omega);exact ⟨by simp only;omega,by simp only;omega⟩
   .exact ⟨by simp only;omega,by simp only;omega⟩
   .exact ⟨by simp only;omega,by simp only;omega⟩
theorem zre {fs:List Fact} {l:List Box} {t:List Node} (h:rC (Zg fs) l t):∀ (pre post:List Node) (m:Nat),iU l < m->rX fs (pre++t++post) m l pre.length=(true,pre.length+t.length):=by
 induction h with
 | leaf l f hb =>
  intro pre post m hm;obtain ⟨m,rfl⟩:∃ k,m=k+1:=⟨m - 1,by omega⟩
  obtain ⟨h0,h1,h2⟩:=hb;have e:(pre++[(⟨f,0,0,0⟩:Node)]++post)[pre.length]?=some ⟨f,0,0,0⟩:=by simp
  unfold rX;rw [e];simp only;rw [if_pos (by omega),h2];simp [h0,h1]
 | node l i ax t ta tb hp ha hb iha ihb =>
  intro pre post m hm;obtain ⟨m,rfl⟩:∃ k,m=k+1:=⟨m - 1,by omega⟩
  have e:(pre++((⟨-1,i,ax,t⟩:Node)::(ta++tb))++post)[pre.length]?=some ⟨-1,i,ax,t⟩:=by simp
  have aT:=hp.il;have um:=hp.al;have m1:=U4 hp;have m2:=U5 hp;have a1:=iha (pre++[⟨-1,i,ax,t⟩]) (tb++post) m (by omega);have b1:=ihb (pre++[⟨-1,i,ax,t⟩]++ta) post m (by omega);have e1:pre++[(⟨-1,i,ax,t⟩:Node)]++ta++(tb++post)=pre++((⟨-1,i,ax,t⟩:Node)::(ta++tb))++post:=by simp
  have e2:pre++[(⟨-1,i,ax,t⟩:Node)]++ta++tb++post=pre++((⟨-1,i,ax,t⟩:Node)::(ta++tb))++post:=by simp
  rw [e1] at a1;rw [e2] at b1;have e3:(pre++[(⟨-1,i,ax,t⟩:Node)]).length=pre.length+1:=by simp
  have e4:(pre++[(⟨-1,i,ax,t⟩:Node)]++ta).length=pre.length+1+ta.length:=by simp;omega
  rw [e3] at a1;rw [e4] at b1;unfold rX;rw [e];simp only [Int.toNat_natCast];rw [if_neg (by simp),if_pos (by omega),if_pos (by rw [getElem!_pos l i aT];exact ⟨hp.lo,hp.hi⟩),a1];simp only [if_true];rw [b1];simp only [List.length_cons,List.length_append,Prod.mk.injEq,true_and];omega
theorem zqN {fs:List Fact} {l:List Box} {t:List Node} (h:rC (Zg fs) l t):GD fs l t=true:=by
 have:=zre h [] [] (iU l+1) (by omega);simp only [List.nil_append,List.append_nil,List.length_nil,Nat.zero_add] at this;unfold GD;rw [this];simp
end Go.Proofs.YtmmhnfghklppiaaGreat.Vm
