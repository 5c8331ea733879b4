/- What Narrow, Parts and Volume return. find and solved: what is seen of all parts, walked. solved, Count: the program's, walked. found.hull and Hull: the program's, walked. -/
import Derived.Test.YtleggocccaeemaaOk22
import Derived.Test.YtleggocccaeemaaOk24
import Derived.Test.YtleggocccaeemaaOk17
namespace Go.Proofs.Ytleggocccaeemaa.Vm
open Go
set_option linter.unusedSimpArgs false
set_option linter.unusedVariables false
set_option maxHeartbeats 4000000
set_option maxRecDepth 4000
theorem zpO {p:Problem} {l:List Box} (hl:l.length=p.boxes.xs.length):∃ q:Sl Box,zfk p (some l)=q.pv Box.cells 4/\q.xs=l:=by
 obtain ⟨bs,fs⟩:=p
 cases bs with
 | nil =>
  have:l=[]:=List.eq_nil_of_length_eq_zero hl;subst this;exact ⟨.nil,rfl,rfl⟩
 | mk h xs=>exact ⟨.mk false l,rfl,rfl⟩
theorem zgI (m:Nat->Nat) (n:Nat):(zak m n).length<=n/\∀ l∈zak m n,l.length<=n/\∀ k∈l,k < n:=by
 refine ⟨zfS m n n,fun l hl=>?_⟩
 obtain ⟨i,_,_,rfl⟩:=mem_parts.1 hl;exact ⟨zg2 m i n,fun k hk=>(mem_partL.1 hk).1⟩
structure FoundD where
 empty:Bool
 seens:List SeenD
def zbV (s:SeenD):List PV:=[s.pv]
@[simp] def FoundD.cells (D:FoundD):List PV:=[.bool D.empty,(Sl.of D.seens).pv zbV 1]
def zbR (L:List SeenD):Bool:=L.any fun s=>s.n == 0
theorem zjo (L:List SeenD) (s:SeenD):zbR (L++[s])=(zbR L||decide ((s.n:Int)=0)):=by
 unfold zbR;rw [List.any_append];simp only [List.any_cons,List.any_nil,Bool.or_false]
 congr 1
 rw [Bool.eq_iff_iff];simp
def FindOut (p:Problem) (D:FoundD) (e:Int):Prop:=(IsNar zaM p.facts.xs p.boxes.xs none/\D=⟨true,[]⟩/\e=0) \/
 ∃ l m,IsNar zaM p.facts.xs p.boxes.xs (some l)/\IsCls (zaV p.facts.xs) p.boxes.xs.length m /\
  ((65536 < volL l (zak m p.boxes.xs.length)/\D=⟨false,[]⟩/\e=2) \/
   (volL l (zak m p.boxes.xs.length)<=65536/\D=⟨zbR ((zak m p.boxes.xs.length).map (zai p.facts.xs l)),(zak m p.boxes.xs.length).map (zai p.facts.xs l)⟩/\e=0))
theorem zjg {b:List Box}:∀ {ps:List (List Nat)} {x:Int} {g:List Nat},g∈ps->volP b g<=ps.foldl (fun x l=>max x (volP b l)) x
 | a::ps,x,g,h=>by
  rw [List.foldl_cons];rcases List.mem_cons.1 h with rfl|h
  ·have mono:∀ (ps:List (List Nat)) (x:Int),x<=ps.foldl (fun x l=>max x (volP b l)) x:=by
    intro ps
    induction ps with
    | nil=>intro x;exact Int.le_refl _
    | cons a ps ih=>intro x;have:=ih (max x (volP b a));rw [List.foldl_cons];omega
   have:=mono ps (max x (volP b g));omega
  ·exact zjg h
theorem zeF {p:Problem} (ok:CheckOk p):∀ f∈p.facts.xs,Named f p.boxes.xs.length:=fun f hf=>zhm (ok.fact f hf)
theorem zkj {p:Problem} (ok:CheckOk p):∀ f∈p.facts.xs,f.a≠f.b/\(f.kind=2->f.c≠f.a):=fun f hf=>by
 have h:=(za5 f _).1 (ok.fact f hf)
 refine ⟨by omega,fun hk=>?_⟩
 have:=h.2.2.2.2.2.1 hk;omega
theorem zoz {p:Problem} (ok:CheckOk p) {l:List Box} {m:Nat->Nat} (hr:IsNar zaM p.facts.xs p.boxes.xs (some l)) (hm:IsCls (zaV p.facts.xs) p.boxes.xs.length m) (hv:volL l (zak m p.boxes.xs.length)<=65536) {q:Sl Box} (hq:q.xs=l) {g:List Nat} (hg:g∈zak m p.boxes.xs.length):LookIn p q g:=by
 have hd:=zhO hm (zeF ok);have hlen:l.length=p.boxes.xs.length:=hr.1.sub.1;obtain ⟨i,hi,hri,rfl⟩:=mem_parts.1 hg;have hpo:=zoh hm (zeF ok) (zkj ok) hi hri;have h1:=hd.one _ hg;have hpl:=zgI m p.boxes.xs.length
 refine ⟨ok,by rw [hq];exact hr.1.sub,by rw [hq];exact hr.1.wf,h1.1,fun k hk=>by rw [hq,hlen];exact h1.2 k hk,hpo.2.1,by have:=(hpl.2 _ hg).1;have:=ok.nb;omega,fun f hf ha=>hd.within f hf _ hg ha,fun h=>?_⟩
 rw [hq]
 refine Nat.le_trans (zm7 hr.1.wf (fun k hk=>by rw [hlen];exact h1.2 k hk) h ?_) (by decide)
 have:=zjg (b:=l) (x:=0) hg;unfold volL at hv;omega
theorem sh35:G.shared 35=false:=by decide
theorem e35 (n:Nat) (p:Problem) (ok:CheckOk p) (D:FoundD) (e:Int) (h:FindOut p D e):zI G (n+51) 35 [.agg p.cells]=some (.tup [.agg D.cells,.int .i64 e]):=by
 refine zA (zB _) rfl g35 rfl ?_
 rcases h with ⟨hr,rfl,rfl⟩|⟨l,m,hr,hm,h⟩
 ·have hn:=fun H=>zh (G:=G) (n:=n+50) (H:=H) (caps:=[]) (ps:=[.agg p.cells]) sh23 (e23 (n+43) p ok none hr);have hnone:zfk p none=.nils:=rfl;rw [hnone] at hn;simp only [Problem.cells,List.map_cons,List.map_nil] at hn;clear hr hnone;(repeat' first|simp [*,zb,c35,Problem.cells]|(apply za<;>intro _ h<;>try simp [-Nat.le_zero_eq] at h)|(show wpE 0 (zi ..) ..;refine zt ?_)|(refine zk fun v2 H2 hv2 hnx2 hget2 hnew2 hone2 hcel2=>?_))
 ·have hl:l.length=p.boxes.xs.length:=hr.1.sub.1;obtain ⟨q,hq,hqx⟩:=zpO hl;have hn:=fun H=>zh (G:=G) (n:=n+50) (H:=H) (caps:=[]) (ps:=[.agg p.cells]) sh23 (e23 (n+43) p ok (some l) hr);have hp:=fun H=>zh (G:=G) (n:=n+50) (H:=H) (caps:=[]) (ps:=[.agg p.cells]) sh54 (e54 (n+48) p ok m hm);have hpo:=zgI m p.boxes.xs.length;have nb:=ok.nb;have hv:=fun H=>zh (G:=G) (n:=n+50) (H:=H) (caps:=[]) (ps:=[q.pv Box.cells 4,(Sl.of (zak m p.boxes.xs.length)).pv ze0 1]) sh55 (e55 (n+48) q (Sl.of (zak m p.boxes.xs.length)) (by rw [hqx];omega) (by rw [Sl.xs_of];omega) (by rw [hqx];exact zb0 ok hr.1.sub hr.1.wf) (by rw [Sl.xs_of,hqx,hl];exact fun x hx=>⟨by have:=(hpo.2 x hx).1;omega,(hpo.2 x hx).2⟩));have hlk:=Hide.mk (fun (hvol:volL l (zak m p.boxes.xs.length)<=65536) (g:List Nat) (hg:g∈zak m p.boxes.xs.length) H=>zh (G:=G) (n:=n+50) (H:=H) (caps:=[]) (ps:=[.agg p.cells,q.pv Box.cells 4,zac g]) sh56 (e56 n p q g (zoz ok hr hm hvol hqx hg)));rw [hqx] at hlk;rw [zln] at hp;rw [Sl.xs_of,hqx] at hv;have hps:Hide ((zak m p.boxes.xs.length).length<=12):=⟨by omega⟩
  generalize zak m p.boxes.xs.length=gs at *;rcases h with ⟨hvol,rfl,rfl⟩|⟨hvol,hDe,rfl⟩
  ·have hvol':65536 < volL l gs:=hvol;rw [hq] at hn;simp only [Problem.cells,List.map_cons,List.map_nil] at hn hp hv;clear hr hm hpo hqx hq ok nb hl hlk hvol;generalize volL l gs=x at *;generalize q.pv Box.cells 4=y at *;generalize (Sl.of gs).pv ze0 1=w at *;(repeat' first|simp [*,zb,c35,Problem.cells]|(apply za<;>intro _ h<;>try simp [-Nat.le_zero_eq] at h)|(show wpE 0 (zi ..) ..;refine zt ?_)|(refine zk fun v2 H2 hv2 hnx2 hget2 hnew2 hone2 hcel2=>?_))
  ·have hvol':¬ 65536 < volL l gs:=by omega
   have hlk2:=Hide.mk (hlk.h hvol);rw [hq] at hn;simp only [Problem.cells,List.map_cons,List.map_nil] at hn hp hv;clear hr hm hpo hqx hq ok nb hl hlk hvol;generalize volL l gs=x at *;generalize hy:q.pv Box.cells 4=y at *;obtain ⟨s,hs⟩:∃ s,s=Sl.of gs:=⟨_,rfl⟩
   have hsx:s.xs=gs:=by rw [hs,Sl.xs_of]
   rw [<- hs] at hp hv;have hsl:s.xs.length<=12:=by rw [hsx];exact hps.h
   have hsxH:=Hide.mk hsx;have hDeH:=Hide.mk hDe;clear hs hsx hy hDe;(repeat' first|simp [*,zb,c35,Problem.cells]|(apply za<;>intro _ h<;>try simp [-Nat.le_zero_eq] at h)|(show wpE 0 (zi ..) ..;refine zt ?_)|(refine zk fun v2 H2 hv2 hnx2 hget2 hnew2 hone2 hcel2=>?_))
   refine zz [(9,10),(28,52)] (fun (i:Nat) env H=>env 28=.pure (.int .i64 i)/\i<=s.xs.length/\1 < H.nx/\H.get 0=.cells true [.pure (.bool false),.pure .nils]/\∃ V,H.get 1=.cells true [.pure (.bool (zbR ((gs.map (zai p.facts.xs l)).take i))),V]/\Hide (GrowV zbV 1 H V ((gs.map (zai p.facts.xs l)).take i)/\∀ id,Names V id->1 < id)) (fun i=>s.xs.length - i) 0 ?_ ?_ ?_ ?_
   ·decide
   ·exact ⟨by simp,by omega,by simp,by simp,.pure .nils,by simp [zbR],⟨by simpa using GrowV.nil,fun id ⟨_,_,_,h⟩=>by simp at h⟩⟩
   ·simp only [zx];omega
   rintro i env H ⟨g28,hi,hnx,h0,V,h1,hV⟩;generalize hb:zbR ((gs.map (zai p.facts.xs l)).take i)=b at *
   by_cases hlt:i < s.xs.length
   ·have w1:IntKind.i64.wrap ((i:Int)+1)=(i+1:Nat):=by rw [wrap64 (by omega) (by omega)];omega
    have hltI:(i:Int) < s.xs.length:=by omega
    have hig:i < gs.length:=by rw [<- hsxH.h];exact hlt
    have hme:s.xs[i]∈gs:=by rw [<- hsxH.h];exact List.getElem_mem hlt
    have hlk3:=hlk2.h s.xs[i] hme;have hnext:(gs.map (zai p.facts.xs l)).take (i+1)=(gs.map (zai p.facts.xs l)).take i++[zai p.facts.xs l s.xs[i]]:=by
     have e:=hsxH.h;subst e;rw [List.take_add_one,List.getElem?_eq_getElem (by simpa using hlt)];simp
    obtain ⟨g,hg⟩:∃ g,s.xs[i]=g:=⟨_,rfl⟩
    rw [hg] at hlk3 hnext;have hnb:Hide (zbR ((gs.map (zai p.facts.xs l)).take (i+1))=(b||decide (((zai p.facts.xs l g).n:Int)=0))):=⟨by
     rw [hnext,zjo,hb]⟩
    have hlen:((gs.map (zai p.facts.xs l)).take i).length<=12:=by rw [List.length_take];have:=hps.h;omega
    have hnextH:=Hide.mk hnext;generalize zai p.facts.xs l g=D' at *;generalize (gs.map (zai p.facts.xs l)).take i=L at *;simp only [Problem.cells,zeg,List.map_cons,List.map_nil] at hlk3;have hVo:=hV.h.1.1.one;have hVo1:=hVo.1;have hVo2:=hVo.2;have hpvE:D'.pv=.ptr false [zac D'.part,.int .i64 D'.n,.slice false 4 (chunks 4 D'.part.length (D'.ends.map zX)),zX D'.first] 0:=rfl;have hDH:=Hide.mk hpvE;rw [hpvE] at hlk3;clear hlk2 hnext hb hVo hpvE;obtain ⟨pp,hpp⟩:∃ pp,pp=zac D'.part:=⟨_,rfl⟩
    obtain ⟨cc,hcc⟩:∃ cc,cc=chunks 4 D'.part.length (D'.ends.map zX):=⟨_,rfl⟩
    obtain ⟨oo,hoo⟩:∃ oo,oo=zX D'.first:=⟨_,rfl⟩
    have hDc:Hide (D'.pv=.ptr false [pp,.int .i64 D'.n,.slice false 4 cc,oo] 0):=⟨by rw [hDH.h,<- hpp,<- hcc,<- hoo]⟩
    rw [<- hpp,<- hcc,<- hoo] at hlk3;have hseE:zbV D'=[D'.pv]:=rfl;rw [hDc.h] at hseE;obtain ⟨nn,hnn⟩:∃ nn:Int,nn=D'.n:=⟨_,rfl⟩
    rw [<- hnn] at hlk3 hnb hseE;have hseH:=Hide.mk hseE;clear hnn hseE;clear hpp hcc hoo hDH
    cases b with
    | true =>
     have hnb2:Hide (zbR ((gs.map (zai p.facts.xs l)).take (i+1))=true):=⟨by rw [hnb.h];rfl⟩
     clear hnb;(repeat' first|simp [*,zb,ze0]|(apply za<;>intro _ h<;>try simp [-Nat.le_zero_eq] at h)|(show wpE 0 (zi ..) ..;refine zt ?_)|(refine zk fun v2 H2 hv2 hnx2 hget2 hnew2 hone2 hcel2=>?_))
     refine zaE (f:=zbV) (sz:=1) (l:=L) ((hV.h.1.set (fun hn=>by have:=hV.h.2 1 hn;omega) _).alloc _) (fun _=>rfl) (by decide) (fun _=>rfl) (by unfold zn;omega) ⟨D',by rw [hseH.h];simp,?_⟩
     intro V4 H4 hg4 ha;have hV4:Hide (GrowV zbV 1 H4 V4 ((gs.map (zai p.facts.xs l)).take (i+1))/\∀ id,Names V4 id->1 < id):=⟨by rw [hnextH.h];exact hg4,fun id hn=>by have:=ha.new id hn;simp at this;omega⟩
     have g0:H4.get 0=.cells true [.pure (.bool false),.pure .nils]:=by
      rw [ha.get 0 (by rw [zaj,zaL];omega) (fun hn=>by have:=hV.h.2 0 hn;omega),zf (by rw [zaL];omega),zg (by omega)];exact h0
     have g1:H4.get 1=.cells true [.pure (.bool true),V]:=by
      rw [ha.get 1 (by rw [zaj,zaL];omega) (fun hn=>by have:=hV.h.2 1 hn;omega),zf (by rw [zaL];omega),zP hnx]
     have gn:1 < H4.nx:=by have:=ha.nx;simp at this;omega
     have o4:=hg4.1.one;have o4a:=o4.1;have o4b:=o4.2;clear hg4 ha o4 hV;(repeat' first|simp [*,zb]|(apply za<;>intro _ h<;>try simp [-Nat.le_zero_eq] at h)|(show wpE 0 (zi ..) ..;refine zt ?_)|(refine zk fun v2 H2 hv2 hnx2 hget2 hnew2 hone2 hcel2=>?_));exact ⟨i+1,by omega,by omega,by omega,V4,⟨hnb2.h,rfl⟩,⟨hV4.h.1.set (fun hn=>by have:=hV4.h.2 1 hn;omega) _,hV4.h.2⟩⟩
    | false =>
     by_cases hz:nn=0
     ·have hnb2:Hide (zbR ((gs.map (zai p.facts.xs l)).take (i+1))=true):=⟨by rw [hnb.h,decide_eq_true hz];rfl⟩
      subst hz;clear hnb;(repeat' first|simp [*,zb,ze0]|(apply za<;>intro _ h<;>try simp [-Nat.le_zero_eq] at h)|(show wpE 0 (zi ..) ..;refine zt ?_)|(refine zk fun v2 H2 hv2 hnx2 hget2 hnew2 hone2 hcel2=>?_))
      refine zaE (f:=zbV) (sz:=1) (l:=L) ((hV.h.1.set (fun hn=>by have:=hV.h.2 1 hn;omega) _).alloc _) (fun _=>rfl) (by decide) (fun _=>rfl) (by unfold zn;omega) ⟨D',by rw [hseH.h];simp,?_⟩
      intro V4 H4 hg4 ha;have hV4:Hide (GrowV zbV 1 H4 V4 ((gs.map (zai p.facts.xs l)).take (i+1))/\∀ id,Names V4 id->1 < id):=⟨by rw [hnextH.h];exact hg4,fun id hn=>by have:=ha.new id hn;simp at this;omega⟩
      have g0:H4.get 0=.cells true [.pure (.bool false),.pure .nils]:=by
       rw [ha.get 0 (by rw [zaj,zaL];omega) (fun hn=>by have:=hV.h.2 0 hn;omega),zf (by rw [zaL];omega),zg (by omega)];exact h0
      have g1:H4.get 1=.cells true [.pure (.bool true),V]:=by
       rw [ha.get 1 (by rw [zaj,zaL];omega) (fun hn=>by have:=hV.h.2 1 hn;omega),zf (by rw [zaL];omega),zP hnx]
      have gn:1 < H4.nx:=by have:=ha.nx;simp at this;omega
      have o4:=hg4.1.one;have o4a:=o4.1;have o4b:=o4.2;clear hg4 ha o4 hV;(repeat' first|simp [*,zb]|(apply za<;>intro _ h<;>try simp [-Nat.le_zero_eq] at h)|(show wpE 0 (zi ..) ..;refine zt ?_)|(refine zk fun v2 H2 hv2 hnx2 hget2 hnew2 hone2 hcel2=>?_));exact ⟨i+1,by omega,by omega,by omega,V4,⟨hnb2.h,rfl⟩,⟨hV4.h.1.set (fun hn=>by have:=hV4.h.2 1 hn;omega) _,hV4.h.2⟩⟩
     ·have hnb2:Hide (zbR ((gs.map (zai p.facts.xs l)).take (i+1))=false):=⟨by rw [hnb.h,decide_eq_false hz];rfl⟩
      clear hnb;(repeat' first|simp [*,zb,ze0]|(apply za<;>intro _ h<;>try simp [-Nat.le_zero_eq] at h)|(show wpE 0 (zi ..) ..;refine zt ?_)|(refine zk fun v2 H2 hv2 hnx2 hget2 hnew2 hone2 hcel2=>?_))
      refine zaE (f:=zbV) (sz:=1) (l:=L) ((hV.h.1.set (fun hn=>by have:=hV.h.2 1 hn;omega) _).alloc _) (fun _=>rfl) (by decide) (fun _=>rfl) (by unfold zn;omega) ⟨D',by rw [hseH.h];simp,?_⟩
      intro V4 H4 hg4 ha;have hV4:Hide (GrowV zbV 1 H4 V4 ((gs.map (zai p.facts.xs l)).take (i+1))/\∀ id,Names V4 id->1 < id):=⟨by rw [hnextH.h];exact hg4,fun id hn=>by have:=ha.new id hn;simp at this;omega⟩
      have g0:H4.get 0=.cells true [.pure (.bool false),.pure .nils]:=by
       rw [ha.get 0 (by rw [zaj,zaL];omega) (fun hn=>by have:=hV.h.2 0 hn;omega),zf (by rw [zaL];omega),zg (by omega)];exact h0
      have g1:H4.get 1=.cells true [.pure (.bool false),V]:=by
       rw [ha.get 1 (by rw [zaj,zaL];omega) (fun hn=>by have:=hV.h.2 1 hn;omega),zf (by rw [zaL];omega),zP hnx]
      have gn:1 < H4.nx:=by have:=ha.nx;simp at this;omega
      have o4:=hg4.1.one;have o4a:=o4.1;have o4b:=o4.2;clear hg4 ha o4 hV;(repeat' first|simp [*,zb]|(apply za<;>intro _ h<;>try simp [-Nat.le_zero_eq] at h)|(show wpE 0 (zi ..) ..;refine zt ?_)|(refine zk fun v2 H2 hv2 hnx2 hget2 hnew2 hone2 hcel2=>?_));exact ⟨i+1,by omega,by omega,by omega,V4,⟨hnb2.h,rfl⟩,⟨hV4.h.1.set (fun hn=>by have:=hV4.h.2 1 hn;omega) _,hV4.h.2⟩⟩
   ·have hiN:i=s.xs.length:=by omega
    subst hiN;have hall:(gs.map (zai p.facts.xs l)).take s.xs.length=gs.map (zai p.facts.xs l):=by
     rw [hsxH.h];exact List.take_of_length_le (by simp)
    rw [hall] at hb hV;have hres:Hide (∀ o,FrzK (H.set 0 o) false 10 V ((Sl.of (gs.map (zai p.facts.xs l))).pv zbV 1)):=⟨fun o=>(hV.h.1.set (fun hn=>by have:=hV.h.2 0 hn;omega) o).res (n:=8) (fun _=>rfl)⟩
    have hVo:=hV.h.1.1.one;have hVo1:=hVo.1;have hVo2:=hVo.2;have hDe:=hDeH.h;rw [hb] at hDe;have hDb:D.empty=b:=by rw [hDe]
    have hDs:Hide (D.seens=gs.map (zai p.facts.xs l)):=⟨by rw [hDe]⟩
    have hDeH2:=Hide.mk hDe;have h0n:0 < H.nx:=by omega
    obtain ⟨ids,hids⟩:=FrzK.aggV (n:=10) (FrzL.cons (FrzK.pure (.bool b)) (.cons (hres.h (.cells true [.pure (.bool b),V])) .nil));rw [<- hDs.h] at hids;clear hV hVo hlk2 hDeH hDe hb hall hres;(repeat' first|simp [*,zb]|(apply za<;>intro _ h<;>try simp [-Nat.le_zero_eq] at h)|(show wpE 0 (zi ..) ..;refine zt ?_)|(refine zk fun v2 H2 hv2 hnx2 hget2 hnew2 hone2 hcel2=>?_))
def SolvedOut (p:Problem) (D:FoundD) (e:Int):Prop:=(zaZ p≠0/\D=⟨false,[]⟩/\e=zaZ p)\/(zaZ p=0/\FindOut p D e)
theorem sh24:G.shared 24=false:=by decide
theorem e24 (n:Nat) (p:Problem) (D:FoundD) (e:Int) (h:SolvedOut p D e):zI G (n+52) 24 [.agg p.cells]=some (.tup [.agg D.cells,.int .i64 e]):=by
 refine zA (zB _) rfl g24 rfl ?_
 have hc:=fun H=>zh (G:=G) (n:=n+51) (H:=H) (caps:=[]) (ps:=[.agg p.cells]) sh6 (e6 (n+48) p);rcases h with ⟨h0,rfl,rfl⟩|⟨h0,hf⟩
 ·generalize zaZ p=c at *;simp only [Problem.cells,List.map_cons,List.map_nil] at hc;(repeat' first|simp [*,zb,c24,Problem.cells]|(apply za<;>intro _ h<;>try simp [-Nat.le_zero_eq] at h))
 ·have hn:=fun H=>zh (G:=G) (n:=n+51) (H:=H) (caps:=[]) (ps:=[.agg p.cells]) sh35 (e35 n p (check_ok.1 h0) D e hf);rw [h0] at hc;obtain ⟨De,Ds⟩:=D;simp only [Problem.cells,FoundD.cells,List.map_cons,List.map_nil] at hc hn ⊢;clear h0 hf;(repeat' first|simp [*,zb,c24,Problem.cells]|(apply za<;>intro _ h<;>try simp [-Nat.le_zero_eq] at h))
def endP (s:SeenD) (j k:Nat):Pt:=match s.ends[j]! with
 | some c=>c[k]!
 | none=>⟨0,0⟩
def zn3 (s:SeenD) (k:Nat):Box:=⟨⟨(endP s (4*k) k).x,(endP s (4*k+1) k).x⟩,⟨(endP s (4*k+2) k).y,(endP s (4*k+3) k).y⟩⟩
def za8 (pt:Nat):List SeenD->Nat->Box×Int×Int
 | [],_=>(⟨⟨0,0⟩,⟨0,0⟩⟩,-1,-1)
 | s::ss,i=>if pt∈s.part then (zn3 s (s.part.idxOf pt),(i:Int),(s.part.idxOf pt:Nat)) else za8 pt ss (i+1)
structure SeenGood (s:SeenD):Prop where
 few:s.part.length<=12
 len:s.ends.length=4*s.part.length
 all:∀ o∈s.ends,∃ c,o=some c/\c.length=s.part.length
theorem SeenGood.at {s:SeenD} (h:SeenGood s) {j k:Nat} (hj:j < s.ends.length) (hk:k < s.part.length):∃ (c:List Pt) (hc:k < c.length),s.ends[j]=some c/\endP s j k=c[k]:=by
 obtain ⟨c,h1,h2⟩:=h.all _ (List.getElem_mem hj)
 refine ⟨c,by omega,h1,?_⟩
 unfold endP;rw [getElem!_pos s.ends j hj,h1];simp only;rw [getElem!_pos c k (by omega)]
theorem zfm {c:List Pt} {k:Nat} (h:k < c.length):zcn 2 (.pure (zX (some c))) (.pure (.int .i64 k))=some (.val (.pure (.ptr false [.int .i64 c[k].x,.int .i64 c[k].y] 0))):=by
 have:=zju (k:=.i64) (f:=Pt.cells) (sz:=2) (s:=Sl.mk false c) (n:=k) (by simpa using h)
 simpa [zX,Sl.hot] using this
theorem zq9 {α:Type} {L:List α} {k:Nat} (h:4*k+3 < L.length):(L.drop (4*k)).take 4=[L[4*k],L[4*k+1],L[4*k+2],L[4*k+3]]:=by
 refine List.ext_getElem (by simp;omega) fun i h1 h2=>?_
 have:i=0\/i=1\/i=2\/i=3:=by simp at h2;omega
 rcases this with rfl|rfl|rfl|rfl<;>simp
theorem sh25:G.shared 25=false:=by decide
theorem e25 (n:Nat) (D:FoundD) (pt:Nat) (hl:D.seens.length<=12) (hg:∀ s∈D.seens,SeenGood s):zI G (n+2) 25 [.agg D.cells,.int .i64 pt]=some (.tup [.agg (za8 pt D.seens 0).1.cells,.int .i64 (za8 pt D.seens 0).2.1,.int .i64 (za8 pt D.seens 0).2.2]):=by
 refine zA (zB _) rfl g25 rfl ?_
 obtain ⟨R,hR⟩:∃ R,za8 pt D.seens 0=R:=⟨_,rfl⟩
 rw [hR];have hRH:=Hide.mk hR;have hgH:=Hide.mk hg;clear hR hg;obtain ⟨De,Ds⟩:=D;simp only [FoundD.cells] at *;obtain ⟨s,hs⟩:∃ s,s=Sl.of Ds:=⟨_,rfl⟩
 have hsx:s.xs=Ds:=by rw [hs,Sl.xs_of]
 rw [<- hs];rw [<- hsx] at hgH hRH hl;clear hs hsx;(repeat' first|simp [*,zb,c25,zan]|(apply za<;>intro _ h<;>try simp [-Nat.le_zero_eq] at h))
 refine zz [(5,10),(14,63)] (fun (i:Nat) env H=>env 14=.pure (.int .i64 i)/\i<=s.xs.length/\H.get 0=.cells true [.pure (.int .i64 0),.pure (.int .i64 0),.pure (.int .i64 0),.pure (.int .i64 0)]/\Hide (za8 pt (s.xs.drop i) i=R)) (fun i=>s.xs.length - i) 0 ?_ ?_ ?_ ?_
 ·decide
 ·exact ⟨by simp,by omega,by simp,by simpa using hRH⟩
 ·simp only [zx];omega
 clear hRH;rintro i env H ⟨g14,hi,h0,hR⟩;have hn0:=zC h0;have hne0:(0:Nat)≠H.nx:=by omega
 by_cases hlt:i < s.xs.length
 ·have w1:IntKind.i64.wrap ((i:Int)+1)=(i+1:Nat):=by rw [wrap64 (by omega) (by omega)];omega
  have hltI:(i:Int) < s.xs.length:=by omega
  have hD:=hgH.h _ (List.getElem_mem hlt);have hd:=List.drop_eq_getElem_cons hlt;rw [hd] at hR;have hR1:=hR.h;unfold za8 at hR1;obtain ⟨D',hD'⟩:∃ D',s.xs[i]=D':=⟨_,rfl⟩
  rw [hD'] at hR1 hD;have hse:zbV s.xs[i]=[.ptr false [zac D'.part,.int .i64 D'.n,.slice false 4 (chunks 4 D'.part.length (D'.ends.map zX)),zX D'.first] 0]:=by rw [hD'];rfl
  have c1:=fun H=>zh (G:=G) (n:=n+1) (H:=H) (caps:=[]) (ps:=[(Sl.mk false (zY D'.part)).pv intF 1,.int .i64 pt]) sh51 (e51 n (Sl.mk false (zY D'.part)) pt (idxI D'.part pt) (by rw [Sl.xs_mk,zaw];have:=hD.few;omega) (zgc D'.part pt));rw [<- zeg] at c1;simp only [List.map_cons,List.map_nil] at c1
  by_cases hm:pt∈D'.part
  ·rw [if_pos hm] at hR1;have hk:=List.idxOf_lt_length_of_mem hm;rw [zf9 (by omega) (by simpa using hm)] at c1;simp only [Int.toNat_natCast] at c1;generalize D'.part.idxOf pt=k at *;have hlen:=hD.len;obtain ⟨a0,q0,z0,y0⟩:=hD.at (j:=4*k) (k:=k) (by omega) hk;obtain ⟨a1,q1,z1,y1⟩:=hD.at (j:=4*k+1) (k:=k) (by omega) hk;obtain ⟨a2,q2,z2,y2⟩:=hD.at (j:=4*k+2) (k:=k) (by omega) hk;obtain ⟨a3,q3,z3,y3⟩:=hD.at (j:=4*k+3) (k:=k) (by omega) hk;have hca:zcn 4 (.pure (.slice false 4 (chunks 4 D'.part.length (D'.ends.map zX)))) (.pure (.int .i64 k))=some (.val (.pure (.ptr false [zX (some a0),zX (some a1),zX (some a2),zX (some a3)] 0))):=by
    refine zeJ ?_
    rw [zhK _ _ _ hk,zq9 (by simp;omega)];simp [z0,z1,z2,z3]
   have hb:zn3 D' k=⟨⟨a0[k].x,a1[k].x⟩,⟨a2[k].y,a3[k].y⟩⟩:=by unfold zn3;rw [y0,y1,y2,y3]
   rw [hb] at hR1;have d0:=zfm q0;have d1:=zfm q1;have d2:=zfm q2;have d3:=zfm q3;subst hR1;have hkI:¬ (k:Int) < 0:=by omega
   clear hR hd hD' hgH hD hb y0 y1 y2 y3 z0 z1 z2 z3 hm;generalize a0[k]=b0 at *;generalize a1[k]=b1 at *;generalize a2[k]=b2 at *;generalize a3[k]=b3 at *;generalize zac D'.part=pp at *;generalize (chunks 4 D'.part.length (D'.ends.map zX))=cc at *;generalize zX D'.first=oo at *;generalize (D'.n:Int)=nn at *;(repeat' first|simp [*,zb,zan,zcx,zjj]|(apply za<;>intro _ h<;>try simp [-Nat.le_zero_eq] at h))
  ·rw [if_neg hm] at hR1;have hi1:idxI D'.part pt=-1:=by
    have h1:=zgc D'.part pt;rcases h1 with ⟨q,hq,_,e,_⟩|⟨h1,_⟩
    ·exfalso;apply hm;have:=List.getElem_mem hq;rw [e] at this;have:=(zkb (part:=D'.part) (x:=pt) (by omega)).1 this
     simpa using this
    ·exact h1
   rw [hi1] at c1;have hR1H:=Hide.mk hR1;clear hR hR1 hd hD' hgH hD hm;generalize zac D'.part=pp at *;generalize (chunks 4 D'.part.length (D'.ends.map zX))=cc at *;generalize zX D'.first=oo at *;generalize (D'.n:Int)=nn at *;(repeat' first|simp [*,zb,zan]|(apply za<;>intro _ h<;>try simp [-Nat.le_zero_eq] at h));exact ⟨i+1,by omega,by omega,by omega,hR1H⟩
 ·have hiN:i=s.xs.length:=by omega
  subst hiN;rw [List.drop_length] at hR;have hR1:=hR.h;unfold za8 at hR1;subst hR1;clear hR hgH;(repeat' first|simp [*,zb]|(apply za<;>intro _ h<;>try simp [-Nat.le_zero_eq] at h))
def zfY (D:FoundD) (e:Int) (N:Nat):List Box×Int:=if e≠0 then ([],e) else if D.empty=true then ([],9) else ((List.range N).map fun i=>(za8 i D.seens 0).1,0)
theorem e8 (n:Nat) (p:Problem) (D:FoundD) (e:Int) (h:SolvedOut p D e) (hb:p.boxes.xs.length<=12\/e≠0) (hl:D.seens.length<=12) (hg:D.empty=false->∀ s∈D.seens,SeenGood s):zI G (n+53) 8 [.agg p.cells]=some (.tup [(Sl.of (zfY D e p.boxes.xs.length).1).pv Box.cells 4,.int .i64 (zfY D e p.boxes.xs.length).2]):=by
 refine zA (zB _) rfl g8 rfl ?_
 have hn:=fun H=>zh (G:=G) (n:=n+52) (H:=H) (caps:=[]) (ps:=[.agg p.cells]) sh24 (e24 n p D e h);simp only [Problem.cells,FoundD.cells,List.map_cons,List.map_nil] at hn;clear h
 by_cases h1:e=0
 case neg =>
  have hr:zfY D e p.boxes.xs.length=([],e):=by unfold zfY;rw [if_pos h1]
  rw [hr];clear hr hg;(repeat' first|simp [*,zb,c8,Problem.cells]|(apply za<;>intro _ h<;>try simp [-Nat.le_zero_eq] at h)|(show wpE 0 (zi ..) ..;refine zt ?_)|(refine zk fun v2 H2 hv2 hnx2 hget2 hnew2 hone2 hcel2=>?_))
 case pos =>
  subst h1
  cases hD:D.empty with
  | true =>
   have hr:zfY D 0 p.boxes.xs.length=([],9):=by unfold zfY;rw [if_neg (by simp),if_pos hD]
   rw [hr];rw [hD] at hn;clear hr hg;(repeat' first|simp [*,zb,c8,Problem.cells]|(apply za<;>intro _ h<;>try simp [-Nat.le_zero_eq] at h)|(show wpE 0 (zi ..) ..;refine zt ?_)|(refine zk fun v2 H2 hv2 hnx2 hget2 hnew2 hone2 hcel2=>?_))
  | false =>
   have hr:zfY D 0 p.boxes.xs.length=((List.range p.boxes.xs.length).map fun i=>(za8 i D.seens 0).1,0):=by unfold zfY;rw [if_neg (by simp),if_neg (by simp [hD])]
   rw [hr];have hN:p.boxes.xs.length<=12:=by rcases hb with h|h;exact h;exact absurd rfl h
   have hcall:=Hide.mk (fun (i:Nat) H=>zh (G:=G) (n:=n+52) (H:=H) (caps:=[]) (ps:=[.agg D.cells,.int .i64 i]) sh25 (e25 (n+50) D i hl (hg hD)));simp only [FoundD.cells,hD,List.map_cons,List.map_nil] at hcall;rw [hD] at hn;clear hr hg hb;have hto:∀ i,((List.range (i+1)).map fun i=>(za8 i D.seens 0).1)=((List.range i).map fun i=>(za8 i D.seens 0).1)++[(za8 i D.seens 0).1]:=fun i=>by rw [List.range_succ,List.map_append];rfl
   have hlenR:∀ i,((List.range i).map fun i=>(za8 i D.seens 0).1).length=i:=fun i=>by simp
   have htoH:=Hide.mk hto;have hlenH:=Hide.mk hlenR;have h00:Hide (((List.range 0).map fun i=>(za8 i D.seens 0).1)=[]):=⟨rfl⟩
   obtain ⟨hu,hhu⟩:∃ hu:Nat->Box×Int×Int,hu=fun i=>za8 i D.seens 0:=⟨_,rfl⟩
   obtain ⟨T,hT⟩:∃ T:Nat->List Box,T=fun i=>(List.range i).map fun i=>(za8 i D.seens 0).1:=⟨_,rfl⟩
   have hT1:((List.range p.boxes.xs.length).map fun i=>(za8 i D.seens 0).1)=T p.boxes.xs.length:=by rw [hT]
   rw [hT1];have hTn:Hide (∀ i,T (i+1)=T i++[(hu i).1]):=⟨fun i=>by rw [hT,hhu];exact htoH.h i⟩
   have hTl:Hide (∀ i,(T i).length=i):=⟨fun i=>by rw [hT];exact hlenH.h i⟩
   have hT0:Hide (T 0=[]):=⟨by rw [hT];rfl⟩
   have hcall2:Hide (∀ (i:Nat) H,zM (zq G (n+52)) H (.pure (.func 25 [])) [.pure (.agg [.bool false,(Sl.of D.seens).pv zbV 1]),.pure (.int .i64 i)]=some (.val (.pure (.tup [.agg (hu i).1.cells,.int .i64 (hu i).2.1,.int .i64 (hu i).2.2])))):=⟨fun i H=>by rw [hhu];exact hcall.h i H⟩
   clear hto hlenR htoH hlenH hT hhu hT1 hcall h00 hD;(repeat' first|simp [*,zb,c8,Problem.cells]|(apply za<;>intro _ h<;>try simp [-Nat.le_zero_eq] at h)|(show wpE 0 (zi ..) ..;refine zt ?_)|(refine zk fun v2 H2 hv2 hnx2 hget2 hnew2 hone2 hcel2=>?_))
   refine zz [(6,10),(26,40)] (fun (i:Nat) env H=>env 26=.pure (.int .i64 i)/\i<=p.boxes.xs.length/\0 < H.nx/\H.get 0=.cells true [.pure (.bool false),.pure ((Sl.of D.seens).pv zbV 1)]/\∃ V,env 6=V/\Hide (GrowV Box.cells 4 H V (T i)/\∀ id,Names V id->0 < id)) (fun i=>p.boxes.xs.length - i) 0 ?_ ?_ ?_ ?_
   ·decide
   ·exact ⟨by simp,by omega,by simp,by simp,.pure .nils,by simp,⟨by rw [hT0.h];exact GrowV.nil,fun id ⟨_,_,_,h⟩=>by simp at h⟩⟩
   ·simp only [zx];omega
   rintro i env H ⟨g26,hi,hnx,h0,V,g6,hV⟩
   by_cases hlt:i < p.boxes.xs.length
   ·have w1:IntKind.i64.wrap ((i:Int)+1)=(i+1:Nat):=by rw [wrap64 (by omega) (by omega)];omega
    have hltI:(i:Int) < p.boxes.xs.length:=by omega
    have hc:=hcall2.h i;have hTn1:=Hide.mk (hTn.h i);have hTl1:=Hide.mk (hTl.h i);generalize hu i=hui at *;obtain ⟨⟨⟨x0,x1⟩,⟨y0,y1⟩⟩,ii,kk⟩:=hui;simp only [Box.cells,Span.cells] at hc;have hVo:=hV.h.1.1.one;have hVo1:=hVo.1;have hVo2:=hVo.2;clear hcall2 hTn hTl hVo;(repeat' first|simp [*,zb,Box.cells,Span.cells]|(apply za<;>intro _ h<;>try simp [-Nat.le_zero_eq] at h)|(show wpE 0 (zi ..) ..;refine zt ?_)|(refine zk fun v2 H2 hv2 hnx2 hget2 hnew2 hone2 hcel2=>?_))
    refine zaE (f:=Box.cells) (sz:=4) (l:=T i) ((hV.h.1.setNew _ _).alloc _) (fun _=>rfl) (by decide) (fun _=>rfl) (by rw [hTl1.h];unfold zn;omega) ⟨⟨⟨x0,x1⟩,⟨y0,y1⟩⟩,by simp [Box.cells,Span.cells],?_⟩
    intro V4 H4 hg4 ha;have hV4:Hide (GrowV Box.cells 4 H4 V4 (T (i+1))/\∀ id,Names V4 id->0 < id):=⟨by rw [hTn1.h];exact hg4,fun id hn=>by have:=ha.new id hn;simp at this;omega⟩
    have g0:H4.get 0=.cells true [.pure (.bool false),.pure ((Sl.of D.seens).pv zbV 1)]:=by
     rw [ha.get 0 (by rw [zaj,zaL,zaj];omega) (fun hn=>by have:=hV.h.2 0 hn;omega),zf (by rw [zaL,zaj];omega),zg (by omega),zf hnx];exact h0
    have gn:0 < H4.nx:=by have:=ha.nx;simp at this;omega
    clear hg4 ha hV;(repeat' first|simp [*,zb]|(apply za<;>intro _ h<;>try simp [-Nat.le_zero_eq] at h)|(show wpE 0 (zi ..) ..;refine zt ?_)|(refine zk fun v2 H2 hv2 hnx2 hget2 hnew2 hone2 hcel2=>?_));exact ⟨i+1,by omega,by omega,by omega,hV4⟩
   ·have hiN:i=p.boxes.xs.length:=by omega
    subst hiN;obtain ⟨ids,hids⟩:=hV.h.1.res (n:=9) (fun _=>rfl);clear hcall2 hTn hTl hV;(repeat' first|simp [*,zb]|(apply za<;>intro _ h<;>try simp [-Nat.le_zero_eq] at h)|(show wpE 0 (zi ..) ..;refine zt ?_)|(refine zk fun v2 H2 hv2 hnx2 hget2 hnew2 hone2 hcel2=>?_))
end Go.Proofs.Ytleggocccaeemaa.Vm
