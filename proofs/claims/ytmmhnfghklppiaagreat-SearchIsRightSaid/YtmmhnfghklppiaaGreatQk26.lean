/- Narrow, Parts and Volume: the program's, walked. find and solved: what is seen of all parts, walked. solved, Count: the program's, walked. found.hull and Hull: the program's, walked. What find, Count, Hull and Decide say of the solutions. Plain Lean. A part without a solution: what its tree grows by, and that the tree fits. Plain Lean. The part that has no solution; walking through a tree. Plain Lean. The tree of the guilty part is small where the problem is tractable. Plain Lean. -/
import Derived.Test.YtmmhnfghklppiaaGreatQk23
import Derived.Test.YtmmhnfghklppiaaGreatQk25
import Derived.Test.YtmmhnfghklppiaaGreatQk18
import Derived.Test.YtmmhnfghklppiaaGreatQk9
namespace Go.Proofs.YtmmhnfghklppiaaGreat.Vm
open Go
set_option linter.unusedSimpArgs false
set_option linter.unusedVariables false
set_option maxHeartbeats 4000000
set_option maxRecDepth 4000
def errN (r:Option (List Box)):Int:=if r.isSome=true then 0 else 9
def zrB (p:Problem) (nar:Option (List Box)->PV) (v:PV) (e:Int):Prop:=(zX p≠0/\v=.nils/\e=zX p)\/(zX p=0/\∃ r,IsNar zah p.facts.xs p.boxes.xs r/\v=nar r/\e=errN r)
theorem sh31:G.shared 31=false:=by decide
theorem e31 (n:Nat) (p:Problem) (v:PV) (e:Int) (h:zrB p (zb5 p) v e):zH G (n+8) 31 [.agg p.cells]=some (.tup [v,.int .i64 e]):=by
 refine zy (zw _) rfl g31 rfl ?_
 have hc:=fun H=>ze (G:=G) (n:=n+7) (H:=H) (caps:=[]) (ps:=[.agg p.cells]) sh45 (e45 (n+4) p);rcases h with ⟨h0,rfl,rfl⟩|⟨h0,r,hr,rfl,rfl⟩
 ·generalize zX p=c at *;simp only [Problem.cells,List.map_cons,List.map_nil] at hc;(repeat' first|simp [*,za,c31,Problem.cells]|(apply zb<;>intro _ h<;>try simp [-Nat.le_zero_eq] at h))
 ·have hn:=fun H=>ze (G:=G) (n:=n+7) (H:=H) (caps:=[]) (ps:=[.agg p.cells]) sh62 (e62 n p (check_ok.1 h0) r hr);rw [h0] at hc;have hcd:(zb5 p r).cold=true:=by
   cases r with
   | none=>rfl
   | some l=>
    unfold zb5;simp only
    split
    ·rfl
    ·exact zdi l
  have hnone:r=none->zb5 p r=.nils:=fun h=>by subst h;rfl
  generalize hv:zb5 p r=v at *;simp only [Problem.cells,List.map_cons,List.map_nil] at hc hn;clear h0 hr
  cases hrs:r with
  | none =>
   have h9:=hnone hrs;subst hrs;subst h9;clear hv hnone;have e9:errN none=9:=rfl;(repeat' first|simp [*,za,c31,Problem.cells]|(apply zb<;>intro _ h<;>try simp [-Nat.le_zero_eq] at h))
  | some l =>
   subst hrs;clear hv hnone;have e9:errN (some l)=0:=rfl;(repeat' first|simp [*,za,c31,Problem.cells]|(apply zb<;>intro _ h<;>try simp [-Nat.le_zero_eq] at h))
theorem znG {p:Problem} {l:List Box} (hl:l.length=p.boxes.xs.length):∃ q:Sl Box,zb5 p (some l)=q.pv Box.cells 4/\q.xs=l:=by
 obtain ⟨bs,fs⟩:=p
 cases bs with
 | nil =>
  have:l=[]:=List.eq_nil_of_length_eq_zero hl;subst this;exact ⟨.nil,rfl,rfl⟩
 | mk h xs=>exact ⟨.mk false l,rfl,rfl⟩
theorem zeF (m:Nat->Nat) (n:Nat):(zad m n).length<=n/\∀ l∈zad m n,l.length<=n/\∀ k∈l,k < n:=by
 refine ⟨zg1 m n n,fun l hl=>?_⟩
 obtain ⟨i,_,_,rfl⟩:=mem_parts.1 hl;exact ⟨zhN m i n,fun k hk=>(mem_partL.1 hk).1⟩
structure FoundD where
 empty:Bool
 seens:List SeenD
def zcr (s:SeenD):List PV:=[s.pv]
@[simp] def FoundD.cells (D:FoundD):List PV:=[.bool D.empty,(Sl.of D.seens).pv zcr 1]
def zcb (L:List SeenD):Bool:=L.any fun s=>s.n == 0
theorem zly (L:List SeenD) (s:SeenD):zcb (L++[s])=(zcb L||decide ((s.n:Int)=0)):=by
 unfold zcb;rw [List.any_append];simp only [List.any_cons,List.any_nil,Bool.or_false]
 congr 1
 rw [Bool.eq_iff_iff];simp
def FindOut (p:Problem) (D:FoundD) (e:Int):Prop:=(IsNar zah p.facts.xs p.boxes.xs none/\D=⟨true,[]⟩/\e=0) \/
 ∃ l m,IsNar zah p.facts.xs p.boxes.xs (some l)/\IsCls (zaw p.facts.xs) p.boxes.xs.length m /\
  ((65536 < volL l (zad m p.boxes.xs.length)/\D=⟨false,[]⟩/\e=2) \/
   (volL l (zad m p.boxes.xs.length)<=65536/\D=⟨zcb ((zad m p.boxes.xs.length).map (zaf p.facts.xs l)),(zad m p.boxes.xs.length).map (zaf p.facts.xs l)⟩/\e=0))
theorem zh8 {b:List Box}:∀ {ps:List (List Nat)} {x:Int} {g:List Nat},g∈ps->volP b g<=ps.foldl (fun x l=>max x (volP b l)) x
 | a::ps,x,g,h=>by
  rw [List.foldl_cons];rcases List.mem_cons.1 h with rfl|h
  ·have mono:∀ (ps:List (List Nat)) (x:Int),x<=ps.foldl (fun x l=>max x (volP b l)) x:=by
    intro ps
    induction ps with
    | nil=>intro x;exact Int.le_refl _
    | cons a ps ih=>intro x;have:=ih (max x (volP b a));rw [List.foldl_cons];omega
   have:=mono ps (max x (volP b g));omega
  ·exact zh8 h
theorem zbe {p:Problem} (ok:CheckOk p):∀ f∈p.facts.xs,Named f p.boxes.xs.length:=fun f hf=>ziy (ok.fact f hf)
theorem zhJ {p:Problem} (ok:CheckOk p):∀ f∈p.facts.xs,f.a≠f.b/\(f.kind=2->f.c≠f.a):=fun f hf=>by
 have h:=(zaD f _).1 (ok.fact f hf)
 refine ⟨by omega,fun hk=>?_⟩
 have:=h.2.2.2.2.2.1 hk;omega
theorem zsF {p:Problem} (ok:CheckOk p) {l:List Box} {m:Nat->Nat} (hr:IsNar zah p.facts.xs p.boxes.xs (some l)) (hm:IsCls (zaw p.facts.xs) p.boxes.xs.length m) (hv:volL l (zad m p.boxes.xs.length)<=65536) {q:Sl Box} (hq:q.xs=l) {g:List Nat} (hg:g∈zad m p.boxes.xs.length):LookIn p q g:=by
 have hd:=zb7 hm (zbe ok);have hlen:l.length=p.boxes.xs.length:=hr.1.sub.1;obtain ⟨i,hi,hri,rfl⟩:=mem_parts.1 hg;have hpo:=zme hm (zbe ok) (zhJ ok) hi hri;have h1:=hd.one _ hg;have hpl:=zeF m p.boxes.xs.length
 refine ⟨ok,by rw [hq];exact hr.1.sub,by rw [hq];exact hr.1.wf,h1.1,fun k hk=>by rw [hq,hlen];exact h1.2 k hk,hpo.2.1,by have:=(hpl.2 _ hg).1;have:=ok.nb;omega,fun f hf ha=>hd.within f hf _ hg ha,fun h=>?_⟩
 rw [hq]
 refine Nat.le_trans (zrC hr.1.wf (fun k hk=>by rw [hlen];exact h1.2 k hk) h ?_) (by decide)
 have:=zh8 (b:=l) (x:=0) hg;unfold volL at hv;omega
theorem sh48:G.shared 48=false:=by decide
theorem e48 (n:Nat) (p:Problem) (ok:CheckOk p) (D:FoundD) (e:Int) (h:FindOut p D e):zH G (n+51) 48 [.agg p.cells]=some (.tup [.agg D.cells,.int .i64 e]):=by
 refine zy (zw _) rfl g48 rfl ?_
 rcases h with ⟨hr,rfl,rfl⟩|⟨l,m,hr,hm,h⟩
 ·have hn:=fun H=>ze (G:=G) (n:=n+50) (H:=H) (caps:=[]) (ps:=[.agg p.cells]) sh62 (e62 (n+43) p ok none hr);have hnone:zb5 p none=.nils:=rfl;rw [hnone] at hn;simp only [Problem.cells,List.map_cons,List.map_nil] at hn;clear hr hnone;(repeat' first|simp [*,za,c48,Problem.cells]|(apply zb<;>intro _ h<;>try simp [-Nat.le_zero_eq] at h)|(show wpE 0 (zk ..) ..;refine zx ?_)|(refine zl fun v2 H2 hv2 hnx2 hget2 hnew2 hone2 hcel2=>?_))
 ·have hl:l.length=p.boxes.xs.length:=hr.1.sub.1;obtain ⟨q,hq,hqx⟩:=znG hl;have hn:=fun H=>ze (G:=G) (n:=n+50) (H:=H) (caps:=[]) (ps:=[.agg p.cells]) sh62 (e62 (n+43) p ok (some l) hr);have hp:=fun H=>ze (G:=G) (n:=n+50) (H:=H) (caps:=[]) (ps:=[.agg p.cells]) sh95 (e95 (n+48) p ok m hm);have hpo:=zeF m p.boxes.xs.length;have nb:=ok.nb;have hv:=fun H=>ze (G:=G) (n:=n+50) (H:=H) (caps:=[]) (ps:=[q.pv Box.cells 4,(Sl.of (zad m p.boxes.xs.length)).pv zfg 1]) sh96 (e96 (n+48) q (Sl.of (zad m p.boxes.xs.length)) (by rw [hqx];omega) (by rw [Sl.xs_of];omega) (by rw [hqx];exact zbP ok hr.1.sub hr.1.wf) (by rw [Sl.xs_of,hqx,hl];exact fun x hx=>⟨by have:=(hpo.2 x hx).1;omega,(hpo.2 x hx).2⟩));have hlk:=Hide.mk (fun (hvol:volL l (zad m p.boxes.xs.length)<=65536) (g:List Nat) (hg:g∈zad m p.boxes.xs.length) H=>ze (G:=G) (n:=n+50) (H:=H) (caps:=[]) (ps:=[.agg p.cells,q.pv Box.cells 4,z8 g]) sh97 (e97 n p q g (zsF ok hr hm hvol hqx hg)));rw [hqx] at hlk;rw [zhO] at hp;rw [Sl.xs_of,hqx] at hv;have hps:Hide ((zad m p.boxes.xs.length).length<=12):=⟨by omega⟩
  generalize zad m p.boxes.xs.length=gs at *;rcases h with ⟨hvol,rfl,rfl⟩|⟨hvol,hDe,rfl⟩
  ·have hvol':65536 < volL l gs:=hvol;rw [hq] at hn;simp only [Problem.cells,List.map_cons,List.map_nil] at hn hp hv;clear hr hm hpo hqx hq ok nb hl hlk hvol;generalize volL l gs=x at *;generalize q.pv Box.cells 4=y at *;generalize (Sl.of gs).pv zfg 1=w at *;(repeat' first|simp [*,za,c48,Problem.cells]|(apply zb<;>intro _ h<;>try simp [-Nat.le_zero_eq] at h)|(show wpE 0 (zk ..) ..;refine zx ?_)|(refine zl fun v2 H2 hv2 hnx2 hget2 hnew2 hone2 hcel2=>?_))
  ·have hvol':¬ 65536 < volL l gs:=by omega
   have hlk2:=Hide.mk (hlk.h hvol);rw [hq] at hn;simp only [Problem.cells,List.map_cons,List.map_nil] at hn hp hv;clear hr hm hpo hqx hq ok nb hl hlk hvol;generalize volL l gs=x at *;generalize hy:q.pv Box.cells 4=y at *;obtain ⟨s,hs⟩:∃ s,s=Sl.of gs:=⟨_,rfl⟩
   have hsx:s.xs=gs:=by rw [hs,Sl.xs_of]
   rw [<- hs] at hp hv;have hsl:s.xs.length<=12:=by rw [hsx];exact hps.h
   have hsxH:=Hide.mk hsx;have hDeH:=Hide.mk hDe;clear hs hsx hy hDe;(repeat' first|simp [*,za,c48,Problem.cells]|(apply zb<;>intro _ h<;>try simp [-Nat.le_zero_eq] at h)|(show wpE 0 (zk ..) ..;refine zx ?_)|(refine zl fun v2 H2 hv2 hnx2 hget2 hnew2 hone2 hcel2=>?_))
   refine zF [(9,10),(28,52)] (fun (i:Nat) env H=>env 28=.pure (.int .i64 i)/\i<=s.xs.length/\1 < H.nx/\H.get 0=.cells true [.pure (.bool false),.pure .nils]/\∃ V,H.get 1=.cells true [.pure (.bool (zcb ((gs.map (zaf p.facts.xs l)).take i))),V]/\Hide (GrowV zcr 1 H V ((gs.map (zaf p.facts.xs l)).take i)/\∀ id,Names V id->1 < id)) (fun i=>s.xs.length - i) 0 ?_ ?_ ?_ ?_
   ·decide
   ·exact ⟨by simp,by omega,by simp,by simp,.pure .nils,by simp [zcb],⟨by simpa using GrowV.nil,fun id ⟨_,_,_,h⟩=>by simp at h⟩⟩
   ·simp only [zA];omega
   rintro i env H ⟨g28,hi,hnx,h0,V,h1,hV⟩;generalize hb:zcb ((gs.map (zaf p.facts.xs l)).take i)=b at *
   by_cases hlt:i < s.xs.length
   ·have w1:IntKind.i64.wrap ((i:Int)+1)=(i+1:Nat):=by rw [wrap64 (by omega) (by omega)];omega
    have hltI:(i:Int) < s.xs.length:=by omega
    have hig:i < gs.length:=by rw [<- hsxH.h];exact hlt
    have hme:s.xs[i]∈gs:=by rw [<- hsxH.h];exact List.getElem_mem hlt
    have hlk3:=hlk2.h s.xs[i] hme;have hnext:(gs.map (zaf p.facts.xs l)).take (i+1)=(gs.map (zaf p.facts.xs l)).take i++[zaf p.facts.xs l s.xs[i]]:=by
     have e:=hsxH.h;subst e;rw [List.take_add_one,List.getElem?_eq_getElem (by simpa using hlt)];simp
    obtain ⟨g,hg⟩:∃ g,s.xs[i]=g:=⟨_,rfl⟩
    rw [hg] at hlk3 hnext;have hnb:Hide (zcb ((gs.map (zaf p.facts.xs l)).take (i+1))=(b||decide (((zaf p.facts.xs l g).n:Int)=0))):=⟨by
     rw [hnext,zly,hb]⟩
    have hlen:((gs.map (zaf p.facts.xs l)).take i).length<=12:=by rw [List.length_take];have:=hps.h;omega
    have hnextH:=Hide.mk hnext;generalize zaf p.facts.xs l g=D' at *;generalize (gs.map (zaf p.facts.xs l)).take i=L at *;simp only [Problem.cells,zbv,List.map_cons,List.map_nil] at hlk3;have hVo:=hV.h.1.1.one;have hVo1:=hVo.1;have hVo2:=hVo.2;have hpvE:D'.pv=.ptr false [z8 D'.part,.int .i64 D'.n,.slice false 4 (chunks 4 D'.part.length (D'.ends.map zW)),zW D'.first] 0:=rfl;have hDH:=Hide.mk hpvE;rw [hpvE] at hlk3;clear hlk2 hnext hb hVo hpvE;obtain ⟨pp,hpp⟩:∃ pp,pp=z8 D'.part:=⟨_,rfl⟩
    obtain ⟨cc,hcc⟩:∃ cc,cc=chunks 4 D'.part.length (D'.ends.map zW):=⟨_,rfl⟩
    obtain ⟨oo,hoo⟩:∃ oo,oo=zW D'.first:=⟨_,rfl⟩
    have hDc:Hide (D'.pv=.ptr false [pp,.int .i64 D'.n,.slice false 4 cc,oo] 0):=⟨by rw [hDH.h,<- hpp,<- hcc,<- hoo]⟩
    rw [<- hpp,<- hcc,<- hoo] at hlk3;have hseE:zcr D'=[D'.pv]:=rfl;rw [hDc.h] at hseE;obtain ⟨nn,hnn⟩:∃ nn:Int,nn=D'.n:=⟨_,rfl⟩
    rw [<- hnn] at hlk3 hnb hseE;have hseH:=Hide.mk hseE;clear hnn hseE;clear hpp hcc hoo hDH
    cases b with
    | true =>
     have hnb2:Hide (zcb ((gs.map (zaf p.facts.xs l)).take (i+1))=true):=⟨by rw [hnb.h];rfl⟩
     clear hnb;(repeat' first|simp [*,za,zfg]|(apply zb<;>intro _ h<;>try simp [-Nat.le_zero_eq] at h)|(show wpE 0 (zk ..) ..;refine zx ?_)|(refine zl fun v2 H2 hv2 hnx2 hget2 hnew2 hone2 hcel2=>?_))
     refine zaU (f:=zcr) (sz:=1) (l:=L) ((hV.h.1.set (fun hn=>by have:=hV.h.2 1 hn;omega) _).alloc _) (fun _=>rfl) (by decide) (fun _=>rfl) (by unfold zn;omega) ⟨D',by rw [hseH.h];simp,?_⟩
     intro V4 H4 hg4 ha;have hV4:Hide (GrowV zcr 1 H4 V4 ((gs.map (zaf p.facts.xs l)).take (i+1))/\∀ id,Names V4 id->1 < id):=⟨by rw [hnextH.h];exact hg4,fun id hn=>by have:=ha.new id hn;simp at this;omega⟩
     have g0:H4.get 0=.cells true [.pure (.bool false),.pure .nils]:=by
      rw [ha.get 0 (by rw [zan,zaG];omega) (fun hn=>by have:=hV.h.2 0 hn;omega),zf (by rw [zaG];omega),zh (by omega)];exact h0
     have g1:H4.get 1=.cells true [.pure (.bool true),V]:=by
      rw [ha.get 1 (by rw [zan,zaG];omega) (fun hn=>by have:=hV.h.2 1 hn;omega),zf (by rw [zaG];omega),zu hnx]
     have gn:1 < H4.nx:=by have:=ha.nx;simp at this;omega
     have o4:=hg4.1.one;have o4a:=o4.1;have o4b:=o4.2;clear hg4 ha o4 hV;(repeat' first|simp [*,za]|(apply zb<;>intro _ h<;>try simp [-Nat.le_zero_eq] at h)|(show wpE 0 (zk ..) ..;refine zx ?_)|(refine zl fun v2 H2 hv2 hnx2 hget2 hnew2 hone2 hcel2=>?_));exact ⟨i+1,by omega,by omega,by omega,V4,⟨hnb2.h,rfl⟩,⟨hV4.h.1.set (fun hn=>by have:=hV4.h.2 1 hn;omega) _,hV4.h.2⟩⟩
    | false =>
     by_cases hz:nn=0
     ·have hnb2:Hide (zcb ((gs.map (zaf p.facts.xs l)).take (i+1))=true):=⟨by rw [hnb.h,decide_eq_true hz];rfl⟩
      subst hz;clear hnb;(repeat' first|simp [*,za,zfg]|(apply zb<;>intro _ h<;>try simp [-Nat.le_zero_eq] at h)|(show wpE 0 (zk ..) ..;refine zx ?_)|(refine zl fun v2 H2 hv2 hnx2 hget2 hnew2 hone2 hcel2=>?_))
      refine zaU (f:=zcr) (sz:=1) (l:=L) ((hV.h.1.set (fun hn=>by have:=hV.h.2 1 hn;omega) _).alloc _) (fun _=>rfl) (by decide) (fun _=>rfl) (by unfold zn;omega) ⟨D',by rw [hseH.h];simp,?_⟩
      intro V4 H4 hg4 ha;have hV4:Hide (GrowV zcr 1 H4 V4 ((gs.map (zaf p.facts.xs l)).take (i+1))/\∀ id,Names V4 id->1 < id):=⟨by rw [hnextH.h];exact hg4,fun id hn=>by have:=ha.new id hn;simp at this;omega⟩
      have g0:H4.get 0=.cells true [.pure (.bool false),.pure .nils]:=by
       rw [ha.get 0 (by rw [zan,zaG];omega) (fun hn=>by have:=hV.h.2 0 hn;omega),zf (by rw [zaG];omega),zh (by omega)];exact h0
      have g1:H4.get 1=.cells true [.pure (.bool true),V]:=by
       rw [ha.get 1 (by rw [zan,zaG];omega) (fun hn=>by have:=hV.h.2 1 hn;omega),zf (by rw [zaG];omega),zu hnx]
      have gn:1 < H4.nx:=by have:=ha.nx;simp at this;omega
      have o4:=hg4.1.one;have o4a:=o4.1;have o4b:=o4.2;clear hg4 ha o4 hV;(repeat' first|simp [*,za]|(apply zb<;>intro _ h<;>try simp [-Nat.le_zero_eq] at h)|(show wpE 0 (zk ..) ..;refine zx ?_)|(refine zl fun v2 H2 hv2 hnx2 hget2 hnew2 hone2 hcel2=>?_));exact ⟨i+1,by omega,by omega,by omega,V4,⟨hnb2.h,rfl⟩,⟨hV4.h.1.set (fun hn=>by have:=hV4.h.2 1 hn;omega) _,hV4.h.2⟩⟩
     ·have hnb2:Hide (zcb ((gs.map (zaf p.facts.xs l)).take (i+1))=false):=⟨by rw [hnb.h,decide_eq_false hz];rfl⟩
      clear hnb;(repeat' first|simp [*,za,zfg]|(apply zb<;>intro _ h<;>try simp [-Nat.le_zero_eq] at h)|(show wpE 0 (zk ..) ..;refine zx ?_)|(refine zl fun v2 H2 hv2 hnx2 hget2 hnew2 hone2 hcel2=>?_))
      refine zaU (f:=zcr) (sz:=1) (l:=L) ((hV.h.1.set (fun hn=>by have:=hV.h.2 1 hn;omega) _).alloc _) (fun _=>rfl) (by decide) (fun _=>rfl) (by unfold zn;omega) ⟨D',by rw [hseH.h];simp,?_⟩
      intro V4 H4 hg4 ha;have hV4:Hide (GrowV zcr 1 H4 V4 ((gs.map (zaf p.facts.xs l)).take (i+1))/\∀ id,Names V4 id->1 < id):=⟨by rw [hnextH.h];exact hg4,fun id hn=>by have:=ha.new id hn;simp at this;omega⟩
      have g0:H4.get 0=.cells true [.pure (.bool false),.pure .nils]:=by
       rw [ha.get 0 (by rw [zan,zaG];omega) (fun hn=>by have:=hV.h.2 0 hn;omega),zf (by rw [zaG];omega),zh (by omega)];exact h0
      have g1:H4.get 1=.cells true [.pure (.bool false),V]:=by
       rw [ha.get 1 (by rw [zan,zaG];omega) (fun hn=>by have:=hV.h.2 1 hn;omega),zf (by rw [zaG];omega),zu hnx]
      have gn:1 < H4.nx:=by have:=ha.nx;simp at this;omega
      have o4:=hg4.1.one;have o4a:=o4.1;have o4b:=o4.2;clear hg4 ha o4 hV;(repeat' first|simp [*,za]|(apply zb<;>intro _ h<;>try simp [-Nat.le_zero_eq] at h)|(show wpE 0 (zk ..) ..;refine zx ?_)|(refine zl fun v2 H2 hv2 hnx2 hget2 hnew2 hone2 hcel2=>?_));exact ⟨i+1,by omega,by omega,by omega,V4,⟨hnb2.h,rfl⟩,⟨hV4.h.1.set (fun hn=>by have:=hV4.h.2 1 hn;omega) _,hV4.h.2⟩⟩
   ·have hiN:i=s.xs.length:=by omega
    subst hiN;have hall:(gs.map (zaf p.facts.xs l)).take s.xs.length=gs.map (zaf p.facts.xs l):=by
     rw [hsxH.h];exact List.take_of_length_le (by simp)
    rw [hall] at hb hV;have hres:Hide (∀ o,FrzK (H.set 0 o) false 10 V ((Sl.of (gs.map (zaf p.facts.xs l))).pv zcr 1)):=⟨fun o=>(hV.h.1.set (fun hn=>by have:=hV.h.2 0 hn;omega) o).res (n:=8) (fun _=>rfl)⟩
    have hVo:=hV.h.1.1.one;have hVo1:=hVo.1;have hVo2:=hVo.2;have hDe:=hDeH.h;rw [hb] at hDe;have hDb:D.empty=b:=by rw [hDe]
    have hDs:Hide (D.seens=gs.map (zaf p.facts.xs l)):=⟨by rw [hDe]⟩
    have hDeH2:=Hide.mk hDe;have h0n:0 < H.nx:=by omega
    obtain ⟨ids,hids⟩:=FrzK.aggV (n:=10) (FrzL.cons (FrzK.pure (.bool b)) (.cons (hres.h (.cells true [.pure (.bool b),V])) .nil));rw [<- hDs.h] at hids;clear hV hVo hlk2 hDeH hDe hb hall hres;(repeat' first|simp [*,za]|(apply zb<;>intro _ h<;>try simp [-Nat.le_zero_eq] at h)|(show wpE 0 (zk ..) ..;refine zx ?_)|(refine zl fun v2 H2 hv2 hnx2 hget2 hnew2 hone2 hcel2=>?_))
def SolvedOut (p:Problem) (D:FoundD) (e:Int):Prop:=(zX p≠0/\D=⟨false,[]⟩/\e=zX p)\/(zX p=0/\FindOut p D e)
theorem sh38:G.shared 38=false:=by decide
theorem e38 (n:Nat) (p:Problem) (D:FoundD) (e:Int) (h:SolvedOut p D e):zH G (n+52) 38 [.agg p.cells]=some (.tup [.agg D.cells,.int .i64 e]):=by
 refine zy (zw _) rfl g38 rfl ?_
 have hc:=fun H=>ze (G:=G) (n:=n+51) (H:=H) (caps:=[]) (ps:=[.agg p.cells]) sh45 (e45 (n+48) p);rcases h with ⟨h0,rfl,rfl⟩|⟨h0,hf⟩
 ·generalize zX p=c at *;simp only [Problem.cells,List.map_cons,List.map_nil] at hc;(repeat' first|simp [*,za,c38,Problem.cells]|(apply zb<;>intro _ h<;>try simp [-Nat.le_zero_eq] at h))
 ·have hn:=fun H=>ze (G:=G) (n:=n+51) (H:=H) (caps:=[]) (ps:=[.agg p.cells]) sh48 (e48 n p (check_ok.1 h0) D e hf);rw [h0] at hc;obtain ⟨De,Ds⟩:=D;simp only [Problem.cells,FoundD.cells,List.map_cons,List.map_nil] at hc hn ⊢;clear h0 hf;(repeat' first|simp [*,za,c38,Problem.cells]|(apply zb<;>intro _ h<;>try simp [-Nat.le_zero_eq] at h))
def endP (s:SeenD) (j k:Nat):Pt:=match s.ends[j]! with
 | some c=>c[k]!
 | none=>⟨0,0⟩
def zg7 (s:SeenD) (k:Nat):Box:=⟨⟨(endP s (4*k) k).x,(endP s (4*k+1) k).x⟩,⟨(endP s (4*k+2) k).y,(endP s (4*k+3) k).y⟩⟩
def zab (pt:Nat):List SeenD->Nat->Box×Int×Int
 | [],_=>(⟨⟨0,0⟩,⟨0,0⟩⟩,-1,-1)
 | s::ss,i=>if pt∈s.part then (zg7 s (s.part.idxOf pt),(i:Int),(s.part.idxOf pt:Nat)) else zab pt ss (i+1)
structure SeenGood (s:SeenD):Prop where
 few:s.part.length<=12
 len:s.ends.length=4*s.part.length
 all:∀ o∈s.ends,∃ c,o=some c/\c.length=s.part.length
theorem SeenGood.at {s:SeenD} (h:SeenGood s) {j k:Nat} (hj:j < s.ends.length) (hk:k < s.part.length):∃ (c:List Pt) (hc:k < c.length),s.ends[j]=some c/\endP s j k=c[k]:=by
 obtain ⟨c,h1,h2⟩:=h.all _ (List.getElem_mem hj)
 refine ⟨c,by omega,h1,?_⟩
 unfold endP;rw [getElem!_pos s.ends j hj,h1];simp only;rw [getElem!_pos c k (by omega)]
theorem zf0 {c:List Pt} {k:Nat} (h:k < c.length):zc0 2 (.pure (zW (some c))) (.pure (.int .i64 k))=some (.val (.pure (.ptr false [.int .i64 c[k].x,.int .i64 c[k].y] 0))):=by
 have:=zax (k:=.i64) (f:=Pt.cells) (sz:=2) (s:=Sl.mk false c) (n:=k) (by simpa using h)
 simpa [zW,Sl.hot] using this
theorem zsR {α:Type} {L:List α} {k:Nat} (h:4*k+3 < L.length):(L.drop (4*k)).take 4=[L[4*k],L[4*k+1],L[4*k+2],L[4*k+3]]:=by
 refine List.ext_getElem (by simp;omega) fun i h1 h2=>?_
 have:i=0\/i=1\/i=2\/i=3:=by simp at h2;omega
 rcases this with rfl|rfl|rfl|rfl<;>simp
theorem sh53:G.shared 53=false:=by decide
theorem e53 (n:Nat) (D:FoundD) (pt:Nat) (hl:D.seens.length<=12) (hg:∀ s∈D.seens,SeenGood s):zH G (n+2) 53 [.agg D.cells,.int .i64 pt]=some (.tup [.agg (zab pt D.seens 0).1.cells,.int .i64 (zab pt D.seens 0).2.1,.int .i64 (zab pt D.seens 0).2.2]):=by
 refine zy (zw _) rfl g53 rfl ?_
 obtain ⟨R,hR⟩:∃ R,zab pt D.seens 0=R:=⟨_,rfl⟩
 rw [hR];have hRH:=Hide.mk hR;have hgH:=Hide.mk hg;clear hR hg;obtain ⟨De,Ds⟩:=D;simp only [FoundD.cells] at *;obtain ⟨s,hs⟩:∃ s,s=Sl.of Ds:=⟨_,rfl⟩
 have hsx:s.xs=Ds:=by rw [hs,Sl.xs_of]
 rw [<- hs];rw [<- hsx] at hgH hRH hl;clear hs hsx;(repeat' first|simp [*,za,c53,zJ]|(apply zb<;>intro _ h<;>try simp [-Nat.le_zero_eq] at h))
 refine zF [(5,10),(14,63)] (fun (i:Nat) env H=>env 14=.pure (.int .i64 i)/\i<=s.xs.length/\H.get 0=.cells true [.pure (.int .i64 0),.pure (.int .i64 0),.pure (.int .i64 0),.pure (.int .i64 0)]/\Hide (zab pt (s.xs.drop i) i=R)) (fun i=>s.xs.length - i) 0 ?_ ?_ ?_ ?_
 ·decide
 ·exact ⟨by simp,by omega,by simp,by simpa using hRH⟩
 ·simp only [zA];omega
 clear hRH;rintro i env H ⟨g14,hi,h0,hR⟩;have hn0:=zt h0;have hne0:(0:Nat)≠H.nx:=by omega
 by_cases hlt:i < s.xs.length
 ·have w1:IntKind.i64.wrap ((i:Int)+1)=(i+1:Nat):=by rw [wrap64 (by omega) (by omega)];omega
  have hltI:(i:Int) < s.xs.length:=by omega
  have hD:=hgH.h _ (List.getElem_mem hlt);have hd:=List.drop_eq_getElem_cons hlt;rw [hd] at hR;have hR1:=hR.h;unfold zab at hR1;obtain ⟨D',hD'⟩:∃ D',s.xs[i]=D':=⟨_,rfl⟩
  rw [hD'] at hR1 hD;have hse:zcr s.xs[i]=[.ptr false [z8 D'.part,.int .i64 D'.n,.slice false 4 (chunks 4 D'.part.length (D'.ends.map zW)),zW D'.first] 0]:=by rw [hD'];rfl
  have c1:=fun H=>ze (G:=G) (n:=n+1) (H:=H) (caps:=[]) (ps:=[(Sl.mk false (zT D'.part)).pv intF 1,.int .i64 pt]) sh99 (e99 n (Sl.mk false (zT D'.part)) pt (idxI D'.part pt) (by rw [Sl.xs_mk,zaq];have:=hD.few;omega) (zhq D'.part pt));rw [<- zbv] at c1;simp only [List.map_cons,List.map_nil] at c1
  by_cases hm:pt∈D'.part
  ·rw [if_pos hm] at hR1;have hk:=List.idxOf_lt_length_of_mem hm;rw [zht (by omega) (by simpa using hm)] at c1;simp only [Int.toNat_natCast] at c1;generalize D'.part.idxOf pt=k at *;have hlen:=hD.len;obtain ⟨a0,q0,z0,y0⟩:=hD.at (j:=4*k) (k:=k) (by omega) hk;obtain ⟨a1,q1,z1,y1⟩:=hD.at (j:=4*k+1) (k:=k) (by omega) hk;obtain ⟨a2,q2,z2,y2⟩:=hD.at (j:=4*k+2) (k:=k) (by omega) hk;obtain ⟨a3,q3,z3,y3⟩:=hD.at (j:=4*k+3) (k:=k) (by omega) hk;have hca:zc0 4 (.pure (.slice false 4 (chunks 4 D'.part.length (D'.ends.map zW)))) (.pure (.int .i64 k))=some (.val (.pure (.ptr false [zW (some a0),zW (some a1),zW (some a2),zW (some a3)] 0))):=by
    refine zeh ?_
    rw [zgD _ _ _ hk,zsR (by simp;omega)];simp [z0,z1,z2,z3]
   have hb:zg7 D' k=⟨⟨a0[k].x,a1[k].x⟩,⟨a2[k].y,a3[k].y⟩⟩:=by unfold zg7;rw [y0,y1,y2,y3]
   rw [hb] at hR1;have d0:=zf0 q0;have d1:=zf0 q1;have d2:=zf0 q2;have d3:=zf0 q3;subst hR1;have hkI:¬ (k:Int) < 0:=by omega
   clear hR hd hD' hgH hD hb y0 y1 y2 y3 z0 z1 z2 z3 hm;generalize a0[k]=b0 at *;generalize a1[k]=b1 at *;generalize a2[k]=b2 at *;generalize a3[k]=b3 at *;generalize z8 D'.part=pp at *;generalize (chunks 4 D'.part.length (D'.ends.map zW))=cc at *;generalize zW D'.first=oo at *;generalize (D'.n:Int)=nn at *;(repeat' first|simp [*,za,zJ,zai,zbE]|(apply zb<;>intro _ h<;>try simp [-Nat.le_zero_eq] at h))
  ·rw [if_neg hm] at hR1;have hi1:idxI D'.part pt=-1:=by
    have h1:=zhq D'.part pt;rcases h1 with ⟨q,hq,_,e,_⟩|⟨h1,_⟩
    ·exfalso;apply hm;have:=List.getElem_mem hq;rw [e] at this;have:=(zlO (part:=D'.part) (x:=pt) (by omega)).1 this
     simpa using this
    ·exact h1
   rw [hi1] at c1;have hR1H:=Hide.mk hR1;clear hR hR1 hd hD' hgH hD hm;generalize z8 D'.part=pp at *;generalize (chunks 4 D'.part.length (D'.ends.map zW))=cc at *;generalize zW D'.first=oo at *;generalize (D'.n:Int)=nn at *;(repeat' first|simp [*,za,zJ]|(apply zb<;>intro _ h<;>try simp [-Nat.le_zero_eq] at h));exact ⟨i+1,by omega,by omega,by omega,hR1H⟩
 ·have hiN:i=s.xs.length:=by omega
  subst hiN;rw [List.drop_length] at hR;have hR1:=hR.h;unfold zab at hR1;subst hR1;clear hR hgH;(repeat' first|simp [*,za]|(apply zb<;>intro _ h<;>try simp [-Nat.le_zero_eq] at h))
abbrev Solv (p:Problem) (pts:List Pt):Prop:=IsSol p.facts.xs p.boxes.xs pts
theorem zoi (pts:List Pt):Wf (pts.map atB):=fun b hb=>by
 obtain ⟨x,_,rfl⟩:=List.mem_map.1 hb;exact ⟨Int.le_refl _,Int.le_refl _⟩
theorem zkC {l:List Box} {pts:List Pt} (hl:pts.length=l.length) (h:∀ i (h:i < pts.length) (h':i < l.length),inB' pts[i] l[i]):SubL (pts.map atB) l :=
 ⟨by simpa using hl,fun i h1 h2=>by
  have h1':i < pts.length:=by simpa using h1
  have:=h i h1' h2;unfold inB' at this;simp only [List.getElem_map,atB,subB,subS];omega⟩
theorem zs6 {l:List Box} {pts:List Pt} (h:SubL (pts.map atB) l):pts.length=l.length/\∀ i (h:i < pts.length) (h':i < l.length),inB' pts[i] l[i] :=
 ⟨by simpa using h.1,fun i h1 h2=>by
  have:=h.2 i (by simpa using h1) h2;simp only [List.getElem_map,atB,subB,subS] at this;unfold inB';omega⟩
theorem zmA (x:Pt) (k:Nat):zba (atB x) k=atB x:=by
 unfold zba atB
 split<;>rfl
theorem zje {facts:List Fact} {pts:List Pt} (h:∀ f∈facts,zC f (pts.map atB)=false):Stable zah facts (pts.map atB):=fun i hi k _ f hf hs=>by
 unfold zah at hs;have hi':i < pts.length:=by simpa using hi
 have e:zZ (pts.map atB) i k=pts.map atB:=by
  rw [zaQ hi];have:zba (pts.map atB)[i] k=(pts.map atB)[i]:=by simp only [List.getElem_map];exact zmA _ _
  rw [this];exact List.set_getElem_self ..
 rw [e,h f hf] at hs;simp at hs
theorem zgf {p:Problem} {r:Option (List Box)} (hr:IsNar zah p.facts.xs p.boxes.xs r) {pts:List Pt} (h:Solv p pts):∃ l,r=some l/\IsSol p.facts.xs l pts:=by
 have hs:=zkC h.len h.inn
 cases r with
 | none=>exact absurd (zje h.facts) (hr _ (zoi pts) hs)
 | some l =>
  have:=zs6 (hr.1.all _ (zoi pts) hs (zje h.facts));exact ⟨l,rfl,⟨this.1,this.2,h.facts⟩⟩
theorem zmE {p:Problem} {l:List Box} (hs:SubL l p.boxes.xs) {pts:List Pt} (h:IsSol p.facts.xs l pts):Solv p pts:=by
 have:=zs6 ((zkC h.len h.inn).trans hs);exact ⟨this.1,this.2,h.facts⟩
theorem zga {p:Problem} {l:List Box} (hr:IsNar zah p.facts.xs p.boxes.xs (some l)) (pts:List Pt):Solv p pts↔IsSol p.facts.xs l pts :=
 ⟨fun h=>by obtain ⟨l',e,h'⟩:=zgf hr h;simp only [Option.some.injEq] at e;rw [e];exact h',zmE hr.1.sub⟩
theorem FindOut.unique {p:Problem} {D D':FoundD} {e e':Int} (h:FindOut p D e) (h':FindOut p D' e'):D=D'/\e=e':=by
 rcases h with ⟨hr,rfl,rfl⟩|⟨l,m,hr,hm,h⟩
 ·rcases h' with ⟨hr',rfl,rfl⟩|⟨l',m',hr',hm',h'⟩
  ·exact ⟨rfl,rfl⟩
  ·have:=hr.unique hr';simp at this
 ·rcases h' with ⟨hr',rfl,rfl⟩|⟨l',m',hr',hm',h'⟩
  ·have:=hr.unique hr';simp at this
  ·have e1:=hr.unique hr';simp only [Option.some.injEq] at e1;subst e1;have e2:=zen (hm.unique hm');rw [<- e2] at h';rcases h with ⟨a,rfl,rfl⟩|⟨a,rfl,rfl⟩<;>rcases h' with ⟨b,rfl,rfl⟩|⟨b,rfl,rfl⟩
   ·exact ⟨rfl,rfl⟩
   ·omega
   ·omega
   ·exact ⟨rfl,rfl⟩
theorem zjB {n:Nat}:∀ (E E0:List (Nat×Nat)) (m0:Nat->Nat),IsCls E0 n m0->(∀ e∈E,e.1 < n/\e.2 < n)->∃ m,IsCls (E0++E) n m
 | [],E0,m0,h,_=>⟨m0,by rw [List.append_nil];exact h⟩
 | e::E,E0,m0,h,hE=>by
  have h1:=hE e List.mem_cons_self;obtain ⟨m,hm⟩:=zjB E (E0++[e]) _ (h.join h1.1 h1.2) fun x hx=>hE x (List.mem_cons_of_mem _ hx);exact ⟨m,by rw [List.append_assoc] at hm;exact hm⟩
theorem zot {fs:List Fact} {n:Nat} (h:∀ f∈fs,zar f n=true):∃ m,IsCls (zaw fs) n m:=zjB (zaw fs) [] _ (IsCls.nil n) fun e he=>by
 obtain ⟨f,hf,he⟩:=mem_edgesL.1 he;have hn:=ziy (h f hf);have h1:=hn.a;have h2:=hn.b;have h3:=hn.c;unfold zbD at he
 split at he
 ·simp only [List.mem_cons,List.not_mem_nil,or_false] at he;rcases he with rfl|rfl<;>exact ⟨by simp only;omega,by simp only;omega⟩
 ·simp only [List.mem_cons,List.not_mem_nil,or_false] at he;subst he;exact ⟨by simp only;omega,by simp only;omega⟩
theorem zf5 {p:Problem} (ok:CheckOk p):∃ D e,FindOut p D e:=by
 obtain ⟨r,hr⟩:=zkv (zbJ ok) (zbx ok)
 cases r with
 | none=>exact ⟨_,_,.inl ⟨hr,rfl,rfl⟩⟩
 | some l =>
  obtain ⟨m,hm⟩:=zot ok.fact
  by_cases hv:volL l (zad m p.boxes.xs.length)<=65536
  ·exact ⟨_,_,.inr ⟨l,m,hr,hm,.inr ⟨hv,rfl,rfl⟩⟩⟩
  ·exact ⟨_,_,.inr ⟨l,m,hr,hm,.inl ⟨by omega,rfl,rfl⟩⟩⟩
theorem zo7 (p:Problem):∃ D e,SolvedOut p D e:=by
 by_cases h:zX p=0
 ·obtain ⟨D,e,hf⟩:=zf5 (check_ok.1 h);exact ⟨D,e,.inr ⟨h,hf⟩⟩
 ·exact ⟨_,_,.inl ⟨h,rfl,rfl⟩⟩
theorem SolvedOut.unique {p:Problem} {D D':FoundD} {e e':Int} (h:SolvedOut p D e) (h':SolvedOut p D' e'):D=D'/\e=e':=by
 rcases h with ⟨h0,rfl,rfl⟩|⟨h0,hf⟩
 ·rcases h' with ⟨_,rfl,rfl⟩|⟨h1,_⟩
  ·exact ⟨rfl,rfl⟩
  ·exact absurd h1 h0
 ·rcases h' with ⟨h1,_⟩|⟨_,hf'⟩
  ·exact absurd h0 h1
  ·exact hf.unique hf'
structure FindIn (p:Problem) (D:FoundD) (l:List Box) (gs:List (List Nat)):Prop where
 nar:IsNar zah p.facts.xs p.boxes.xs (some l)
 div:IsDiv p.facts.xs l.length gs
 seens:D.seens=gs.map (zaf p.facts.xs l)
 seen:∀ g∈gs,SeenOk p.facts.xs l g (zaf p.facts.xs l g)
 empty:D.empty=zcb D.seens
 few:gs.length<=12/\∀ g∈gs,g.length<=12
theorem zkm {p:Problem} (ok:CheckOk p) {D:FoundD} {e:Int} (h:FindOut p D e):(e=0/\D=⟨true,[]⟩/\IsNar zah p.facts.xs p.boxes.xs none)\/(e=2/\D=⟨false,[]⟩)\/(e=0/\∃ l gs,FindIn p D l gs):=by
 rcases h with ⟨hr,rfl,rfl⟩|⟨l,m,hr,hm,h⟩
 ·exact .inl ⟨rfl,rfl,hr⟩
 ·rcases h with ⟨hv,rfl,rfl⟩|⟨hv,rfl,rfl⟩
  ·exact .inr (.inl ⟨rfl,rfl⟩)
  ·refine .inr (.inr ⟨rfl,l,zad m p.boxes.xs.length,?_⟩)
   have hl:l.length=p.boxes.xs.length:=hr.1.sub.1;have hd:=zb7 hm (zbe ok);have hpl:=zeF m p.boxes.xs.length;have nb:=ok.nb
   refine ⟨hr,by rw [hl];exact hd,rfl,fun g hg=>?_,rfl,⟨by omega,fun g hg=>by have:=(hpl.2 g hg).1;omega⟩⟩
   refine zoI (fun k hk=>by rw [hl];exact (hd.one g hg).2 k hk) hr.1.wf (fun f hf ha=>hd.within f hf g hg ha) fun f hf=>?_
   have h1:=(zaD f _).1 (ok.fact f hf);exact ⟨by omega,by omega,by omega⟩
theorem zcz {L:List SeenD}:zcb L=true↔∃ s∈L,s.n=0:=by simp [zcb]
theorem FindIn.some {p:Problem} {D:FoundD} {l:List Box} {gs:List (List Nat)} (h:FindIn p D l gs) (he:D.empty=false) {g:List Nat} (hg:g∈gs) {c:List Pt} (hc:c∈zaj p.facts.xs l g):∃ pts,Solv p pts/\pick pts g=c:=by
 have hne:∀ g'∈gs,∃ c',c'∈zaj p.facts.xs l g':=fun g' hg'=>by
  have h1:=(h.seen g' hg').n;have h2:(zaf p.facts.xs l g').n≠0:=fun e=>by
   have:D.empty=true:=by
    rw [h.empty,zcz,h.seens];exact ⟨_,List.mem_map.2 ⟨g',hg',rfl⟩,e⟩
   rw [this] at he;simp at he
  exact ⟨_,List.head_mem (l:=zaj p.facts.xs l g') (fun e=>h2 (by rw [h1,e];rfl))⟩
 obtain ⟨ch,hch⟩:∃ ch:List Nat->List Pt,∀ g'∈gs,ch g'∈zaj p.facts.xs l g'/\(g'=g->ch g'=c):=by
  refine ⟨fun g'=>if g'=g then c else if h':g'∈gs then (hne g' h').choose else [],fun g' hg'=>?_⟩
  simp only
  by_cases e:g'=g
  ·subst e;simp [hc]
  ·rw [if_neg e,dif_pos hg'];exact ⟨(hne g' hg').choose_spec,fun h=>absurd h e⟩
 have hm:gs.map ch∈zg9 (gs.map (zaj p.facts.xs l)):=mem_prodC.2 ⟨by simp,fun k a b=>by
  simp only [List.getElem_map];exact (hch _ (List.getElem_mem _)).1⟩
 obtain ⟨h1,h2⟩:=zke h.div hm (p0:=List.replicate l.length ⟨0,0⟩) (by simp)
 refine ⟨_,(zga h.nar _).2 h1,?_⟩
 have:=List.map_inj_left.1 h2 g hg;rw [this];exact (hch g hg).2 rfl
theorem FindIn.empty_iff {p:Problem} {D:FoundD} {l:List Box} {gs:List (List Nat)} (h:FindIn p D l gs):D.empty=true↔¬ ∃ pts,Solv p pts:=by
 constructor
 ·rintro he ⟨pts,hp⟩;rw [h.empty,zcz,h.seens] at he;obtain ⟨s,hs,h0⟩:=he;obtain ⟨g,hg,rfl⟩:=List.mem_map.1 hs;have h1:=zit h.div ((zga h.nar _).1 hp) g hg;rw [(h.seen g hg).n] at h0;rw [List.eq_nil_of_length_eq_zero h0] at h1;simp at h1
 ·intro hn
  cases he:D.empty with
  | true=>rfl
  | false =>
   exfalso
   refine hn ?_
   -- one choice of each part
   have hne:∀ g'∈gs,zaj p.facts.xs l g'≠[]:=fun g' hg' e=>by
    have:D.empty=true:=by
     rw [h.empty,zcz,h.seens];exact ⟨_,List.mem_map.2 ⟨g',hg',rfl⟩,by rw [(h.seen g' hg').n,e];rfl⟩
    rw [this] at he;simp at he
   have hm:(gs.map fun g=>(zaj p.facts.xs l g).headD [])∈zg9 (gs.map (zaj p.facts.xs l)):=mem_prodC.2 ⟨by simp,fun k a b=>by
    simp only [List.getElem_map];have:=hne _ (List.getElem_mem (l:=gs) (n:=k) (by simpa using a))
    cases hs:zaj p.facts.xs l (gs[k]'(by simpa using a)) with
    | nil=>exact absurd hs this
    | cons c cs=>simp⟩
   obtain ⟨h1,_⟩:=zke h.div hm (p0:=List.replicate l.length ⟨0,0⟩) (by simp);exact ⟨_,(zga h.nar _).2 h1⟩
theorem zb0 {p:Problem} (ok:CheckOk p) {D:FoundD} (h:FindOut p D 0):D.empty=true↔¬ ∃ pts,Solv p pts:=by
 rcases zkm ok h with ⟨_,rfl,hr⟩|⟨he,_⟩|⟨_,l,gs,hi⟩
 ·refine ⟨fun _ ⟨pts,hp⟩=>?_,fun _=>rfl⟩
  obtain ⟨l,e,_⟩:=zgf hr hp;simp at e
 ·omega
 ·exact hi.empty_iff
theorem znh {p:Problem} (ok:CheckOk p) {D:FoundD} {e:Int} (h:FindOut p D e):D.seens.length<=12/\(D.empty=false->∀ s∈D.seens,s.n≠0/\SeenGood s):=by
 rcases zkm ok h with ⟨_,rfl,_⟩|⟨_,rfl⟩|⟨_,l,gs,hi⟩
 ·exact ⟨by simp,fun _ s hs=>by simp at hs⟩
 ·exact ⟨by simp,fun _ s hs=>by simp at hs⟩
 ·refine ⟨by rw [hi.seens,List.length_map];exact hi.few.1,fun he s hs=>?_⟩
  have hn:s.n≠0:=fun e=>by
   have:D.empty=true:=by rw [hi.empty,zcz];exact ⟨s,hs,e⟩
   rw [this] at he;simp at he
  rw [hi.seens] at hs;obtain ⟨g,hg,rfl⟩:=List.mem_map.1 hs;have ho:=hi.seen g hg;have hone:=hi.div.one g hg
  refine ⟨hn,⟨by rw [ho.same];exact hi.few.2 g hg,by rw [ho.same];exact ho.len,fun o ho'=>?_⟩⟩
  obtain ⟨j,hj,rfl⟩:=List.mem_iff_getElem.1 ho';obtain ⟨c,hc,h1,_⟩:=ho.ends hn j hj
  refine ⟨c,h1,?_⟩
  rw [ho.same];exact ((zd0 hone.1 (fun f hf ha=>hi.div.within f hf g hg ha)).1 hc).1.1
def oneF (fs:List Fact) (g:List Nat):List Fact:=fs.filter fun f=>g.contains f.a.toNat
def zeN (fs:List Fact) (g:List Nat):List Int:=(zam fs.length).filter fun k=>g.contains (fs[k.toNat]!).a.toNat
theorem mem_oneF {fs:List Fact} {g:List Nat} {f:Fact}:f∈oneF fs g↔f∈fs/\f.a.toNat∈g:=by simp [oneF]
theorem ziQ (fs:List Fact) (g:List Nat):okIs fs (zeN fs g):=fun j hj=>zdy fs j (List.mem_filter.1 hj).1
theorem zoX (fs:List Fact) (g:List Nat):(zeN fs g).length<=fs.length:=by
 have:=List.length_filter_le (fun k=>g.contains (fs[k.toNat]!).a.toNat) (zam fs.length);rwa [zaR] at this
theorem bad_mineG {fs:List Fact} {g:List Nat} {l:List Box}:0<=badI fs l (zeN fs g)↔∃ f∈oneF fs g,zC f l=true:=by
 rw [zfP fun j hj=>(ziQ fs g j hj).1];unfold zeN;simp only [List.mem_filter]
 constructor
 ·rintro ⟨j,⟨hj,hn⟩,h⟩;obtain ⟨k,hk,rfl⟩:=mem_nats.1 hj;rw [show ((k:Int)).toNat=k by simp,getElem!_pos fs k hk] at h hn;exact ⟨_,mem_oneF.2 ⟨List.getElem_mem hk,by simpa using hn⟩,h⟩
 ·rintro ⟨f,hf,h⟩;obtain ⟨hf,hn⟩:=mem_oneF.1 hf;obtain ⟨k,hk,rfl⟩:=List.mem_iff_getElem.1 hf;exact ⟨k,⟨mem_nats.2 ⟨k,hk,rfl⟩,by rw [show ((k:Int)).toNat=k by simp,getElem!_pos fs k hk];simpa using hn⟩,by rw [show ((k:Int)).toNat=k by simp,getElem!_pos fs k hk];exact h⟩
theorem zh2:∀ {gs:List (List Nat)},gs.flatten.Nodup->∀ {g g':List Nat} {x:Nat},g∈gs->g'∈gs->x∈g->x∈g'->g=g'
 | [],_,g,g',x,h,_,_,_=>by simp at h
 | a::gs,hn,g,g',x,h,h',hx,hx'=>by
  rw [List.flatten_cons,List.nodup_append] at hn;obtain ⟨_,h2,h3⟩:=hn;rcases List.mem_cons.1 h with e|h<;>rcases List.mem_cons.1 h' with e'|h'
  ·rw [e,e']
  ·rw [e] at hx;exact absurd rfl (h3 x hx x (List.mem_flatten.2 ⟨g',h',hx'⟩))
  ·rw [e'] at hx';exact absurd rfl (h3 x hx' x (List.mem_flatten.2 ⟨g,h,hx⟩))
  ·exact zh2 h2 h h' hx hx'
theorem zjx {p:Problem} (ok:CheckOk p) {gs:List (List Nat)} (hd:IsDiv p.facts.xs p.boxes.xs.length gs) {g:List Nat} (hg:g∈gs) {i:Nat} (hi:i∈g) {f:Fact} (hf:f∈p.facts.xs) (hn:zaL f i=true):f.a.toNat∈g:=by
 have hfm:=(zaD f _).1 (ok.fact f hf);have ha:f.a.toNat < p.boxes.xs.length:=by have:=(hd.named f hf).a;omega
 obtain ⟨g',hg',hag'⟩:=List.mem_flatten.1 ((hd.all _).1 ha);have hw:=hd.within f hf g' hg' hag';have hig:i∈g':=by
  unfold zaL at hn;simp only [Bool.or_eq_true,Bool.and_eq_true,decide_eq_true_eq] at hn;rcases hn with h|h|⟨hk,h⟩
  ·have:=hw.a;rwa [show f.a.toNat=i by omega] at this
  ·have:=hw.b;rwa [show f.b.toNat=i by omega] at this
  ·have:=hw.c hk;rwa [show f.c.toNat=i by omega] at this
 rw [zh2 hd.nodup hg hg' hi hig];exact hag'
def zec (fs:List Fact) (l:List Box) (s:Nat×Nat):Bool:=decide ((axS l[s.1]! (s.2 / 2)).lo < (axS l[s.1]! (s.2 / 2)).hi)&&decide (0<=badI fs (zZ l s.1 s.2) (zaP fs (zam fs.length) (s.1:Int)))
def zeJ (g:List Nat):List (Nat×Nat):=g.flatMap fun i=>(List.range 4).map fun k=>(i,k)
def zcy (fs:List Fact) (g:List Nat) (l:List Box):Option (Nat×Nat):=(zeJ g).find? (zec fs l)
def zdq (l:List Box) (c:Nat×Nat):Int:=(axS l[c.1]! c.2).hi - (axS l[c.1]! c.2).lo+1
def zb1 (l:List Box) (s:Int×(Nat×Nat)) (c:Nat×Nat):Int×(Nat×Nat):=if s.1 < zdq l c then (zdq l c,c) else s
def zfj (g:List Nat):List (Nat×Nat):=g.flatMap fun i=>(List.range 2).map fun k=>(i,k)
def zcg (g:List Nat) (l:List Box):Nat×Nat:=((zfj g).foldl (zb1 l) (0,(g.headD 0,0))).2
theorem zjO (l:List Box):∀ (cs:List (Nat×Nat)) (s:Int×(Nat×Nat)),s.1<=(cs.foldl (zb1 l) s).1/\(∀ c∈cs,zdq l c<=(cs.foldl (zb1 l) s).1)/\(cs.foldl (zb1 l) s=s\/((cs.foldl (zb1 l) s).2∈cs/\(cs.foldl (zb1 l) s).1=zdq l (cs.foldl (zb1 l) s).2))
 | [],s=>⟨Int.le_refl _,fun c h=>by simp at h,.inl rfl⟩
 | c::cs,s=>by
  obtain ⟨h1,h2,h3⟩:=zjO l cs (zb1 l s c);rw [List.foldl_cons];have h4:s.1<=(zb1 l s c).1/\zdq l c<=(zb1 l s c).1/\(zb1 l s c=s\/zb1 l s c=(zdq l c,c)):=by
   unfold zb1
   split
   ·exact ⟨by simp only;omega,Int.le_refl _,.inr rfl⟩
   ·exact ⟨Int.le_refl _,by omega,.inl rfl⟩
  refine ⟨by omega,fun c' hc'=>?_,?_⟩
  ·rcases List.mem_cons.1 hc' with rfl|h
   ·omega
   ·exact h2 c' h
  ·rcases h3 with h3|⟨h3,h3'⟩
   ·rcases h4.2.2 with h|h
    ·exact .inl (h3.trans h)
    ·rw [h3,h];exact .inr ⟨List.mem_cons_self,rfl⟩
   ·exact .inr ⟨List.mem_cons_of_mem _ h3,h3'⟩
theorem mem_sides {g:List Nat} {s:Nat×Nat}:s∈zeJ g↔s.1∈g/\s.2 < 4:=by
 obtain ⟨i,k⟩:=s;simp only [zeJ,List.mem_flatMap,List.mem_map,List.mem_range,Prod.mk.injEq]
 constructor
 ·rintro ⟨a,ha,b,hb,rfl,rfl⟩;exact ⟨ha,hb⟩
 ·rintro ⟨ha,hb⟩;exact ⟨i,ha,k,hb,rfl,rfl⟩
theorem mem_axes {g:List Nat} {s:Nat×Nat}:s∈zfj g↔s.1∈g/\s.2 < 2:=by
 obtain ⟨i,k⟩:=s;simp only [zfj,List.mem_flatMap,List.mem_map,List.mem_range,Prod.mk.injEq]
 constructor
 ·rintro ⟨a,ha,b,hb,rfl,rfl⟩;exact ⟨ha,hb⟩
 ·rintro ⟨ha,hb⟩;exact ⟨i,ha,k,hb,rfl,rfl⟩
theorem zgl {g:List Nat} {l:List Box} (hne:g≠[]) (hw:Wf l) (hl:∀ i∈g,i < l.length):(zcg g l).1∈g/\(zcg g l).2 < 2/\∀ i∈g,∀ k,k < 2->zdq l (i,k)<=zdq l (zcg g l):=by
 obtain ⟨h1,h2,h3⟩:=zjO l (zfj g) (0,(g.headD 0,0));obtain ⟨i,g',rfl⟩:=List.exists_cons_of_ne_nil hne;have hpos:0 < zdq l (i,0):=by
  have:=hw _ (List.getElem_mem (hl i List.mem_cons_self));unfold zdq;simp only;rw [getElem!_pos l i (hl i List.mem_cons_self)];unfold wfB at this;simp only [axS,if_true];omega
 have h4:=h2 (i,0) (mem_axes.2 ⟨List.mem_cons_self,Nat.zero_lt_two⟩);rcases h3 with h3|⟨h3,h5⟩
 ·rw [h3] at h4;simp only at h4;omega
 ·have h6:=mem_axes.1 h3;exact ⟨h6.1,h6.2,fun j hj k hk=>by
   have:=h2 (j,k) (mem_axes.2 ⟨hj,hk⟩);rw [h5] at this;exact this⟩
theorem zmv {b:Box} (hw:wfB b) {k:Nat} (hk:k < 4):¬ zaM b k↔(axS b (k / 2)).lo < (axS b (k / 2)).hi:=by
 unfold zaM axS;unfold wfB at hw;have hk4:k=0\/k=1\/k=2\/k=3:=by omega
 rcases hk4 with rfl|rfl|rfl|rfl<;>simp<;>omega
theorem zlq {l:List Box} {i k:Nat} (hi:i < l.length) (hk:k < 4) (ht:zaM l[i] k):zZ l i k=l:=by
 rw [zaQ hi];have:zba l[i] k=l[i]:=by
  unfold zaM at ht;generalize l[i]=bb at *;obtain ⟨⟨a,b⟩,⟨c,d⟩⟩:=bb;have hk4:k=0\/k=1\/k=2\/k=3:=by omega
  rcases hk4 with rfl|rfl|rfl|rfl<;>simp_all [zba]
 rw [this];exact List.set_getElem_self ..
theorem znK {p:Problem} (ok:CheckOk p) {gs:List (List Nat)} (hd:IsDiv p.facts.xs p.boxes.xs.length gs) {g:List Nat} (hg:g∈gs) {l:List Box} (hl:l.length=p.boxes.xs.length) (hw:Wf l) {i k:Nat} (h:zcy p.facts.xs g l=some (i,k)):i∈g/\k < 4/\∃ h:i < l.length,¬ zaM l[i] k/\∃ f∈oneF p.facts.xs g,zah f (zZ l i k):=by
 have hm:=mem_sides.1 (List.mem_of_find?_eq_some h);have hb:=List.find?_some h;have hil:i < l.length:=by rw [hl];exact (hd.one g hg).2 i hm.1
 simp only [zec,Bool.and_eq_true,decide_eq_true_eq,getElem!_pos l i hil] at hb
 refine ⟨hm.1,hm.2,hil,(zmv (hw _ (List.getElem_mem hil)) hm.2).2 hb.1,?_⟩
 obtain ⟨f,hf,hn,hs⟩:=bad_about.1 hb.2;exact ⟨f,mem_oneF.2 ⟨hf,zjx ok hd hg hm.1 hf hn⟩,hs⟩
theorem znn {p:Problem} (ok:CheckOk p) {gs:List (List Nat)} (hd:IsDiv p.facts.xs p.boxes.xs.length gs) {g:List Nat} (hg:g∈gs) {l:List Box} (hl:l.length=p.boxes.xs.length) (hw:Wf l) (h:zcy p.facts.xs g l=none) (hb:¬ BadL zah (oneF p.facts.xs g) l):Stable zah (oneF p.facts.xs g) l:=fun i hi k hk f hf hs=>by
 obtain ⟨hff,hfg⟩:=mem_oneF.1 hf
 cases hn:zaL f i with
 | false =>
  unfold zah at hs;rw [zaQ hi,zgt ok hff hn hi] at hs;exact hb ⟨f,hf,hs⟩
 | true =>
  have hig:i∈g:=by
   have hwi:=hd.within f hff g hg hfg;unfold zaL at hn;simp only [Bool.or_eq_true,Bool.and_eq_true,decide_eq_true_eq] at hn;rcases hn with h|h|⟨hk,h⟩
   ·have:=hwi.a;rwa [show f.a.toNat=i by omega] at this
   ·have:=hwi.b;rwa [show f.b.toNat=i by omega] at this
   ·have:=hwi.c hk;rwa [show f.c.toNat=i by omega] at this
  by_cases ht:zaM l[i] k
  ·rw [zlq hi hk ht] at hs;exact hb ⟨f,hf,hs⟩
  ·have:=List.find?_eq_none.1 h (i,k) (mem_sides.2 ⟨hig,hk⟩);simp only [zec,Bool.and_eq_true,decide_eq_true_eq,getElem!_pos l i hi] at this;exact this ⟨(zmv (hw _ (List.getElem_mem hi)) hk).1 ht,bad_about.2 ⟨f,hff,hn,hs⟩⟩
theorem zsD {p:Problem} (ok:CheckOk p) {gs:List (List Nat)} (hd:IsDiv p.facts.xs p.boxes.xs.length gs) {g:List Nat} (hg:g∈gs) (hne:g≠[]) (hno:∀ pts,¬ IsSol (oneF p.facts.xs g) p.boxes.xs pts) :
  TreeIn zah (oneF p.facts.xs g) p.boxes.xs g (zcy p.facts.xs g) (zcg g):=by
 have h1:=hd.one g hg
 refine ⟨h1.1,h1.2,fun l i k hl hw h=>znK ok hd hg hl hw h,fun l hl hw h hb=>znn ok hd hg hl hw h hb,fun l hl hw hs hb=>?_⟩
 have hgl:∀ i∈g,i < l.length:=fun i hi=>by rw [hl];exact h1.2 i hi
 obtain ⟨w1,w2,w3⟩:=zgl hne hw hgl
 refine ⟨w1,w2,hgl _ w1,?_⟩
 refine Classical.byContradiction fun hc=>?_
 have hsz:zdq l (zcg g l)<=1:=by
  unfold zdq;rw [getElem!_pos l _ (hgl _ w1)];omega
 have hone:∀ i (h:i∈g),l[i]'(hgl i h)=atB ⟨(l[i]'(hgl i h)).x.lo,(l[i]'(hgl i h)).y.lo⟩:=fun i hi=>by
  have h0:=w3 i hi 0 (by decide);have h1:=w3 i hi 1 (by decide);generalize zdq l (zcg g l)=W at *;have hwi:=hw _ (List.getElem_mem (hgl i hi));unfold zdq at h0 h1;rw [getElem!_pos l i (hgl i hi)] at h0 h1;simp only [axS,if_true,Nat.one_ne_zero,if_false] at h0 h1;have h0':(l[i]'(hgl i hi)).x.hi - (l[i]'(hgl i hi)).x.lo+1<=1:=Int.le_trans h0 hsz;have h1':(l[i]'(hgl i hi)).y.hi - (l[i]'(hgl i hi)).y.lo+1<=1:=Int.le_trans h1 hsz;unfold wfB at hwi;clear h0 h1;generalize l[i]'(hgl i hi)=b at *;obtain ⟨⟨a,b⟩,⟨c,d⟩⟩:=b;simp only at h0' h1' hwi;have e1:b=a:=by omega
  have e2:d=c:=by omega
  subst e1 e2;rfl
 refine hno (l.map fun b=>⟨b.x.lo,b.y.lo⟩) ⟨by simp [hl],fun i h h'=>?_,fun f hf=>?_⟩
 ·have hil:i < l.length:=by simpa using h
  have s1:=hs.2 i hil h';have s2:=hw _ (List.getElem_mem hil);unfold subB subS at s1;unfold wfB at s2;unfold inB';simp only [List.getElem_map];omega
 ·obtain ⟨hff,hfg⟩:=mem_oneF.1 hf;have hwi:=hd.within f hff g hg hfg;have key:∀ j∈g,((l.map fun b=>(⟨b.x.lo,b.y.lo⟩:Pt)).map atB)[j]! = l[j]! := fun j hj=>by
   have hjl:=hgl j hj;rw [getElem!_pos l j hjl,getElem!_pos _ j (by simpa using hjl)];simp only [List.getElem_map];exact (hone j hj).symm
  have e:=za4 (f:=f) (l:=((l.map fun b=>(⟨b.x.lo,b.y.lo⟩:Pt)).map atB)) (m:=l) ⟨key _ hwi.a,key _ hwi.b,fun hk=>key _ (hwi.c hk)⟩;rw [e]
  cases hfl:zC f l with
  | false=>rfl
  | true=>exact absurd ⟨f,hf,hfl⟩ hb
def zhr (fs:List Fact) (i:Int) (l:List Box):Prop:=0<=i/\i < fs.length/\zC fs[i.toNat]! l=true
theorem zjw {fs:List Fact} {l:List Box}:∀ {is:List Int},okIs fs is->0<=badI fs l is->zhr fs (badI fs l is) l/\badI fs l is∈is
 | [],_,h=>by simp [badI] at h
 | i::is,ho,h=>by
  unfold badI at h ⊢
  by_cases hf:zC fs[i.toNat]! l=true
  ·simp only [hf,if_true] at h ⊢;have:=ho i List.mem_cons_self;exact ⟨⟨this.1,this.2,hf⟩,List.mem_cons_self⟩
  ·simp only [hf] at h ⊢;have:=zjw (fun j hj=>ho j (List.mem_cons_of_mem _ hj)) h;exact ⟨this.1,List.mem_cons_of_mem _ this.2⟩
def zbB (p:Problem) (g:List Nat) (m:Nat) (l:List Box):List Node:=zfT (fun l=>badI p.facts.xs l (zeN p.facts.xs g)) (zbi (zcy p.facts.xs g) (zcg g)) m l
theorem zlK {p:Problem} (ok:CheckOk p) (g:List Nat):Anti zah (oneF p.facts.xs g) p.boxes.xs.length:=fun f hf=>zbJ ok f (mem_oneF.1 hf).1
theorem zpZ {p:Problem} (ok:CheckOk p) {gs:List (List Nat)} (hd:IsDiv p.facts.xs p.boxes.xs.length gs) {g:List Nat} (hg:g∈gs) (hne:g≠[]) (hno:∀ pts,¬ IsSol (oneF p.facts.xs g) p.boxes.xs pts)
  {r:Option (List Box)} (hr:IsNar zah (oneF p.facts.xs g) p.boxes.xs r) {m:Nat} (hm:muL p.boxes.xs < m) :
  FitsT (zhr p.facts.xs) p.boxes.xs (zbB p g m p.boxes.xs)/\(zbB p g m p.boxes.xs).length+1<=2*(muL p.boxes.xs+topV r g) :=
 zqD (fun l h=>(zjw (ziQ _ _) h).1) (fun l h hb=>by
  obtain ⟨f,hf,hs⟩:=hb;have:=bad_mineG.2 ⟨f,hf,hs⟩;omega) (zlK ok g) (zbx ok) hr (zsD ok hd hg hne hno) m hm
def zdC (p:Problem) (g:List Nat):Prop:=∀ pts,¬ IsSol (oneF p.facts.xs g) p.boxes.xs pts
theorem IsDiv.oneF {fs:List Fact} {n:Nat} {gs:List (List Nat)} (h:IsDiv fs n gs) (g:List Nat):IsDiv (oneF fs g) n gs :=
 ⟨h.nodup,h.all,fun f hf=>h.within f (mem_oneF.1 hf).1,fun f hf=>h.named f (mem_oneF.1 hf).1⟩
def zef (l:List Box) (g:List Nat) (c:List Pt):List Pt:=(List.range l.length).map fun j=>if j∈g then c[g.idxOf j]! else ⟨l[j]!.x.lo,l[j]!.y.lo⟩
theorem zfs (l:List Box) (g:List Nat) (c:List Pt):(zef l g c).length=l.length:=by simp [zef]
theorem zjm {l:List Box} {g:List Nat} {c:List Pt} {j:Nat} (hj:j < l.length) (h:j∈g):(zef l g c)[j]! = c[g.idxOf j]! := by
 rw [getElem!_pos _ j (by rw [zfs];exact hj)];simp [zef,h]
theorem zlT {l:List Box} {g:List Nat} {c:List Pt} (hn:g.Nodup) (hi:∀ i∈g,i < l.length) (hc:c.length=g.length):pick (zef l g c) g=c:=by
 refine List.ext_getElem (by simp [pick,hc]) fun k h1 h2=>?_
 have hk:k < g.length:=by omega
 simp only [pick,List.getElem_map];rw [zjm (hi _ (List.getElem_mem hk)) (List.getElem_mem hk),hn.idxOf_getElem k hk,getElem!_pos c k h2]
theorem zmI {fs:List Fact} {l:List Box} {g:List Nat} {c:List Pt} (hw:Wf l) (hn:g.Nodup) (hi:∀ i∈g,i < l.length) (hwi:∀ f∈fs,f.a.toNat∈g->Within g f) (hc:c∈zaj (oneF fs g) l g):IsSol (oneF fs g) l (zef l g c):=by
 obtain ⟨⟨h1,h2⟩,h3⟩:=(zd0 hn fun f hf ha=>hwi f (mem_oneF.1 hf).1 ha).1 hc
 refine ⟨zfs _ _ _,fun j h h'=>?_,fun f hf=>?_⟩
 ·by_cases hj:j∈g
  ·have e:=zjm (c:=c) h' hj;rw [getElem!_pos _ j h] at e;rw [e];have hk:g.idxOf j < g.length:=List.idxOf_lt_length_iff.2 hj;have:=h2 (g.idxOf j) hk (by omega);rw [List.getElem_idxOf] at this;rw [getElem!_pos c _ (by omega)];rwa [getElem!_pos l j h'] at this
  ·simp only [zef,List.getElem_map,List.getElem_range,hj,if_false];have:=hw _ (List.getElem_mem h');rw [getElem!_pos l j h'];unfold wfB at this;unfold inB';simp only;omega
 ·obtain ⟨hf1,hf2⟩:=mem_oneF.1 hf;rw [<- zfC (facts:=fs) (zfs l g c) hn hi (hwi f hf1 hf2),zlT hn hi h1];exact h3 f hf hf2
theorem zsb {p q:Problem} (ok:CheckOk p) {g:List Nat} (hb:q.boxes.xs=p.boxes.xs) (hf:q.facts.xs=oneF p.facts.xs g):CheckOk q :=
 ⟨by rw [hb];exact ok.nb,by rw [hf];exact Nat.le_trans (List.length_filter_le ..) ok.nf,by rw [hb];exact ok.box,by rw [hf,hb];exact fun f h=>ok.fact f (mem_oneF.1 h).1⟩
section
variable {p q:Problem} {gs:List (List Nat)} {g:List Nat}
theorem zlG (hb:q.boxes.xs=p.boxes.xs) (hf:q.facts.xs=oneF p.facts.xs g) (hr:IsNar zah q.facts.xs q.boxes.xs none):zdC p g:=fun pts h=>by
 obtain ⟨l,e,_⟩:=zgf (p:=q) hr (pts:=pts) (by unfold Solv;rw [hb,hf];exact h);simp at e
theorem zrx (ok:CheckOk p) (hd:IsDiv p.facts.xs p.boxes.xs.length gs) (hg:g∈gs) (hb:q.boxes.xs=p.boxes.xs) (hf:q.facts.xs=oneF p.facts.xs g) {l:List Box} (hs:SubL l p.boxes.xs) (hw:Wf l):SeenOk q.facts.xs l g (zaf q.facts.xs l g):=by
 have h1:=hd.one g hg
 refine zoI (fun k hk=>by rw [hs.1];exact h1.2 k hk) hw (fun f h ha=>?_) fun f h=>?_
 ·rw [hf] at h;exact hd.within f (mem_oneF.1 h).1 g hg ha
 ·rw [hf] at h;have h1:=(zaD f _).1 (ok.fact f (mem_oneF.1 h).1);exact ⟨by omega,by omega,by omega⟩
theorem zmu (ok:CheckOk p) (hd:IsDiv p.facts.xs p.boxes.xs.length gs) (hg:g∈gs) (hb:q.boxes.xs=p.boxes.xs) (hf:q.facts.xs=oneF p.facts.xs g) {l:List Box} (hr:IsNar zah q.facts.xs q.boxes.xs (some l)):(zaf q.facts.xs l g).n=0↔zdC p g:=by
 have h1:=hd.one g hg;have hs:SubL l p.boxes.xs:=by rw [<- hb];exact hr.1.sub
 rw [(zrx ok hd hg hb hf hs hr.1.wf).n]
 constructor
 ·intro h0 pts h;obtain ⟨l',e,h'⟩:=zgf (p:=q) hr (pts:=pts) (by unfold Solv;rw [hb,hf];exact h);simp only [Option.some.injEq] at e;subst e;have:=zit (by rw [hf,hs.1];exact hd.oneF g) h' g hg;rw [List.eq_nil_of_length_eq_zero h0] at this;simp at this
 ·intro hno
  refine Classical.byContradiction fun hc=>?_
  obtain ⟨c,hc⟩:=List.exists_mem_of_ne_nil (zaj q.facts.xs l g) fun e=>hc (by rw [e];rfl);rw [hf] at hc;have:=zmI hr.1.wf h1.1 (fun i hi=>by rw [hs.1];exact h1.2 i hi) (fun f hf ha=>hd.within f hf g hg ha) hc;have h2:=(zga (p:=q) hr _).2 (by rw [hf];exact this);unfold Solv at h2;rw [hf,hb] at h2;exact hno _ h2
theorem zsj (ok:CheckOk p) (hd:IsDiv p.facts.xs p.boxes.xs.length gs) (h:∀ g∈gs,¬ zdC p g):∃ pts,Solv p pts:=by
 have hex:∀ g∈gs,∃ pts,IsSol (oneF p.facts.xs g) p.boxes.xs pts:=fun g hg=>Classical.byContradiction fun hc=>h g hg fun pts hp=>hc ⟨pts,hp⟩;obtain ⟨ch,hch⟩:∃ ch:List Nat->List Pt,∀ g∈gs,IsSol (oneF p.facts.xs g) p.boxes.xs (ch g):=by
  refine ⟨fun g=>if h:g∈gs then (hex g h).choose else [],fun g hg=>?_⟩
  simp only;rw [dif_pos hg];exact (hex g hg).choose_spec
 have hof:∀ j,j < p.boxes.xs.length->∃ g∈gs,j∈g:=fun j hj=>List.mem_flatten.1 ((hd.all j).1 hj);obtain ⟨of,hof⟩:∃ of:Nat->List Nat,∀ j,j < p.boxes.xs.length->of j∈gs/\j∈of j:=by
  refine ⟨fun j=>if h:j < p.boxes.xs.length then (hof j h).choose else [],fun j hj=>?_⟩
  simp only;rw [dif_pos hj];exact (hof j hj).choose_spec
 have hlen:((List.range p.boxes.xs.length).map fun j=>(ch (of j))[j]!).length=p.boxes.xs.length:=by simp
 refine ⟨(List.range p.boxes.xs.length).map fun j=>(ch (of j))[j]!,hlen,fun j h h'=>?_,fun f hf=>?_⟩
 ·have hs:=hch _ (hof j h').1;have:=hs.inn j (by rw [hs.len];exact h') h';simp only [List.getElem_map,List.getElem_range];rwa [getElem!_pos _ j (by rw [hs.len];exact h')]
 ·have ha:f.a.toNat < p.boxes.xs.length:=by have:=(hd.named f hf).a;omega
  obtain ⟨hg,hag⟩:=hof _ ha;have hwi:=hd.within f hf _ hg hag;have hs:=hch _ hg;have key:∀ j∈of f.a.toNat,(((List.range p.boxes.xs.length).map fun j=>(ch (of j))[j]!).map atB)[j]! = ((ch (of f.a.toNat)).map atB)[j]! := fun j hj=>by
   have hjl:=(hd.one _ hg).2 j hj;have e:of j=of f.a.toNat:=zh2 hd.nodup (hof j hjl).1 hg (hof j hjl).2 hj;rw [getElem!_pos _ j (by simpa using hjl),getElem!_pos ((ch (of f.a.toNat)).map atB) j (by rw [List.length_map,hs.len];exact hjl)];simp only [List.getElem_map,List.getElem_range];rw [e,getElem!_pos _ j (by rw [hs.len];exact hjl)]
  rw [za4 ⟨key _ hwi.a,key _ hwi.b,fun hk=>key _ (hwi.c hk)⟩];exact hs.facts f (mem_oneF.2 ⟨hf,hag⟩)
end
def zbl (fs:List Fact) (tree:List Node):Nat->List Box->Nat->Bool×Nat
 | 0,_,a=>(false,a)
 | m+1,l,a=>match tree[a]? with
  | none=>(false,a)
  | some d=>if d.fact≠-1 then (decide (0<=d.fact)&&(decide (d.fact < fs.length)&&(decide (d.point=0)&&(decide (d.axis=0)&&(decide (d.at_=0)&&zC fs[d.fact.toNat]! l)))),a+1)
   else if 0<=d.point/\d.point < l.length/\0<=d.axis/\d.axis<=1 then
    if (axS l[d.point.toNat]! d.axis.toNat).lo<=d.at_/\d.at_ < (axS l[d.point.toNat]! d.axis.toNat).hi then
     if (zbl fs tree m (lowL l d.point.toNat d.axis.toNat d.at_) (a+1)).1 then zbl fs tree m (za2 l d.point.toNat d.axis.toNat d.at_) (zbl fs tree m (lowL l d.point.toNat d.axis.toNat d.at_) (a+1)).2
     else (false,(zbl fs tree m (lowL l d.point.toNat d.axis.toNat d.at_) (a+1)).2)
    else (false,a+1)
   else (false,a+1)
def zcL (fs:List Fact) (boxes:List Box) (tree:List Node):Bool:=(zbl fs tree (muL boxes+1) boxes 0).1&&decide ((zbl fs tree (muL boxes+1) boxes 0).2=tree.length)
theorem zho (fs:List Fact) (tree:List Node):∀ (m:Nat) (l:List Box) (a:Nat),a<=tree.length->a<=(zbl fs tree m l a).2/\(zbl fs tree m l a).2<=tree.length
 | 0,l,a,h=>⟨Nat.le_refl _,h⟩
 | m+1,l,a,h=>by
  unfold zbl
  cases ht:tree[a]? with
  | none=>exact ⟨Nat.le_refl _,h⟩
  | some d =>
   have ha:a < tree.length:=(List.getElem?_eq_some_iff.1 ht).1;simp only
   repeat' split
   ·exact ⟨by simp only;omega,by simp only;omega⟩
   ·have h1:=zho fs tree m (lowL l d.point.toNat d.axis.toNat d.at_) (a+1) (by omega);have h2:=zho fs tree m (za2 l d.point.toNat d.axis.toNat d.at_) _ h1.2;exact ⟨by omega,h2.2⟩
   ·have h1:=zho fs tree m (lowL l d.point.toNat d.axis.toNat d.at_) (a+1) (by omega);exact ⟨by simp only;omega,by simp only;omega⟩
   ·exact ⟨by simp only;omega,by simp only;omega⟩
   ·exact ⟨by simp only;omega,by simp only;omega⟩
theorem zqg {fs:List Fact} {l:List Box} {t:List Node} (h:FitsT (zhr fs) l t):∀ (pre post:List Node) (m:Nat),muL l < m->zbl fs (pre++t++post) m l pre.length=(true,pre.length+t.length):=by
 induction h with
 | leaf l f hb =>
  intro pre post m hm;obtain ⟨m,rfl⟩:∃ k,m=k+1:=⟨m - 1,by omega⟩
  obtain ⟨h0,h1,h2⟩:=hb;have e:(pre++[(⟨f,0,0,0⟩:Node)]++post)[pre.length]?=some ⟨f,0,0,0⟩:=by simp
  unfold zbl;rw [e];simp only;rw [if_pos (by omega),h2];simp [h0,h1]
 | node l i ax t ta tb hp ha hb iha ihb =>
  intro pre post m hm;obtain ⟨m,rfl⟩:∃ k,m=k+1:=⟨m - 1,by omega⟩
  have e:(pre++((⟨-1,i,ax,t⟩:Node)::(ta++tb))++post)[pre.length]?=some ⟨-1,i,ax,t⟩:=by simp
  have hil:=hp.il;have hal:=hp.al;have m1:=zkT hp;have m2:=zhj hp;have a1:=iha (pre++[⟨-1,i,ax,t⟩]) (tb++post) m (by omega);have b1:=ihb (pre++[⟨-1,i,ax,t⟩]++ta) post m (by omega);have e1:pre++[(⟨-1,i,ax,t⟩:Node)]++ta++(tb++post)=pre++((⟨-1,i,ax,t⟩:Node)::(ta++tb))++post:=by simp
  have e2:pre++[(⟨-1,i,ax,t⟩:Node)]++ta++tb++post=pre++((⟨-1,i,ax,t⟩:Node)::(ta++tb))++post:=by simp
  rw [e1] at a1;rw [e2] at b1;have e3:(pre++[(⟨-1,i,ax,t⟩:Node)]).length=pre.length+1:=by simp
  have e4:(pre++[(⟨-1,i,ax,t⟩:Node)]++ta).length=pre.length+1+ta.length:=by simp;omega
  rw [e3] at a1;rw [e4] at b1;unfold zbl;rw [e];simp only [Int.toNat_natCast];rw [if_neg (by simp),if_pos (by omega),if_pos (by rw [getElem!_pos l i hil];exact ⟨hp.lo,hp.hi⟩),a1];simp only [if_true];rw [b1];simp only [List.length_cons,List.length_append,Prod.mk.injEq,true_and];omega
theorem zp8 {fs:List Fact} {l:List Box} {t:List Node} (h:FitsT (zhr fs) l t):zcL fs l t=true:=by
 have:=zqg h [] [] (muL l+1) (by omega);simp only [List.nil_append,List.append_nil,List.length_nil,Nat.zero_add] at this;unfold zcL;rw [this];simp
theorem zfE {p:Problem} (ok:CheckOk p) (tree:List Node) {pts:List Pt} (hs:Solv p pts):∀ (m:Nat) (l:List Box) (a:Nat),SubL l p.boxes.xs->Wf l->(∀ i (h:i < pts.length) (h':i < l.length),inB' pts[i] l[i])->(zbl p.facts.xs tree m l a).1=false
 | 0,l,a,_,_,_=>rfl
 | m+1,l,a,hl,hw,hin=>by
  have hpl:pts.length=l.length:=hs.len.trans hl.1.symm;unfold zbl
  cases ht:tree[a]? with
  | none=>rfl
  | some d =>
   simp only
   split
   ·rename_i hf;simp only [Bool.and_eq_false_iff,decide_eq_false_iff_not]
    by_cases h0:0<=d.fact
    ·by_cases h1:d.fact < p.facts.xs.length
     ·refine .inr (.inr (.inr (.inr (.inr ?_))))
      have hk:d.fact.toNat < p.facts.xs.length:=by omega
      rw [getElem!_pos p.facts.xs d.fact.toNat hk]
      cases hfl:zC p.facts.xs[d.fact.toNat] l with
      | false=>rfl
      | true =>
       have h2:=zbJ ok _ (List.getElem_mem hk) (pts.map atB) l hl.1 hw (zkC hpl hin) (zoi pts) hfl;unfold zah at h2;rw [hs.facts _ (List.getElem_mem hk)] at h2;simp at h2
     ·exact .inr (.inl h1)
    ·exact .inl h0
   ·split
    ·rename_i hr
     split
     ·rename_i hc;have hi:d.point.toNat < l.length:=by omega
      have hax:d.axis.toNat < 2:=by omega
      rw [getElem!_pos l _ hi] at hc;obtain ⟨w1,w2,s1,s2⟩:=zkn (hw _ (List.getElem_mem hi)) hc.1 hc.2;have hpi:d.point.toNat < pts.length:=by omega
      have hin0:=hin _ hpi hi;have q1:=(SubL.refl l).set (i:=d.point.toNat) s1;have q2:=(SubL.refl l).set (i:=d.point.toNat) s2;rw [List.set_getElem_self] at q1 q2;have hcase:inB' pts[d.point.toNat] (lowS l[d.point.toNat] d.axis.toNat d.at_)\/inB' pts[d.point.toNat] (zdA l[d.point.toNat] d.axis.toNat d.at_):=by
       clear q1 q2 s1 s2 w1 w2;unfold inB' lowS zdA putS axS at *
       by_cases e:d.axis.toNat=0
       ·simp only [e,if_true] at hc hin0 ⊢;omega
       ·simp only [e,if_false] at hc hin0 ⊢;omega
      have hset:∀ b,inB' pts[d.point.toNat] b->∀ i (h:i < pts.length) (h':i < (l.set d.point.toNat b).length),inB' pts[i] (l.set d.point.toNat b)[i]:=fun b hb i h h'=>by
       by_cases e:d.point.toNat=i
       ·subst e;rw [List.getElem_set_self];exact hb
       ·rw [List.getElem_set_ne e];exact hin i h (by simpa using h')
      rw [zcH hi,zbS hi];rcases hcase with h|h
      ·rw [zfE ok tree hs m _ (a+1) (q1.trans hl) (hw.set w1) (hset _ h)];simp
      ·split
       ·exact zfE ok tree hs m _ _ (q2.trans hl) (hw.set w2) (hset _ h)
       ·rfl
     ·rfl
    ·rfl
theorem ziL {p:Problem} (ok:CheckOk p) {tree:List Node} {pts:List Pt} (hs:Solv p pts):zcL p.facts.xs p.boxes.xs tree=false:=by
 unfold zcL;rw [zfE ok tree hs _ _ 0 (SubL.refl _) (zbx ok) hs.inn];rfl
def mixL (g:List Nat) (N:List Box) (pts:List Pt):List Box:=(List.range N.length).map fun j=>if j∈g then N[j]! else atB pts[j]!
theorem zoF (g:List Nat) (N:List Box) (pts:List Pt):(mixL g N pts).length=N.length:=by simp [mixL]
theorem zhM {g:List Nat} {N:List Box} {pts:List Pt} {j:Nat} (h:j < N.length):(mixL g N pts)[j]! = if j∈g then N[j]! else atB pts[j]! := by
 rw [getElem!_pos _ j (by rw [zoF];exact h)];simp [mixL]
theorem zgE {l:List Box} {i k j:Nat} (hi:i < l.length) (hj:j < l.length):(zZ l i k)[j]! = if i=j then zba l[j]! k else l[j]! := by
 rw [zaQ hi,getElem!_pos _ j (by simpa using hj),List.getElem_set]
 split
 ·rename_i e;subst e;rw [getElem!_pos l i hi]
 ·rw [getElem!_pos l j hj]
structure BesideP (q:Problem) (g:List Nat) (pts:List Pt):Prop where
 inn:∀ j,j < q.boxes.xs.length->j ∉ g->inB' pts[j]! q.boxes.xs[j]!
 len:pts.length=q.boxes.xs.length
 facts:∀ f∈q.facts.xs,f.a.toNat ∉ g->zC f (pts.map atB)=false
theorem znj {q:Problem} (ok:CheckOk q) {gs:List (List Nat)} (hd:IsDiv q.facts.xs q.boxes.xs.length gs) {g:List Nat} (hg:g∈gs) {N:List Box} (hw:Wf N) (hs:SubL N q.boxes.xs) (hst:Stable zah (oneF q.facts.xs g) N) {pts:List Pt} (hb:BesideP q g pts) :
  Wf (mixL g N pts)/\SubL (mixL g N pts) q.boxes.xs/\Stable zah q.facts.xs (mixL g N pts):=by
 have hl:=zoF g N pts
 refine ⟨fun b hbm=>?_,⟨by rw [hl];exact hs.1,fun i h1 h2=>?_⟩,fun i hi k hk f hf hfs=>?_⟩
 ·obtain ⟨j,hj,rfl⟩:=List.mem_iff_getElem.1 hbm;have hj':j < N.length:=by omega
  have e:=zhM (g:=g) (pts:=pts) hj';rw [getElem!_pos _ j hj] at e;rw [e]
  split
  ·rw [getElem!_pos N j hj'];exact hw _ (List.getElem_mem hj')
  ·exact ⟨Int.le_refl _,Int.le_refl _⟩
 ·have hj':i < N.length:=by omega
  have e:=zhM (g:=g) (pts:=pts) hj';rw [getElem!_pos _ i h1] at e;rw [e]
  split
  ·rw [getElem!_pos N i hj'];exact hs.2 i hj' h2
  ·rename_i hng;have:=hb.inn i h2 hng;rw [getElem!_pos q.boxes.xs i h2] at this;unfold inB' at this;simp only [atB,subB,subS];omega
 ·have hn:=hd.named f hf;have hiN:i < N.length:=by omega
  by_cases hfg:f.a.toNat∈g
  ·have hwi:=hd.within f hf g hg hfg;have key:∀ j∈g,(zZ (mixL g N pts) i k)[j]! = (zZ N i k)[j]! := fun j hj=>by
    have hjl:j < N.length:=by rw [hs.1];exact (hd.one g hg).2 j hj
    rw [zgE hi (by omega),zgE hiN hjl,zhM hjl,if_pos hj]
   refine hst i hiN k hk f (mem_oneF.2 ⟨hf,hfg⟩) ?_
   unfold zah at hfs ⊢;rw [<- hfs];exact (za4 ⟨key _ hwi.a,key _ hwi.b,fun h2=>key _ (hwi.c h2)⟩).symm
  ·have key:∀ j:Int,0<=j/\j < q.boxes.xs.length->j.toNat ∉ g->(zZ (mixL g N pts) i k)[j.toNat]! = (pts.map atB)[j.toNat]! := fun j h1 hj=>by
    have hjl:j.toNat < N.length:=by rw [hs.1];omega
    have hjp:j.toNat < pts.length:=by rw [hb.len];omega
    rw [zgE hi (by omega),zhM hjl,if_neg hj,getElem!_pos (pts.map atB) _ (by simpa using hjp),List.getElem_map,getElem!_pos pts _ hjp]
    split
    ·exact zmA _ _
    ·rfl
   have out:∀ j:Int,0<=j->zaL f j=true->j.toNat ∉ g:=fun j h0 hj hjg=>hfg (zjx ok hd hg hjg hf (by rw [show ((j.toNat:Nat):Int)=j by omega];exact hj));have na:zaL f f.a=true:=by unfold zaL;simp
   have nb:zaL f f.b=true:=by unfold zaL;simp
   have nc:f.kind=2->zaL f f.c=true:=fun h=>by unfold zaL;simp [h]
   have e:=za4 (f:=f) (l:=zZ (mixL g N pts) i k) (m:=pts.map atB) ⟨key _ hn.a hfg,key _ hn.b (out _ hn.b.1 nb),fun h2=>key _ hn.c (out _ hn.c.1 (nc h2))⟩;unfold zah at hfs;rw [e,hb.facts f hf hfg] at hfs;simp at hfs
theorem zoL {g:List Nat} {N:List Box} {pts:List Pt}:∀ {h:List Nat},(∀ i∈h,i∈g/\i < N.length)->volN (mixL g N pts) h=volN N h
 | [],_=>rfl
 | i::h,hh=>by
  have h1:=hh i List.mem_cons_self;simp only [volN];rw [zhM h1.2,if_pos h1.1,zoL fun j hj=>hh j (List.mem_cons_of_mem _ hj)]
theorem zkx {a b:List Box} (hs:SubL a b):∀ {g:List Nat},(∀ i∈g,i < a.length)->volN a g<=volN b g
 | [],_=>Nat.le_refl _
 | i::g,h=>by
  have hi:=h i List.mem_cons_self;have hi':i < b.length:=by rw [<- hs.1];exact hi
  have h1:=hs.2 i hi hi';simp only [volN];rw [getElem!_pos a i hi,getElem!_pos b i hi']
  refine Nat.mul_le_mul ?_ (zkx hs fun j hj=>h j (List.mem_cons_of_mem _ hj))
  unfold subB subS at h1;unfold zbQ;exact Nat.mul_le_mul (by omega) (by omega)
theorem ziw {b:Box} (h:wfB b):zbf b=(zbQ b:Int):=by
 unfold zbf zbQ;unfold wfB at h;rw [Int.natCast_mul,Int.toNat_of_nonneg (by omega),Int.toNat_of_nonneg (by omega)]
theorem zk1 {l:List Box} (hw:Wf l):∀ (g:List Nat) (n:Nat),(∀ i∈g,i < l.length)->1<=n->volG l n g<=65536->((n*volN l g:Nat):Int)=volG l n g
 | [],n,_,_,_=>by simp [volG,volN]
 | i::g,n,h,h1,hv=>by
  have hi:=h i List.mem_cons_self;have hwi:=hw _ (List.getElem_mem hi);have ha:=ziw hwi;have hp:=zgv hwi;have e1:zbf l[i]! = (zbQ l[i]! : Int):=by rw [getElem!_pos l i hi];exact ha
  have hp1:1<=zbQ l[i]! := by rw [getElem!_pos l i hi];exact hp
  have hgt:∀ (g:List Nat) (x:Int),(∀ i∈g,i < l.length)->x=65537->volG l x g=65537:=by
   intro g
   induction g with
   | nil=>intro x _ hx;simp [volG,hx]
   | cons a g ih =>
    intro x hh hx;rw [volG]
    refine ih _ (fun j hj=>hh j (List.mem_cons_of_mem _ hj)) ?_
    have ha:=hh a List.mem_cons_self;have h2:=zgv (hw _ (List.getElem_mem ha));have h3:zbf l[a]! = (zbQ l[a]:Int):=by rw [getElem!_pos l a ha];exact ziw (hw _ (List.getElem_mem ha))
    rw [h3,hx];omega
  have hgr:∀ j∈g,j < l.length:=fun j hj=>h j (List.mem_cons_of_mem _ hj);rw [volG] at hv ⊢;rw [e1] at hv ⊢
  by_cases hc:(n:Int)*(zbQ l[i]! : Int)<=65536
  ·rw [show min ((n:Int)*(zbQ l[i]! : Int)) 65537=((n*zbQ l[i]! : Nat):Int) by rw [Int.natCast_mul];omega] at hv ⊢;rw [<- zk1 hw g (n*zbQ l[i]!) hgr (Nat.mul_pos h1 hp1) hv];simp only [volN];rw [Nat.mul_assoc]
  ·rw [show min ((n:Int)*(zbQ l[i]! : Int)) 65537=65537 by omega,hgt g _ hgr rfl] at hv;omega
theorem zqq {l:List Box} (hw:Wf l) {g:List Nat} (hg:∀ i∈g,i < l.length) (h1:1 < g.length) (hv:volP l g<=65536):volN l g<=65536:=by
 unfold volP at hv;rw [if_pos h1] at hv;have:=zk1 hw g 1 hg (Nat.le_refl _) (by simpa using hv);simp at this;omega
theorem zgw {p:Problem} (ok:CheckOk p) {gs:List (List Nat)} (hd:IsDiv p.facts.xs p.boxes.xs.length gs) {g:List Nat} (hg:g∈gs) (hno:zdC p g):1 < g.length:=by
 refine Classical.byContradiction fun hc=>?_
 have hone:oneF p.facts.xs g=[]:=by
  refine List.eq_nil_iff_forall_not_mem.2 fun f hf=>?_
  obtain ⟨hff,hfg⟩:=mem_oneF.1 hf;have hw:=hd.within f hff g hg hfg;have hfm:=(zaD f _).1 (ok.fact f hff)
  match g,hc,hw with
  | [],_,hw=>simpa using hw.a
  | [x],_,hw =>
   have ha:=hw.a;have hb:=hw.b;simp only [List.mem_singleton] at ha hb;omega
  | x::y::r,hc,_=>simp at hc
 refine hno (p.boxes.xs.map fun b=>⟨b.x.lo,b.y.lo⟩) ⟨by simp,fun i h h'=>?_,fun f hf=>?_⟩
 ·have:=zbx ok _ (List.getElem_mem h');unfold wfB at this;simp only [List.getElem_map];unfold inB';simp only;omega
 ·rw [hone] at hf;simp at hf
theorem zpg {q:Problem} (ok:CheckOk q) {gs:List (List Nat)} (hd:IsDiv q.facts.xs q.boxes.xs.length gs) {g:List Nat} (hg:g∈gs) {r:Option (List Box)} (hr:IsNar zah (oneF q.facts.xs g) q.boxes.xs r) {pts:List Pt} (hb:BesideP q g pts)
  (hv:∀ m,Wf m->SubL m q.boxes.xs->Stable zah q.facts.xs m->volN m g<=65536):topV r g<=65536:=by
 cases r with
 | none=>simp [topV]
 | some N =>
  obtain ⟨h1,h2⟩:=hr;obtain ⟨w,s,st⟩:=znj ok hd hg h1.wf h1.sub h2 hb;have:=hv _ w s st;rw [zoL fun i hi=>⟨hi,by rw [h1.sub.1];exact (hd.one g hg).2 i hi⟩] at this;exact this
theorem zjj {p q:Problem} (okq:CheckOk q) {gs:List (List Nat)} (hd:IsDiv q.facts.xs q.boxes.xs.length gs) {g:List Nat} (hg:g∈gs) {pts:List Pt} (hs:Solv p pts) (hl:q.boxes.xs.length=p.boxes.xs.length)
  (hbx:∀ j,j < q.boxes.xs.length->j ∉ g->q.boxes.xs[j]! = p.boxes.xs[j]!) (hf:∀ f∈q.facts.xs,f.a.toNat ∉ g->zC f (pts.map atB)=false):BesideP q g pts :=
 ⟨fun j hj hjg=>by
  rw [hbx j hj hjg];have hjp:j < pts.length:=by rw [hs.len];omega
  have:=hs.inn j hjp (by omega);rwa [getElem!_pos pts j hjp,getElem!_pos p.boxes.xs j (by omega)],by rw [hs.len,hl],hf⟩
end Go.Proofs.YtmmhnfghklppiaaGreat.Vm
