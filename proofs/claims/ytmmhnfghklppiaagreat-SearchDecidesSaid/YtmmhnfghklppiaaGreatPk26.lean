/- Narrow, Parts and Volume: the program's, walked. find and solved: what is seen of all parts, walked. solved, Count: the program's, walked. found.hull and Hull: the program's, walked. What find, Count, Hull and Decide say of the solutions. Plain Lean. A part without a solution: what its tree grows by, and that the tree fits. Plain Lean. The part that has no solution; walking through a tree. Plain Lean. -/
import Derived.Test.YtmmhnfghklppiaaGreatPk23
import Derived.Test.YtmmhnfghklppiaaGreatPk25
import Derived.Test.YtmmhnfghklppiaaGreatPk18
import Derived.Test.YtmmhnfghklppiaaGreatPk9
namespace Go.Proofs.YtmmhnfghklppiaaGreat.Vm
open Go
set_option linter.unusedSimpArgs false
set_option linter.unusedVariables false
set_option maxHeartbeats 4000000
set_option maxRecDepth 4000
theorem zqB {p:Problem} {l:List Box} (hl:l.length=p.boxes.xs.length):∃ q:Sl Box,zdK p (some l)=q.pv Box.cells 4/\q.xs=l:=by
 obtain ⟨bs,fs⟩:=p
 cases bs with
 | nil =>
  have:l=[]:=List.eq_nil_of_length_eq_zero hl;subst this;exact ⟨.nil,rfl,rfl⟩
 | mk h xs=>exact ⟨.mk false l,rfl,rfl⟩
theorem zbS (m:Nat->Nat) (n:Nat):(zK m n).length<=n/\∀ l∈zK m n,l.length<=n/\∀ k∈l,k < n:=by
 refine ⟨ze7 m n n,fun l hl=>?_⟩
 obtain ⟨i,_,_,rfl⟩:=mem_parts.1 hl;exact ⟨zfN m i n,fun k hk=>(mem_partL.1 hk).1⟩
structure FoundD where
 empty:Bool
 seens:List SeenD
def zfC (s:SeenD):List PV:=[s.pv]
@[simp] def FoundD.cells (D:FoundD):List PV:=[.bool D.empty,(Sl.of D.seens).pv zfC 1]
def zbu (L:List SeenD):Bool:=L.any fun s=>s.n == 0
theorem zmQ (L:List SeenD) (s:SeenD):zbu (L++[s])=(zbu L||decide ((s.n:Int)=0)):=by
 unfold zbu;rw [List.any_append];simp only [List.any_cons,List.any_nil,Bool.or_false]
 congr 1
 rw [Bool.eq_iff_iff];simp
def FindOut (p:Problem) (D:FoundD) (e:Int):Prop:=(IsNar zZ p.facts.xs p.boxes.xs none/\D=⟨true,[]⟩/\e=0) \/
 ∃ l m,IsNar zZ p.facts.xs p.boxes.xs (some l)/\IsCls (zak p.facts.xs) p.boxes.xs.length m /\
  ((65536 < volL l (zK m p.boxes.xs.length)/\D=⟨false,[]⟩/\e=2) \/
   (volL l (zK m p.boxes.xs.length)<=65536/\D=⟨zbu ((zK m p.boxes.xs.length).map (zah p.facts.xs l)),(zK m p.boxes.xs.length).map (zah p.facts.xs l)⟩/\e=0))
theorem zf4 {b:List Box}:∀ {ps:List (List Nat)} {x:Int} {g:List Nat},g∈ps->volP b g<=ps.foldl (fun x l=>max x (volP b l)) x
 | a::ps,x,g,h=>by
  rw [List.foldl_cons];rcases List.mem_cons.1 h with rfl|h
  ·have mono:∀ (ps:List (List Nat)) (x:Int),x<=ps.foldl (fun x l=>max x (volP b l)) x:=by
    intro ps
    induction ps with
    | nil=>intro x;exact Int.le_refl _
    | cons a ps ih=>intro x;have:=ih (max x (volP b a));rw [List.foldl_cons];omega
   have:=mono ps (max x (volP b g));omega
  ·exact zf4 h
theorem zaR {p:Problem} (ok:CheckOk p):∀ f∈p.facts.xs,Named f p.boxes.xs.length:=fun f hf=>zgn (ok.fact f hf)
theorem zh4 {p:Problem} (ok:CheckOk p):∀ f∈p.facts.xs,f.a≠f.b/\(f.kind=2->f.c≠f.a):=fun f hf=>by
 have h:=(z8 f _).1 (ok.fact f hf)
 refine ⟨by omega,fun hk=>?_⟩
 have:=h.2.2.2.2.2.1 hk;omega
theorem zs3 {p:Problem} (ok:CheckOk p) {l:List Box} {m:Nat->Nat} (hr:IsNar zZ p.facts.xs p.boxes.xs (some l)) (hm:IsCls (zak p.facts.xs) p.boxes.xs.length m) (hv:volL l (zK m p.boxes.xs.length)<=65536) {q:Sl Box} (hq:q.xs=l) {g:List Nat} (hg:g∈zK m p.boxes.xs.length):LookIn p q g:=by
 have hd:=zbq hm (zaR ok);have hlen:l.length=p.boxes.xs.length:=hr.1.sub.1;obtain ⟨i,hi,hri,rfl⟩:=mem_parts.1 hg;have hpo:=zh0 hm (zaR ok) (zh4 ok) hi hri;have h1:=hd.one _ hg;have hpl:=zbS m p.boxes.xs.length
 refine ⟨ok,by rw [hq];exact hr.1.sub,by rw [hq];exact hr.1.wf,h1.1,fun k hk=>by rw [hq,hlen];exact h1.2 k hk,hpo.2.1,by have:=(hpl.2 _ hg).1;have:=ok.nb;omega,fun f hf ha=>hd.within f hf _ hg ha,fun h=>?_⟩
 rw [hq]
 refine Nat.le_trans (zrP hr.1.wf (fun k hk=>by rw [hlen];exact h1.2 k hk) h ?_) (by decide)
 have:=zf4 (b:=l) (x:=0) hg;unfold volL at hv;omega
theorem sh48:G.shared 48=false:=by decide
theorem e48 (n:Nat) (p:Problem) (ok:CheckOk p) (D:FoundD) (e:Int) (h:FindOut p D e):zH G (n+51) 48 [.agg p.cells]=some (.tup [.agg D.cells,.int .i64 e]):=by
 refine zy (zx _) rfl g48 rfl ?_
 rcases h with ⟨hr,rfl,rfl⟩|⟨l,m,hr,hm,h⟩
 ·have hn:=fun H=>zf (G:=G) (n:=n+50) (H:=H) (caps:=[]) (ps:=[.agg p.cells]) sh62 (e62 (n+43) p ok none hr);have hnone:zdK p none=.nils:=rfl;rw [hnone] at hn;simp only [Problem.cells,List.map_cons,List.map_nil] at hn;clear hr hnone;(repeat' first|simp [*,za,c48,Problem.cells]|(apply zb<;>intro _ h<;>try simp [-Nat.le_zero_eq] at h)|(show wpE 0 (zi ..) ..;refine zm ?_)|(refine zg fun v2 H2 hv2 hnx2 hget2 hnew2 hone2 hcel2=>?_))
 ·have hl:l.length=p.boxes.xs.length:=hr.1.sub.1;obtain ⟨q,hq,hqx⟩:=zqB hl;have hn:=fun H=>zf (G:=G) (n:=n+50) (H:=H) (caps:=[]) (ps:=[.agg p.cells]) sh62 (e62 (n+43) p ok (some l) hr);have hp:=fun H=>zf (G:=G) (n:=n+50) (H:=H) (caps:=[]) (ps:=[.agg p.cells]) sh95 (e95 (n+48) p ok m hm);have hpo:=zbS m p.boxes.xs.length;have nb:=ok.nb;have hv:=fun H=>zf (G:=G) (n:=n+50) (H:=H) (caps:=[]) (ps:=[q.pv Box.cells 4,(Sl.of (zK m p.boxes.xs.length)).pv za7 1]) sh96 (e96 (n+48) q (Sl.of (zK m p.boxes.xs.length)) (by rw [hqx];omega) (by rw [Sl.xs_of];omega) (by rw [hqx];exact zaQ ok hr.1.sub hr.1.wf) (by rw [Sl.xs_of,hqx,hl];exact fun x hx=>⟨by have:=(hpo.2 x hx).1;omega,(hpo.2 x hx).2⟩));have hlk:=Hide.mk (fun (hvol:volL l (zK m p.boxes.xs.length)<=65536) (g:List Nat) (hg:g∈zK m p.boxes.xs.length) H=>zf (G:=G) (n:=n+50) (H:=H) (caps:=[]) (ps:=[.agg p.cells,q.pv Box.cells 4,zao g]) sh97 (e97 n p q g (zs3 ok hr hm hvol hqx hg)));rw [hqx] at hlk;rw [zez] at hp;rw [Sl.xs_of,hqx] at hv;have hps:Hide ((zK m p.boxes.xs.length).length<=12):=⟨by omega⟩
  generalize zK m p.boxes.xs.length=gs at *;rcases h with ⟨hvol,rfl,rfl⟩|⟨hvol,hDe,rfl⟩
  ·have hvol':65536 < volL l gs:=hvol;rw [hq] at hn;simp only [Problem.cells,List.map_cons,List.map_nil] at hn hp hv;clear hr hm hpo hqx hq ok nb hl hlk hvol;generalize volL l gs=x at *;generalize q.pv Box.cells 4=y at *;generalize (Sl.of gs).pv za7 1=w at *;(repeat' first|simp [*,za,c48,Problem.cells]|(apply zb<;>intro _ h<;>try simp [-Nat.le_zero_eq] at h)|(show wpE 0 (zi ..) ..;refine zm ?_)|(refine zg fun v2 H2 hv2 hnx2 hget2 hnew2 hone2 hcel2=>?_))
  ·have hvol':¬ 65536 < volL l gs:=by omega
   have hlk2:=Hide.mk (hlk.h hvol);rw [hq] at hn;simp only [Problem.cells,List.map_cons,List.map_nil] at hn hp hv;clear hr hm hpo hqx hq ok nb hl hlk hvol;generalize volL l gs=x at *;generalize hy:q.pv Box.cells 4=y at *;obtain ⟨s,hs⟩:∃ s,s=Sl.of gs:=⟨_,rfl⟩
   have hsx:s.xs=gs:=by rw [hs,Sl.xs_of]
   rw [<- hs] at hp hv;have hsl:s.xs.length<=12:=by rw [hsx];exact hps.h
   have hsxH:=Hide.mk hsx;have hDeH:=Hide.mk hDe;clear hs hsx hy hDe;(repeat' first|simp [*,za,c48,Problem.cells]|(apply zb<;>intro _ h<;>try simp [-Nat.le_zero_eq] at h)|(show wpE 0 (zi ..) ..;refine zm ?_)|(refine zg fun v2 H2 hv2 hnx2 hget2 hnew2 hone2 hcel2=>?_))
   refine zB [(9,10),(28,52)] (fun (i:Nat) env H=>env 28=.pure (.int .i64 i)/\i<=s.xs.length/\1 < H.nx/\H.get 0=.cells true [.pure (.bool false),.pure .nils]/\∃ V,H.get 1=.cells true [.pure (.bool (zbu ((gs.map (zah p.facts.xs l)).take i))),V]/\Hide (GrowV zfC 1 H V ((gs.map (zah p.facts.xs l)).take i)/\∀ id,Names V id->1 < id)) (fun i=>s.xs.length - i) 0 ?_ ?_ ?_ ?_
   ·decide
   ·exact ⟨by simp,by omega,by simp,by simp,.pure .nils,by simp [zbu],⟨by simpa using GrowV.nil,fun id ⟨_,_,_,h⟩=>by simp at h⟩⟩
   ·simp only [zz];omega
   rintro i env H ⟨g28,hi,hnx,h0,V,h1,hV⟩;generalize hb:zbu ((gs.map (zah p.facts.xs l)).take i)=b at *
   by_cases hlt:i < s.xs.length
   ·have w1:IntKind.i64.wrap ((i:Int)+1)=(i+1:Nat):=by rw [wrap64 (by omega) (by omega)];omega
    have hltI:(i:Int) < s.xs.length:=by omega
    have hig:i < gs.length:=by rw [<- hsxH.h];exact hlt
    have hme:s.xs[i]∈gs:=by rw [<- hsxH.h];exact List.getElem_mem hlt
    have hlk3:=hlk2.h s.xs[i] hme;have hnext:(gs.map (zah p.facts.xs l)).take (i+1)=(gs.map (zah p.facts.xs l)).take i++[zah p.facts.xs l s.xs[i]]:=by
     have e:=hsxH.h;subst e;rw [List.take_add_one,List.getElem?_eq_getElem (by simpa using hlt)];simp
    obtain ⟨g,hg⟩:∃ g,s.xs[i]=g:=⟨_,rfl⟩
    rw [hg] at hlk3 hnext;have hnb:Hide (zbu ((gs.map (zah p.facts.xs l)).take (i+1))=(b||decide (((zah p.facts.xs l g).n:Int)=0))):=⟨by
     rw [hnext,zmQ,hb]⟩
    have hlen:((gs.map (zah p.facts.xs l)).take i).length<=12:=by rw [List.length_take];have:=hps.h;omega
    have hnextH:=Hide.mk hnext;generalize zah p.facts.xs l g=D' at *;generalize (gs.map (zah p.facts.xs l)).take i=L at *;simp only [Problem.cells,zb0,List.map_cons,List.map_nil] at hlk3;have hVo:=hV.h.1.1.one;have hVo1:=hVo.1;have hVo2:=hVo.2;have hpvE:D'.pv=.ptr false [zao D'.part,.int .i64 D'.n,.slice false 4 (chunks 4 D'.part.length (D'.ends.map zaN)),zaN D'.first] 0:=rfl;have hDH:=Hide.mk hpvE;rw [hpvE] at hlk3;clear hlk2 hnext hb hVo hpvE;obtain ⟨pp,hpp⟩:∃ pp,pp=zao D'.part:=⟨_,rfl⟩
    obtain ⟨cc,hcc⟩:∃ cc,cc=chunks 4 D'.part.length (D'.ends.map zaN):=⟨_,rfl⟩
    obtain ⟨oo,hoo⟩:∃ oo,oo=zaN D'.first:=⟨_,rfl⟩
    have hDc:Hide (D'.pv=.ptr false [pp,.int .i64 D'.n,.slice false 4 cc,oo] 0):=⟨by rw [hDH.h,<- hpp,<- hcc,<- hoo]⟩
    rw [<- hpp,<- hcc,<- hoo] at hlk3;have hseE:zfC D'=[D'.pv]:=rfl;rw [hDc.h] at hseE;obtain ⟨nn,hnn⟩:∃ nn:Int,nn=D'.n:=⟨_,rfl⟩
    rw [<- hnn] at hlk3 hnb hseE;have hseH:=Hide.mk hseE;clear hnn hseE;clear hpp hcc hoo hDH
    cases b with
    | true =>
     have hnb2:Hide (zbu ((gs.map (zah p.facts.xs l)).take (i+1))=true):=⟨by rw [hnb.h];rfl⟩
     clear hnb;(repeat' first|simp [*,za,za7]|(apply zb<;>intro _ h<;>try simp [-Nat.le_zero_eq] at h)|(show wpE 0 (zi ..) ..;refine zm ?_)|(refine zg fun v2 H2 hv2 hnx2 hget2 hnew2 hone2 hcel2=>?_))
     refine zaH (f:=zfC) (sz:=1) (l:=L) ((hV.h.1.set (fun hn=>by have:=hV.h.2 1 hn;omega) _).alloc _) (fun _=>rfl) (by decide) (fun _=>rfl) (by unfold zu;omega) ⟨D',by rw [hseH.h];simp,?_⟩
     intro V4 H4 hg4 ha;have hV4:Hide (GrowV zfC 1 H4 V4 ((gs.map (zah p.facts.xs l)).take (i+1))/\∀ id,Names V4 id->1 < id):=⟨by rw [hnextH.h];exact hg4,fun id hn=>by have:=ha.new id hn;simp at this;omega⟩
     have g0:H4.get 0=.cells true [.pure (.bool false),.pure .nils]:=by
      rw [ha.get 0 (by rw [zam,zaw];omega) (fun hn=>by have:=hV.h.2 0 hn;omega),zh (by rw [zaw];omega),ze (by omega)];exact h0
     have g1:H4.get 1=.cells true [.pure (.bool true),V]:=by
      rw [ha.get 1 (by rw [zam,zaw];omega) (fun hn=>by have:=hV.h.2 1 hn;omega),zh (by rw [zaw];omega),zq hnx]
     have gn:1 < H4.nx:=by have:=ha.nx;simp at this;omega
     have o4:=hg4.1.one;have o4a:=o4.1;have o4b:=o4.2;clear hg4 ha o4 hV;(repeat' first|simp [*,za]|(apply zb<;>intro _ h<;>try simp [-Nat.le_zero_eq] at h)|(show wpE 0 (zi ..) ..;refine zm ?_)|(refine zg fun v2 H2 hv2 hnx2 hget2 hnew2 hone2 hcel2=>?_));exact ⟨i+1,by omega,by omega,by omega,V4,⟨hnb2.h,rfl⟩,⟨hV4.h.1.set (fun hn=>by have:=hV4.h.2 1 hn;omega) _,hV4.h.2⟩⟩
    | false =>
     by_cases hz:nn=0
     ·have hnb2:Hide (zbu ((gs.map (zah p.facts.xs l)).take (i+1))=true):=⟨by rw [hnb.h,decide_eq_true hz];rfl⟩
      subst hz;clear hnb;(repeat' first|simp [*,za,za7]|(apply zb<;>intro _ h<;>try simp [-Nat.le_zero_eq] at h)|(show wpE 0 (zi ..) ..;refine zm ?_)|(refine zg fun v2 H2 hv2 hnx2 hget2 hnew2 hone2 hcel2=>?_))
      refine zaH (f:=zfC) (sz:=1) (l:=L) ((hV.h.1.set (fun hn=>by have:=hV.h.2 1 hn;omega) _).alloc _) (fun _=>rfl) (by decide) (fun _=>rfl) (by unfold zu;omega) ⟨D',by rw [hseH.h];simp,?_⟩
      intro V4 H4 hg4 ha;have hV4:Hide (GrowV zfC 1 H4 V4 ((gs.map (zah p.facts.xs l)).take (i+1))/\∀ id,Names V4 id->1 < id):=⟨by rw [hnextH.h];exact hg4,fun id hn=>by have:=ha.new id hn;simp at this;omega⟩
      have g0:H4.get 0=.cells true [.pure (.bool false),.pure .nils]:=by
       rw [ha.get 0 (by rw [zam,zaw];omega) (fun hn=>by have:=hV.h.2 0 hn;omega),zh (by rw [zaw];omega),ze (by omega)];exact h0
      have g1:H4.get 1=.cells true [.pure (.bool true),V]:=by
       rw [ha.get 1 (by rw [zam,zaw];omega) (fun hn=>by have:=hV.h.2 1 hn;omega),zh (by rw [zaw];omega),zq hnx]
      have gn:1 < H4.nx:=by have:=ha.nx;simp at this;omega
      have o4:=hg4.1.one;have o4a:=o4.1;have o4b:=o4.2;clear hg4 ha o4 hV;(repeat' first|simp [*,za]|(apply zb<;>intro _ h<;>try simp [-Nat.le_zero_eq] at h)|(show wpE 0 (zi ..) ..;refine zm ?_)|(refine zg fun v2 H2 hv2 hnx2 hget2 hnew2 hone2 hcel2=>?_));exact ⟨i+1,by omega,by omega,by omega,V4,⟨hnb2.h,rfl⟩,⟨hV4.h.1.set (fun hn=>by have:=hV4.h.2 1 hn;omega) _,hV4.h.2⟩⟩
     ·have hnb2:Hide (zbu ((gs.map (zah p.facts.xs l)).take (i+1))=false):=⟨by rw [hnb.h,decide_eq_false hz];rfl⟩
      clear hnb;(repeat' first|simp [*,za,za7]|(apply zb<;>intro _ h<;>try simp [-Nat.le_zero_eq] at h)|(show wpE 0 (zi ..) ..;refine zm ?_)|(refine zg fun v2 H2 hv2 hnx2 hget2 hnew2 hone2 hcel2=>?_))
      refine zaH (f:=zfC) (sz:=1) (l:=L) ((hV.h.1.set (fun hn=>by have:=hV.h.2 1 hn;omega) _).alloc _) (fun _=>rfl) (by decide) (fun _=>rfl) (by unfold zu;omega) ⟨D',by rw [hseH.h];simp,?_⟩
      intro V4 H4 hg4 ha;have hV4:Hide (GrowV zfC 1 H4 V4 ((gs.map (zah p.facts.xs l)).take (i+1))/\∀ id,Names V4 id->1 < id):=⟨by rw [hnextH.h];exact hg4,fun id hn=>by have:=ha.new id hn;simp at this;omega⟩
      have g0:H4.get 0=.cells true [.pure (.bool false),.pure .nils]:=by
       rw [ha.get 0 (by rw [zam,zaw];omega) (fun hn=>by have:=hV.h.2 0 hn;omega),zh (by rw [zaw];omega),ze (by omega)];exact h0
      have g1:H4.get 1=.cells true [.pure (.bool false),V]:=by
       rw [ha.get 1 (by rw [zam,zaw];omega) (fun hn=>by have:=hV.h.2 1 hn;omega),zh (by rw [zaw];omega),zq hnx]
      have gn:1 < H4.nx:=by have:=ha.nx;simp at this;omega
      have o4:=hg4.1.one;have o4a:=o4.1;have o4b:=o4.2;clear hg4 ha o4 hV;(repeat' first|simp [*,za]|(apply zb<;>intro _ h<;>try simp [-Nat.le_zero_eq] at h)|(show wpE 0 (zi ..) ..;refine zm ?_)|(refine zg fun v2 H2 hv2 hnx2 hget2 hnew2 hone2 hcel2=>?_));exact ⟨i+1,by omega,by omega,by omega,V4,⟨hnb2.h,rfl⟩,⟨hV4.h.1.set (fun hn=>by have:=hV4.h.2 1 hn;omega) _,hV4.h.2⟩⟩
   ·have hiN:i=s.xs.length:=by omega
    subst hiN;have hall:(gs.map (zah p.facts.xs l)).take s.xs.length=gs.map (zah p.facts.xs l):=by
     rw [hsxH.h];exact List.take_of_length_le (by simp)
    rw [hall] at hb hV;have hres:Hide (∀ o,FrzK (H.set 0 o) false 10 V ((Sl.of (gs.map (zah p.facts.xs l))).pv zfC 1)):=⟨fun o=>(hV.h.1.set (fun hn=>by have:=hV.h.2 0 hn;omega) o).res (n:=8) (fun _=>rfl)⟩
    have hVo:=hV.h.1.1.one;have hVo1:=hVo.1;have hVo2:=hVo.2;have hDe:=hDeH.h;rw [hb] at hDe;have hDb:D.empty=b:=by rw [hDe]
    have hDs:Hide (D.seens=gs.map (zah p.facts.xs l)):=⟨by rw [hDe]⟩
    have hDeH2:=Hide.mk hDe;have h0n:0 < H.nx:=by omega
    obtain ⟨ids,hids⟩:=FrzK.aggV (n:=10) (FrzL.cons (FrzK.pure (.bool b)) (.cons (hres.h (.cells true [.pure (.bool b),V])) .nil));rw [<- hDs.h] at hids;clear hV hVo hlk2 hDeH hDe hb hall hres;(repeat' first|simp [*,za]|(apply zb<;>intro _ h<;>try simp [-Nat.le_zero_eq] at h)|(show wpE 0 (zi ..) ..;refine zm ?_)|(refine zg fun v2 H2 hv2 hnx2 hget2 hnew2 hone2 hcel2=>?_))
def SolvedOut (p:Problem) (D:FoundD) (e:Int):Prop:=(zac p≠0/\D=⟨false,[]⟩/\e=zac p)\/(zac p=0/\FindOut p D e)
def zkM:List Nat->Int->Option Int
 | [],n=>some n
 | c::cs,n=>if 4611686018427387904 / n < (c:Int) then none else zkM cs (n*c)
def ziT (D:FoundD) (e:Int):Int×Int:=if e≠0\/D.empty=true then (0,e) else match zkM (D.seens.map (·.n)) 1 with
 | none=>(0,3)
 | some n=>(n,0)
def endP (s:SeenD) (j k:Nat):Pt:=match s.ends[j]! with
 | some c=>c[k]!
 | none=>⟨0,0⟩
def zmM (s:SeenD) (k:Nat):Box:=⟨⟨(endP s (4*k) k).x,(endP s (4*k+1) k).x⟩,⟨(endP s (4*k+2) k).y,(endP s (4*k+3) k).y⟩⟩
def zlH (pt:Nat):List SeenD->Nat->Box×Int×Int
 | [],_=>(⟨⟨0,0⟩,⟨0,0⟩⟩,-1,-1)
 | s::ss,i=>if pt∈s.part then (zmM s (s.part.idxOf pt),(i:Int),(s.part.idxOf pt:Nat)) else zlH pt ss (i+1)
structure SeenGood (s:SeenD):Prop where
 few:s.part.length<=12
 len:s.ends.length=4*s.part.length
 all:∀ o∈s.ends,∃ c,o=some c/\c.length=s.part.length
theorem SeenGood.at {s:SeenD} (h:SeenGood s) {j k:Nat} (hj:j < s.ends.length) (hk:k < s.part.length):∃ (c:List Pt) (hc:k < c.length),s.ends[j]=some c/\endP s j k=c[k]:=by
 obtain ⟨c,h1,h2⟩:=h.all _ (List.getElem_mem hj)
 refine ⟨c,by omega,h1,?_⟩
 unfold endP;rw [getElem!_pos s.ends j hj,h1];simp only;rw [getElem!_pos c k (by omega)]
abbrev Solv (p:Problem) (pts:List Pt):Prop:=IsSol p.facts.xs p.boxes.xs pts
theorem ztu (pts:List Pt):Wf (pts.map atB):=fun b hb=>by
 obtain ⟨x,_,rfl⟩:=List.mem_map.1 hb;exact ⟨Int.le_refl _,Int.le_refl _⟩
theorem zrA {l:List Box} {pts:List Pt} (hl:pts.length=l.length) (h:∀ i (h:i < pts.length) (h':i < l.length),inB' pts[i] l[i]):SubL (pts.map atB) l :=
 ⟨by simpa using hl,fun i h1 h2=>by
  have h1':i < pts.length:=by simpa using h1
  have:=h i h1' h2;unfold inB' at this;simp only [List.getElem_map,atB,subB,subS];omega⟩
theorem ztd {l:List Box} {pts:List Pt} (h:SubL (pts.map atB) l):pts.length=l.length/\∀ i (h:i < pts.length) (h':i < l.length),inB' pts[i] l[i] :=
 ⟨by simpa using h.1,fun i h1 h2=>by
  have:=h.2 i (by simpa using h1) h2;simp only [List.getElem_map,atB,subB,subS] at this;unfold inB';omega⟩
theorem zlG (x:Pt) (k:Nat):zaG (atB x) k=atB x:=by
 unfold zaG atB
 split<;>rfl
theorem zjI {facts:List Fact} {pts:List Pt} (h:∀ f∈facts,zJ f (pts.map atB)=false):Stable zZ facts (pts.map atB):=fun i hi k _ f hf hs=>by
 unfold zZ at hs;have hi':i < pts.length:=by simpa using hi
 have e:zX (pts.map atB) i k=pts.map atB:=by
  rw [zaM hi];have:zaG (pts.map atB)[i] k=(pts.map atB)[i]:=by simp only [List.getElem_map];exact zlG _ _
  rw [this];exact List.set_getElem_self ..
 rw [e,h f hf] at hs;simp at hs
theorem zhw {p:Problem} {r:Option (List Box)} (hr:IsNar zZ p.facts.xs p.boxes.xs r) {pts:List Pt} (h:Solv p pts):∃ l,r=some l/\IsSol p.facts.xs l pts:=by
 have hs:=zrA h.len h.inn
 cases r with
 | none=>exact absurd (zjI h.facts) (hr _ (ztu pts) hs)
 | some l =>
  have:=ztd (hr.1.all _ (ztu pts) hs (zjI h.facts));exact ⟨l,rfl,⟨this.1,this.2,h.facts⟩⟩
theorem zqO {p:Problem} {l:List Box} (hs:SubL l p.boxes.xs) {pts:List Pt} (h:IsSol p.facts.xs l pts):Solv p pts:=by
 have:=ztd ((zrA h.len h.inn).trans hs);exact ⟨this.1,this.2,h.facts⟩
theorem zgf {p:Problem} {l:List Box} (hr:IsNar zZ p.facts.xs p.boxes.xs (some l)) (pts:List Pt):Solv p pts↔IsSol p.facts.xs l pts :=
 ⟨fun h=>by obtain ⟨l',e,h'⟩:=zhw hr h;simp only [Option.some.injEq] at e;rw [e];exact h',zqO hr.1.sub⟩
theorem FindOut.unique {p:Problem} {D D':FoundD} {e e':Int} (h:FindOut p D e) (h':FindOut p D' e'):D=D'/\e=e':=by
 rcases h with ⟨hr,rfl,rfl⟩|⟨l,m,hr,hm,h⟩
 ·rcases h' with ⟨hr',rfl,rfl⟩|⟨l',m',hr',hm',h'⟩
  ·exact ⟨rfl,rfl⟩
  ·have:=hr.unique hr';simp at this
 ·rcases h' with ⟨hr',rfl,rfl⟩|⟨l',m',hr',hm',h'⟩
  ·have:=hr.unique hr';simp at this
  ·have e1:=hr.unique hr';simp only [Option.some.injEq] at e1;subst e1;have e2:=zeO (hm.unique hm');rw [<- e2] at h';rcases h with ⟨a,rfl,rfl⟩|⟨a,rfl,rfl⟩<;>rcases h' with ⟨b,rfl,rfl⟩|⟨b,rfl,rfl⟩
   ·exact ⟨rfl,rfl⟩
   ·omega
   ·omega
   ·exact ⟨rfl,rfl⟩
theorem zkl {n:Nat}:∀ (E E0:List (Nat×Nat)) (m0:Nat->Nat),IsCls E0 n m0->(∀ e∈E,e.1 < n/\e.2 < n)->∃ m,IsCls (E0++E) n m
 | [],E0,m0,h,_=>⟨m0,by rw [List.append_nil];exact h⟩
 | e::E,E0,m0,h,hE=>by
  have h1:=hE e List.mem_cons_self;obtain ⟨m,hm⟩:=zkl E (E0++[e]) _ (h.join h1.1 h1.2) fun x hx=>hE x (List.mem_cons_of_mem _ hx);exact ⟨m,by rw [List.append_assoc] at hm;exact hm⟩
theorem zkB {fs:List Fact} {n:Nat} (h:∀ f∈fs,zaa f n=true):∃ m,IsCls (zak fs) n m:=zkl (zak fs) [] _ (IsCls.nil n) fun e he=>by
 obtain ⟨f,hf,he⟩:=mem_edgesL.1 he;have hn:=zgn (h f hf);have h1:=hn.a;have h2:=hn.b;have h3:=hn.c;unfold zbL at he
 split at he
 ·simp only [List.mem_cons,List.not_mem_nil,or_false] at he;rcases he with rfl|rfl<;>exact ⟨by simp only;omega,by simp only;omega⟩
 ·simp only [List.mem_cons,List.not_mem_nil,or_false] at he;subst he;exact ⟨by simp only;omega,by simp only;omega⟩
theorem zhF {p:Problem} (ok:CheckOk p):∃ D e,FindOut p D e:=by
 obtain ⟨r,hr⟩:=zkr (zb7 ok) (zcM ok)
 cases r with
 | none=>exact ⟨_,_,.inl ⟨hr,rfl,rfl⟩⟩
 | some l =>
  obtain ⟨m,hm⟩:=zkB ok.fact
  by_cases hv:volL l (zK m p.boxes.xs.length)<=65536
  ·exact ⟨_,_,.inr ⟨l,m,hr,hm,.inr ⟨hv,rfl,rfl⟩⟩⟩
  ·exact ⟨_,_,.inr ⟨l,m,hr,hm,.inl ⟨by omega,rfl,rfl⟩⟩⟩
theorem zpy (p:Problem):∃ D e,SolvedOut p D e:=by
 by_cases h:zac p=0
 ·obtain ⟨D,e,hf⟩:=zhF (check_ok.1 h);exact ⟨D,e,.inr ⟨h,hf⟩⟩
 ·exact ⟨_,_,.inl ⟨h,rfl,rfl⟩⟩
theorem SolvedOut.unique {p:Problem} {D D':FoundD} {e e':Int} (h:SolvedOut p D e) (h':SolvedOut p D' e'):D=D'/\e=e':=by
 rcases h with ⟨h0,rfl,rfl⟩|⟨h0,hf⟩
 ·rcases h' with ⟨_,rfl,rfl⟩|⟨h1,_⟩
  ·exact ⟨rfl,rfl⟩
  ·exact absurd h1 h0
 ·rcases h' with ⟨h1,_⟩|⟨_,hf'⟩
  ·exact absurd h0 h1
  ·exact hf.unique hf'
structure FindIn (p:Problem) (D:FoundD) (l:List Box) (gs:List (List Nat)):Prop where
 nar:IsNar zZ p.facts.xs p.boxes.xs (some l)
 div:IsDiv p.facts.xs l.length gs
 seens:D.seens=gs.map (zah p.facts.xs l)
 seen:∀ g∈gs,SeenOk p.facts.xs l g (zah p.facts.xs l g)
 empty:D.empty=zbu D.seens
 few:gs.length<=12/\∀ g∈gs,g.length<=12
theorem zo0 {p:Problem} (ok:CheckOk p) {D:FoundD} {e:Int} (h:FindOut p D e):(e=0/\D=⟨true,[]⟩/\IsNar zZ p.facts.xs p.boxes.xs none)\/(e=2/\D=⟨false,[]⟩)\/(e=0/\∃ l gs,FindIn p D l gs):=by
 rcases h with ⟨hr,rfl,rfl⟩|⟨l,m,hr,hm,h⟩
 ·exact .inl ⟨rfl,rfl,hr⟩
 ·rcases h with ⟨hv,rfl,rfl⟩|⟨hv,rfl,rfl⟩
  ·exact .inr (.inl ⟨rfl,rfl⟩)
  ·refine .inr (.inr ⟨rfl,l,zK m p.boxes.xs.length,?_⟩)
   have hl:l.length=p.boxes.xs.length:=hr.1.sub.1;have hd:=zbq hm (zaR ok);have hpl:=zbS m p.boxes.xs.length;have nb:=ok.nb
   refine ⟨hr,by rw [hl];exact hd,rfl,fun g hg=>?_,rfl,⟨by omega,fun g hg=>by have:=(hpl.2 g hg).1;omega⟩⟩
   refine zkW (fun k hk=>by rw [hl];exact (hd.one g hg).2 k hk) hr.1.wf (fun f hf ha=>hd.within f hf g hg ha) fun f hf=>?_
   have h1:=(z8 f _).1 (ok.fact f hf);exact ⟨by omega,by omega,by omega⟩
theorem emptyB_iff {L:List SeenD}:zbu L=true↔∃ s∈L,s.n=0:=by simp [zbu]
theorem FindIn.some {p:Problem} {D:FoundD} {l:List Box} {gs:List (List Nat)} (h:FindIn p D l gs) (he:D.empty=false) {g:List Nat} (hg:g∈gs) {c:List Pt} (hc:c∈zaq p.facts.xs l g):∃ pts,Solv p pts/\pick pts g=c:=by
 have hne:∀ g'∈gs,∃ c',c'∈zaq p.facts.xs l g':=fun g' hg'=>by
  have h1:=(h.seen g' hg').n;have h2:(zah p.facts.xs l g').n≠0:=fun e=>by
   have:D.empty=true:=by
    rw [h.empty,emptyB_iff,h.seens];exact ⟨_,List.mem_map.2 ⟨g',hg',rfl⟩,e⟩
   rw [this] at he;simp at he
  exact ⟨_,List.head_mem (l:=zaq p.facts.xs l g') (fun e=>h2 (by rw [h1,e];rfl))⟩
 obtain ⟨ch,hch⟩:∃ ch:List Nat->List Pt,∀ g'∈gs,ch g'∈zaq p.facts.xs l g'/\(g'=g->ch g'=c):=by
  refine ⟨fun g'=>if g'=g then c else if h':g'∈gs then (hne g' h').choose else [],fun g' hg'=>?_⟩
  simp only
  by_cases e:g'=g
  ·subst e;simp [hc]
  ·rw [if_neg e,dif_pos hg'];exact ⟨(hne g' hg').choose_spec,fun h=>absurd h e⟩
 have hm:gs.map ch∈zhk (gs.map (zaq p.facts.xs l)):=mem_prodC.2 ⟨by simp,fun k a b=>by
  simp only [List.getElem_map];exact (hch _ (List.getElem_mem _)).1⟩
 obtain ⟨h1,h2⟩:=zkC h.div hm (p0:=List.replicate l.length ⟨0,0⟩) (by simp)
 refine ⟨_,(zgf h.nar _).2 h1,?_⟩
 have:=List.map_inj_left.1 h2 g hg;rw [this];exact (hch g hg).2 rfl
theorem FindIn.empty_iff {p:Problem} {D:FoundD} {l:List Box} {gs:List (List Nat)} (h:FindIn p D l gs):D.empty=true↔¬ ∃ pts,Solv p pts:=by
 constructor
 ·rintro he ⟨pts,hp⟩;rw [h.empty,emptyB_iff,h.seens] at he;obtain ⟨s,hs,h0⟩:=he;obtain ⟨g,hg,rfl⟩:=List.mem_map.1 hs;have h1:=zii h.div ((zgf h.nar _).1 hp) g hg;rw [(h.seen g hg).n] at h0;rw [List.eq_nil_of_length_eq_zero h0] at h1;simp at h1
 ·intro hn
  cases he:D.empty with
  | true=>rfl
  | false =>
   exfalso
   refine hn ?_
   -- one choice of each part
   have hne:∀ g'∈gs,zaq p.facts.xs l g'≠[]:=fun g' hg' e=>by
    have:D.empty=true:=by
     rw [h.empty,emptyB_iff,h.seens];exact ⟨_,List.mem_map.2 ⟨g',hg',rfl⟩,by rw [(h.seen g' hg').n,e];rfl⟩
    rw [this] at he;simp at he
   have hm:(gs.map fun g=>(zaq p.facts.xs l g).headD [])∈zhk (gs.map (zaq p.facts.xs l)):=mem_prodC.2 ⟨by simp,fun k a b=>by
    simp only [List.getElem_map];have:=hne _ (List.getElem_mem (l:=gs) (n:=k) (by simpa using a))
    cases hs:zaq p.facts.xs l (gs[k]'(by simpa using a)) with
    | nil=>exact absurd hs this
    | cons c cs=>simp⟩
   obtain ⟨h1,_⟩:=zkC h.div hm (p0:=List.replicate l.length ⟨0,0⟩) (by simp);exact ⟨_,(zgf h.nar _).2 h1⟩
theorem zhS {p:Problem} (ok:CheckOk p) {D:FoundD} (h:FindOut p D 0):D.empty=true↔¬ ∃ pts,Solv p pts:=by
 rcases zo0 ok h with ⟨_,rfl,hr⟩|⟨he,_⟩|⟨_,l,gs,hi⟩
 ·refine ⟨fun _ ⟨pts,hp⟩=>?_,fun _=>rfl⟩
  obtain ⟨l,e,_⟩:=zhw hr hp;simp at e
 ·omega
 ·exact hi.empty_iff
theorem znw {p:Problem} (ok:CheckOk p) {D:FoundD} {e:Int} (h:FindOut p D e):e=0\/e=2:=by
 rcases zo0 ok h with ⟨h,_⟩|⟨h,_⟩|⟨h,_⟩
 ·exact .inl h
 ·exact .inr h
 ·exact .inl h
def oneF (fs:List Fact) (g:List Nat):List Fact:=fs.filter fun f=>g.contains f.a.toNat
def zeT (fs:List Fact) (g:List Nat):List Int:=(zau fs.length).filter fun k=>g.contains (fs[k.toNat]!).a.toNat
theorem mem_oneF {fs:List Fact} {g:List Nat} {f:Fact}:f∈oneF fs g↔f∈fs/\f.a.toNat∈g:=by simp [oneF]
theorem zij (fs:List Fact) (g:List Nat):okIs fs (zeT fs g):=fun j hj=>zdT fs j (List.mem_filter.1 hj).1
theorem zpM (fs:List Fact) (g:List Nat):(zeT fs g).length<=fs.length:=by
 have:=List.length_filter_le (fun k=>g.contains (fs[k.toNat]!).a.toNat) (zau fs.length);rwa [zaU] at this
theorem bad_mineG {fs:List Fact} {g:List Nat} {l:List Box}:0<=badI fs l (zeT fs g)↔∃ f∈oneF fs g,zJ f l=true:=by
 rw [zgA fun j hj=>(zij fs g j hj).1];unfold zeT;simp only [List.mem_filter]
 constructor
 ·rintro ⟨j,⟨hj,hn⟩,h⟩;obtain ⟨k,hk,rfl⟩:=mem_nats.1 hj;rw [show ((k:Int)).toNat=k by simp,getElem!_pos fs k hk] at h hn;exact ⟨_,mem_oneF.2 ⟨List.getElem_mem hk,by simpa using hn⟩,h⟩
 ·rintro ⟨f,hf,h⟩;obtain ⟨hf,hn⟩:=mem_oneF.1 hf;obtain ⟨k,hk,rfl⟩:=List.mem_iff_getElem.1 hf;exact ⟨k,⟨mem_nats.2 ⟨k,hk,rfl⟩,by rw [show ((k:Int)).toNat=k by simp,getElem!_pos fs k hk];simpa using hn⟩,by rw [show ((k:Int)).toNat=k by simp,getElem!_pos fs k hk];exact h⟩
theorem zhZ:∀ {gs:List (List Nat)},gs.flatten.Nodup->∀ {g g':List Nat} {x:Nat},g∈gs->g'∈gs->x∈g->x∈g'->g=g'
 | [],_,g,g',x,h,_,_,_=>by simp at h
 | a::gs,hn,g,g',x,h,h',hx,hx'=>by
  rw [List.flatten_cons,List.nodup_append] at hn;obtain ⟨_,h2,h3⟩:=hn;rcases List.mem_cons.1 h with e|h<;>rcases List.mem_cons.1 h' with e'|h'
  ·rw [e,e']
  ·rw [e] at hx;exact absurd rfl (h3 x hx x (List.mem_flatten.2 ⟨g',h',hx'⟩))
  ·rw [e'] at hx';exact absurd rfl (h3 x hx' x (List.mem_flatten.2 ⟨g,h,hx⟩))
  ·exact zhZ h2 h h' hx hx'
theorem zjy {p:Problem} (ok:CheckOk p) {gs:List (List Nat)} (hd:IsDiv p.facts.xs p.boxes.xs.length gs) {g:List Nat} (hg:g∈gs) {i:Nat} (hi:i∈g) {f:Fact} (hf:f∈p.facts.xs) (hn:zaO f i=true):f.a.toNat∈g:=by
 have hfm:=(z8 f _).1 (ok.fact f hf);have ha:f.a.toNat < p.boxes.xs.length:=by have:=(hd.named f hf).a;omega
 obtain ⟨g',hg',hag'⟩:=List.mem_flatten.1 ((hd.all _).1 ha);have hw:=hd.within f hf g' hg' hag';have hig:i∈g':=by
  unfold zaO at hn;simp only [Bool.or_eq_true,Bool.and_eq_true,decide_eq_true_eq] at hn;rcases hn with h|h|⟨hk,h⟩
  ·have:=hw.a;rwa [show f.a.toNat=i by omega] at this
  ·have:=hw.b;rwa [show f.b.toNat=i by omega] at this
  ·have:=hw.c hk;rwa [show f.c.toNat=i by omega] at this
 rw [zhZ hd.nodup hg hg' hi hig];exact hag'
def zeF (fs:List Fact) (l:List Box) (s:Nat×Nat):Bool:=decide ((axS l[s.1]! (s.2 / 2)).lo < (axS l[s.1]! (s.2 / 2)).hi)&&decide (0<=badI fs (zX l s.1 s.2) (zaS fs (zau fs.length) (s.1:Int)))
def zeY (g:List Nat):List (Nat×Nat):=g.flatMap fun i=>(List.range 4).map fun k=>(i,k)
def zcI (fs:List Fact) (g:List Nat) (l:List Box):Option (Nat×Nat):=(zeY g).find? (zeF fs l)
def zdt (l:List Box) (c:Nat×Nat):Int:=(axS l[c.1]! c.2).hi - (axS l[c.1]! c.2).lo+1
def zcm (l:List Box) (s:Int×(Nat×Nat)) (c:Nat×Nat):Int×(Nat×Nat):=if s.1 < zdt l c then (zdt l c,c) else s
def zfB (g:List Nat):List (Nat×Nat):=g.flatMap fun i=>(List.range 2).map fun k=>(i,k)
def zcu (g:List Nat) (l:List Box):Nat×Nat:=((zfB g).foldl (zcm l) (0,(g.headD 0,0))).2
theorem zjN (l:List Box):∀ (cs:List (Nat×Nat)) (s:Int×(Nat×Nat)),s.1<=(cs.foldl (zcm l) s).1/\(∀ c∈cs,zdt l c<=(cs.foldl (zcm l) s).1)/\(cs.foldl (zcm l) s=s\/((cs.foldl (zcm l) s).2∈cs/\(cs.foldl (zcm l) s).1=zdt l (cs.foldl (zcm l) s).2))
 | [],s=>⟨Int.le_refl _,fun c h=>by simp at h,.inl rfl⟩
 | c::cs,s=>by
  obtain ⟨h1,h2,h3⟩:=zjN l cs (zcm l s c);rw [List.foldl_cons];have h4:s.1<=(zcm l s c).1/\zdt l c<=(zcm l s c).1/\(zcm l s c=s\/zcm l s c=(zdt l c,c)):=by
   unfold zcm
   split
   ·exact ⟨by simp only;omega,Int.le_refl _,.inr rfl⟩
   ·exact ⟨Int.le_refl _,by omega,.inl rfl⟩
  refine ⟨by omega,fun c' hc'=>?_,?_⟩
  ·rcases List.mem_cons.1 hc' with rfl|h
   ·omega
   ·exact h2 c' h
  ·rcases h3 with h3|⟨h3,h3'⟩
   ·rcases h4.2.2 with h|h
    ·exact .inl (h3.trans h)
    ·rw [h3,h];exact .inr ⟨List.mem_cons_self,rfl⟩
   ·exact .inr ⟨List.mem_cons_of_mem _ h3,h3'⟩
theorem mem_sides {g:List Nat} {s:Nat×Nat}:s∈zeY g↔s.1∈g/\s.2 < 4:=by
 obtain ⟨i,k⟩:=s;simp only [zeY,List.mem_flatMap,List.mem_map,List.mem_range,Prod.mk.injEq]
 constructor
 ·rintro ⟨a,ha,b,hb,rfl,rfl⟩;exact ⟨ha,hb⟩
 ·rintro ⟨ha,hb⟩;exact ⟨i,ha,k,hb,rfl,rfl⟩
theorem mem_axes {g:List Nat} {s:Nat×Nat}:s∈zfB g↔s.1∈g/\s.2 < 2:=by
 obtain ⟨i,k⟩:=s;simp only [zfB,List.mem_flatMap,List.mem_map,List.mem_range,Prod.mk.injEq]
 constructor
 ·rintro ⟨a,ha,b,hb,rfl,rfl⟩;exact ⟨ha,hb⟩
 ·rintro ⟨ha,hb⟩;exact ⟨i,ha,k,hb,rfl,rfl⟩
theorem zgE {g:List Nat} {l:List Box} (hne:g≠[]) (hw:Wf l) (hl:∀ i∈g,i < l.length):(zcu g l).1∈g/\(zcu g l).2 < 2/\∀ i∈g,∀ k,k < 2->zdt l (i,k)<=zdt l (zcu g l):=by
 obtain ⟨h1,h2,h3⟩:=zjN l (zfB g) (0,(g.headD 0,0));obtain ⟨i,g',rfl⟩:=List.exists_cons_of_ne_nil hne;have hpos:0 < zdt l (i,0):=by
  have:=hw _ (List.getElem_mem (hl i List.mem_cons_self));unfold zdt;simp only;rw [getElem!_pos l i (hl i List.mem_cons_self)];unfold wfB at this;simp only [axS,if_true];omega
 have h4:=h2 (i,0) (mem_axes.2 ⟨List.mem_cons_self,Nat.zero_lt_two⟩);rcases h3 with h3|⟨h3,h5⟩
 ·rw [h3] at h4;simp only at h4;omega
 ·have h6:=mem_axes.1 h3;exact ⟨h6.1,h6.2,fun j hj k hk=>by
   have:=h2 (j,k) (mem_axes.2 ⟨hj,hk⟩);rw [h5] at this;exact this⟩
theorem zmI {b:Box} (hw:wfB b) {k:Nat} (hk:k < 4):¬ zaE b k↔(axS b (k / 2)).lo < (axS b (k / 2)).hi:=by
 unfold zaE axS;unfold wfB at hw;have hk4:k=0\/k=1\/k=2\/k=3:=by omega
 rcases hk4 with rfl|rfl|rfl|rfl<;>simp<;>omega
theorem zl0 {l:List Box} {i k:Nat} (hi:i < l.length) (hk:k < 4) (ht:zaE l[i] k):zX l i k=l:=by
 rw [zaM hi];have:zaG l[i] k=l[i]:=by
  unfold zaE at ht;generalize l[i]=bb at *;obtain ⟨⟨a,b⟩,⟨c,d⟩⟩:=bb;have hk4:k=0\/k=1\/k=2\/k=3:=by omega
  rcases hk4 with rfl|rfl|rfl|rfl<;>simp_all [zaG]
 rw [this];exact List.set_getElem_self ..
theorem zod {p:Problem} (ok:CheckOk p) {gs:List (List Nat)} (hd:IsDiv p.facts.xs p.boxes.xs.length gs) {g:List Nat} (hg:g∈gs) {l:List Box} (hl:l.length=p.boxes.xs.length) (hw:Wf l) {i k:Nat} (h:zcI p.facts.xs g l=some (i,k)):i∈g/\k < 4/\∃ h:i < l.length,¬ zaE l[i] k/\∃ f∈oneF p.facts.xs g,zZ f (zX l i k):=by
 have hm:=mem_sides.1 (List.mem_of_find?_eq_some h);have hb:=List.find?_some h;have hil:i < l.length:=by rw [hl];exact (hd.one g hg).2 i hm.1
 simp only [zeF,Bool.and_eq_true,decide_eq_true_eq,getElem!_pos l i hil] at hb
 refine ⟨hm.1,hm.2,hil,(zmI (hw _ (List.getElem_mem hil)) hm.2).2 hb.1,?_⟩
 obtain ⟨f,hf,hn,hs⟩:=bad_about.1 hb.2;exact ⟨f,mem_oneF.2 ⟨hf,zjy ok hd hg hm.1 hf hn⟩,hs⟩
theorem zn0 {p:Problem} (ok:CheckOk p) {gs:List (List Nat)} (hd:IsDiv p.facts.xs p.boxes.xs.length gs) {g:List Nat} (hg:g∈gs) {l:List Box} (hl:l.length=p.boxes.xs.length) (hw:Wf l) (h:zcI p.facts.xs g l=none) (hb:¬ BadL zZ (oneF p.facts.xs g) l):Stable zZ (oneF p.facts.xs g) l:=fun i hi k hk f hf hs=>by
 obtain ⟨hff,hfg⟩:=mem_oneF.1 hf
 cases hn:zaO f i with
 | false =>
  unfold zZ at hs;rw [zaM hi,zg8 ok hff hn hi] at hs;exact hb ⟨f,hf,hs⟩
 | true =>
  have hig:i∈g:=by
   have hwi:=hd.within f hff g hg hfg;unfold zaO at hn;simp only [Bool.or_eq_true,Bool.and_eq_true,decide_eq_true_eq] at hn;rcases hn with h|h|⟨hk,h⟩
   ·have:=hwi.a;rwa [show f.a.toNat=i by omega] at this
   ·have:=hwi.b;rwa [show f.b.toNat=i by omega] at this
   ·have:=hwi.c hk;rwa [show f.c.toNat=i by omega] at this
  by_cases ht:zaE l[i] k
  ·rw [zl0 hi hk ht] at hs;exact hb ⟨f,hf,hs⟩
  ·have:=List.find?_eq_none.1 h (i,k) (mem_sides.2 ⟨hig,hk⟩);simp only [zeF,Bool.and_eq_true,decide_eq_true_eq,getElem!_pos l i hi] at this;exact this ⟨(zmI (hw _ (List.getElem_mem hi)) hk).1 ht,bad_about.2 ⟨f,hff,hn,hs⟩⟩
theorem zsW {p:Problem} (ok:CheckOk p) {gs:List (List Nat)} (hd:IsDiv p.facts.xs p.boxes.xs.length gs) {g:List Nat} (hg:g∈gs) (hne:g≠[]) (hno:∀ pts,¬ IsSol (oneF p.facts.xs g) p.boxes.xs pts) :
  TreeIn zZ (oneF p.facts.xs g) p.boxes.xs g (zcI p.facts.xs g) (zcu g):=by
 have h1:=hd.one g hg
 refine ⟨h1.1,h1.2,fun l i k hl hw h=>zod ok hd hg hl hw h,fun l hl hw h hb=>zn0 ok hd hg hl hw h hb,fun l hl hw hs hb=>?_⟩
 have hgl:∀ i∈g,i < l.length:=fun i hi=>by rw [hl];exact h1.2 i hi
 obtain ⟨w1,w2,w3⟩:=zgE hne hw hgl
 refine ⟨w1,w2,hgl _ w1,?_⟩
 refine Classical.byContradiction fun hc=>?_
 have hsz:zdt l (zcu g l)<=1:=by
  unfold zdt;rw [getElem!_pos l _ (hgl _ w1)];omega
 have hone:∀ i (h:i∈g),l[i]'(hgl i h)=atB ⟨(l[i]'(hgl i h)).x.lo,(l[i]'(hgl i h)).y.lo⟩:=fun i hi=>by
  have h0:=w3 i hi 0 (by decide);have h1:=w3 i hi 1 (by decide);generalize zdt l (zcu g l)=W at *;have hwi:=hw _ (List.getElem_mem (hgl i hi));unfold zdt at h0 h1;rw [getElem!_pos l i (hgl i hi)] at h0 h1;simp only [axS,if_true,Nat.one_ne_zero,if_false] at h0 h1;have h0':(l[i]'(hgl i hi)).x.hi - (l[i]'(hgl i hi)).x.lo+1<=1:=Int.le_trans h0 hsz;have h1':(l[i]'(hgl i hi)).y.hi - (l[i]'(hgl i hi)).y.lo+1<=1:=Int.le_trans h1 hsz;unfold wfB at hwi;clear h0 h1;generalize l[i]'(hgl i hi)=b at *;obtain ⟨⟨a,b⟩,⟨c,d⟩⟩:=b;simp only at h0' h1' hwi;have e1:b=a:=by omega
  have e2:d=c:=by omega
  subst e1 e2;rfl
 refine hno (l.map fun b=>⟨b.x.lo,b.y.lo⟩) ⟨by simp [hl],fun i h h'=>?_,fun f hf=>?_⟩
 ·have hil:i < l.length:=by simpa using h
  have s1:=hs.2 i hil h';have s2:=hw _ (List.getElem_mem hil);unfold subB subS at s1;unfold wfB at s2;unfold inB';simp only [List.getElem_map];omega
 ·obtain ⟨hff,hfg⟩:=mem_oneF.1 hf;have hwi:=hd.within f hff g hg hfg;have key:∀ j∈g,((l.map fun b=>(⟨b.x.lo,b.y.lo⟩:Pt)).map atB)[j]! = l[j]! := fun j hj=>by
   have hjl:=hgl j hj;rw [getElem!_pos l j hjl,getElem!_pos _ j (by simpa using hjl)];simp only [List.getElem_map];exact (hone j hj).symm
  have e:=zbs (f:=f) (l:=((l.map fun b=>(⟨b.x.lo,b.y.lo⟩:Pt)).map atB)) (m:=l) ⟨key _ hwi.a,key _ hwi.b,fun hk=>key _ (hwi.c hk)⟩;rw [e]
  cases hfl:zJ f l with
  | false=>rfl
  | true=>exact absurd ⟨f,hf,hfl⟩ hb
def zhD (fs:List Fact) (i:Int) (l:List Box):Prop:=0<=i/\i < fs.length/\zJ fs[i.toNat]! l=true
theorem zjL {fs:List Fact} {l:List Box}:∀ {is:List Int},okIs fs is->0<=badI fs l is->zhD fs (badI fs l is) l/\badI fs l is∈is
 | [],_,h=>by simp [badI] at h
 | i::is,ho,h=>by
  unfold badI at h ⊢
  by_cases hf:zJ fs[i.toNat]! l=true
  ·simp only [hf,if_true] at h ⊢;have:=ho i List.mem_cons_self;exact ⟨⟨this.1,this.2,hf⟩,List.mem_cons_self⟩
  ·simp only [hf] at h ⊢;have:=zjL (fun j hj=>ho j (List.mem_cons_of_mem _ hj)) h;exact ⟨this.1,List.mem_cons_of_mem _ this.2⟩
def zb3 (p:Problem) (g:List Nat) (m:Nat) (l:List Box):List Node:=zgd (fun l=>badI p.facts.xs l (zeT p.facts.xs g)) (zbl (zcI p.facts.xs g) (zcu g)) m l
theorem zl8 {p:Problem} (ok:CheckOk p) (g:List Nat):Anti zZ (oneF p.facts.xs g) p.boxes.xs.length:=fun f hf=>zb7 ok f (mem_oneF.1 hf).1
theorem zqq {p:Problem} (ok:CheckOk p) {gs:List (List Nat)} (hd:IsDiv p.facts.xs p.boxes.xs.length gs) {g:List Nat} (hg:g∈gs) (hne:g≠[]) (hno:∀ pts,¬ IsSol (oneF p.facts.xs g) p.boxes.xs pts)
  {r:Option (List Box)} (hr:IsNar zZ (oneF p.facts.xs g) p.boxes.xs r) {m:Nat} (hm:muL p.boxes.xs < m) :
  FitsT (zhD p.facts.xs) p.boxes.xs (zb3 p g m p.boxes.xs)/\(zb3 p g m p.boxes.xs).length+1<=2*(muL p.boxes.xs+topV r g) :=
 zr9 (fun l h=>(zjL (zij _ _) h).1) (fun l h hb=>by
  obtain ⟨f,hf,hs⟩:=hb;have:=bad_mineG.2 ⟨f,hf,hs⟩;omega) (zl8 ok g) (zcM ok) hr (zsW ok hd hg hne hno) m hm
def zd9 (p:Problem) (g:List Nat):Prop:=∀ pts,¬ IsSol (oneF p.facts.xs g) p.boxes.xs pts
theorem IsDiv.oneF {fs:List Fact} {n:Nat} {gs:List (List Nat)} (h:IsDiv fs n gs) (g:List Nat):IsDiv (oneF fs g) n gs :=
 ⟨h.nodup,h.all,fun f hf=>h.within f (mem_oneF.1 hf).1,fun f hf=>h.named f (mem_oneF.1 hf).1⟩
def zeB (l:List Box) (g:List Nat) (c:List Pt):List Pt:=(List.range l.length).map fun j=>if j∈g then c[g.idxOf j]! else ⟨l[j]!.x.lo,l[j]!.y.lo⟩
theorem zfO (l:List Box) (g:List Nat) (c:List Pt):(zeB l g c).length=l.length:=by simp [zeB]
theorem zjF {l:List Box} {g:List Nat} {c:List Pt} {j:Nat} (hj:j < l.length) (h:j∈g):(zeB l g c)[j]! = c[g.idxOf j]! := by
 rw [getElem!_pos _ j (by rw [zfO];exact hj)];simp [zeB,h]
theorem zl7 {l:List Box} {g:List Nat} {c:List Pt} (hn:g.Nodup) (hi:∀ i∈g,i < l.length) (hc:c.length=g.length):pick (zeB l g c) g=c:=by
 refine List.ext_getElem (by simp [pick,hc]) fun k h1 h2=>?_
 have hk:k < g.length:=by omega
 simp only [pick,List.getElem_map];rw [zjF (hi _ (List.getElem_mem hk)) (List.getElem_mem hk),hn.idxOf_getElem k hk,getElem!_pos c k h2]
theorem znD {fs:List Fact} {l:List Box} {g:List Nat} {c:List Pt} (hw:Wf l) (hn:g.Nodup) (hi:∀ i∈g,i < l.length) (hwi:∀ f∈fs,f.a.toNat∈g->Within g f) (hc:c∈zaq (oneF fs g) l g):IsSol (oneF fs g) l (zeB l g c):=by
 obtain ⟨⟨h1,h2⟩,h3⟩:=(zek hn fun f hf ha=>hwi f (mem_oneF.1 hf).1 ha).1 hc
 refine ⟨zfO _ _ _,fun j h h'=>?_,fun f hf=>?_⟩
 ·by_cases hj:j∈g
  ·have e:=zjF (c:=c) h' hj;rw [getElem!_pos _ j h] at e;rw [e];have hk:g.idxOf j < g.length:=List.idxOf_lt_length_iff.2 hj;have:=h2 (g.idxOf j) hk (by omega);rw [List.getElem_idxOf] at this;rw [getElem!_pos c _ (by omega)];rwa [getElem!_pos l j h'] at this
  ·simp only [zeB,List.getElem_map,List.getElem_range,hj,if_false];have:=hw _ (List.getElem_mem h');rw [getElem!_pos l j h'];unfold wfB at this;unfold inB';simp only;omega
 ·obtain ⟨hf1,hf2⟩:=mem_oneF.1 hf;rw [<- zeM (facts:=fs) (zfO l g c) hn hi (hwi f hf1 hf2),zl7 hn hi h1];exact h3 f hf hf2
theorem zso {p q:Problem} (ok:CheckOk p) {g:List Nat} (hb:q.boxes.xs=p.boxes.xs) (hf:q.facts.xs=oneF p.facts.xs g):CheckOk q :=
 ⟨by rw [hb];exact ok.nb,by rw [hf];exact Nat.le_trans (List.length_filter_le ..) ok.nf,by rw [hb];exact ok.box,by rw [hf,hb];exact fun f h=>ok.fact f (mem_oneF.1 h).1⟩
section
variable {p q:Problem} {gs:List (List Nat)} {g:List Nat}
theorem zl9 (hb:q.boxes.xs=p.boxes.xs) (hf:q.facts.xs=oneF p.facts.xs g) (hr:IsNar zZ q.facts.xs q.boxes.xs none):zd9 p g:=fun pts h=>by
 obtain ⟨l,e,_⟩:=zhw (p:=q) hr (pts:=pts) (by unfold Solv;rw [hb,hf];exact h);simp at e
theorem zrJ (ok:CheckOk p) (hd:IsDiv p.facts.xs p.boxes.xs.length gs) (hg:g∈gs) (hb:q.boxes.xs=p.boxes.xs) (hf:q.facts.xs=oneF p.facts.xs g) {l:List Box} (hs:SubL l p.boxes.xs) (hw:Wf l):SeenOk q.facts.xs l g (zah q.facts.xs l g):=by
 have h1:=hd.one g hg
 refine zkW (fun k hk=>by rw [hs.1];exact h1.2 k hk) hw (fun f h ha=>?_) fun f h=>?_
 ·rw [hf] at h;exact hd.within f (mem_oneF.1 h).1 g hg ha
 ·rw [hf] at h;have h1:=(z8 f _).1 (ok.fact f (mem_oneF.1 h).1);exact ⟨by omega,by omega,by omega⟩
theorem zlo (ok:CheckOk p) (hd:IsDiv p.facts.xs p.boxes.xs.length gs) (hg:g∈gs) (hb:q.boxes.xs=p.boxes.xs) (hf:q.facts.xs=oneF p.facts.xs g) {l:List Box} (hr:IsNar zZ q.facts.xs q.boxes.xs (some l)):(zah q.facts.xs l g).n=0↔zd9 p g:=by
 have h1:=hd.one g hg;have hs:SubL l p.boxes.xs:=by rw [<- hb];exact hr.1.sub
 rw [(zrJ ok hd hg hb hf hs hr.1.wf).n]
 constructor
 ·intro h0 pts h;obtain ⟨l',e,h'⟩:=zhw (p:=q) hr (pts:=pts) (by unfold Solv;rw [hb,hf];exact h);simp only [Option.some.injEq] at e;subst e;have:=zii (by rw [hf,hs.1];exact hd.oneF g) h' g hg;rw [List.eq_nil_of_length_eq_zero h0] at this;simp at this
 ·intro hno
  refine Classical.byContradiction fun hc=>?_
  obtain ⟨c,hc⟩:=List.exists_mem_of_ne_nil (zaq q.facts.xs l g) fun e=>hc (by rw [e];rfl);rw [hf] at hc;have:=znD hr.1.wf h1.1 (fun i hi=>by rw [hs.1];exact h1.2 i hi) (fun f hf ha=>hd.within f hf g hg ha) hc;have h2:=(zgf (p:=q) hr _).2 (by rw [hf];exact this);unfold Solv at h2;rw [hf,hb] at h2;exact hno _ h2
theorem zsA (ok:CheckOk p) (hd:IsDiv p.facts.xs p.boxes.xs.length gs) (h:∀ g∈gs,¬ zd9 p g):∃ pts,Solv p pts:=by
 have hex:∀ g∈gs,∃ pts,IsSol (oneF p.facts.xs g) p.boxes.xs pts:=fun g hg=>Classical.byContradiction fun hc=>h g hg fun pts hp=>hc ⟨pts,hp⟩;obtain ⟨ch,hch⟩:∃ ch:List Nat->List Pt,∀ g∈gs,IsSol (oneF p.facts.xs g) p.boxes.xs (ch g):=by
  refine ⟨fun g=>if h:g∈gs then (hex g h).choose else [],fun g hg=>?_⟩
  simp only;rw [dif_pos hg];exact (hex g hg).choose_spec
 have hof:∀ j,j < p.boxes.xs.length->∃ g∈gs,j∈g:=fun j hj=>List.mem_flatten.1 ((hd.all j).1 hj);obtain ⟨of,hof⟩:∃ of:Nat->List Nat,∀ j,j < p.boxes.xs.length->of j∈gs/\j∈of j:=by
  refine ⟨fun j=>if h:j < p.boxes.xs.length then (hof j h).choose else [],fun j hj=>?_⟩
  simp only;rw [dif_pos hj];exact (hof j hj).choose_spec
 have hlen:((List.range p.boxes.xs.length).map fun j=>(ch (of j))[j]!).length=p.boxes.xs.length:=by simp
 refine ⟨(List.range p.boxes.xs.length).map fun j=>(ch (of j))[j]!,hlen,fun j h h'=>?_,fun f hf=>?_⟩
 ·have hs:=hch _ (hof j h').1;have:=hs.inn j (by rw [hs.len];exact h') h';simp only [List.getElem_map,List.getElem_range];rwa [getElem!_pos _ j (by rw [hs.len];exact h')]
 ·have ha:f.a.toNat < p.boxes.xs.length:=by have:=(hd.named f hf).a;omega
  obtain ⟨hg,hag⟩:=hof _ ha;have hwi:=hd.within f hf _ hg hag;have hs:=hch _ hg;have key:∀ j∈of f.a.toNat,(((List.range p.boxes.xs.length).map fun j=>(ch (of j))[j]!).map atB)[j]! = ((ch (of f.a.toNat)).map atB)[j]! := fun j hj=>by
   have hjl:=(hd.one _ hg).2 j hj;have e:of j=of f.a.toNat:=zhZ hd.nodup (hof j hjl).1 hg (hof j hjl).2 hj;rw [getElem!_pos _ j (by simpa using hjl),getElem!_pos ((ch (of f.a.toNat)).map atB) j (by rw [List.length_map,hs.len];exact hjl)];simp only [List.getElem_map,List.getElem_range];rw [e,getElem!_pos _ j (by rw [hs.len];exact hjl)]
  rw [zbs ⟨key _ hwi.a,key _ hwi.b,fun hk=>key _ (hwi.c hk)⟩];exact hs.facts f (mem_oneF.2 ⟨hf,hag⟩)
end
def zbk (fs:List Fact) (tree:List Node):Nat->List Box->Nat->Bool×Nat
 | 0,_,a=>(false,a)
 | m+1,l,a=>match tree[a]? with
  | none=>(false,a)
  | some d=>if d.fact≠-1 then (decide (0<=d.fact)&&(decide (d.fact < fs.length)&&(decide (d.point=0)&&(decide (d.axis=0)&&(decide (d.at_=0)&&zJ fs[d.fact.toNat]! l)))),a+1)
   else if 0<=d.point/\d.point < l.length/\0<=d.axis/\d.axis<=1 then
    if (axS l[d.point.toNat]! d.axis.toNat).lo<=d.at_/\d.at_ < (axS l[d.point.toNat]! d.axis.toNat).hi then
     if (zbk fs tree m (lowL l d.point.toNat d.axis.toNat d.at_) (a+1)).1 then zbk fs tree m (za2 l d.point.toNat d.axis.toNat d.at_) (zbk fs tree m (lowL l d.point.toNat d.axis.toNat d.at_) (a+1)).2
     else (false,(zbk fs tree m (lowL l d.point.toNat d.axis.toNat d.at_) (a+1)).2)
    else (false,a+1)
   else (false,a+1)
def zc4 (fs:List Fact) (boxes:List Box) (tree:List Node):Bool:=(zbk fs tree (muL boxes+1) boxes 0).1&&decide ((zbk fs tree (muL boxes+1) boxes 0).2=tree.length)
theorem zgo (fs:List Fact) (tree:List Node):∀ (m:Nat) (l:List Box) (a:Nat),a<=tree.length->a<=(zbk fs tree m l a).2/\(zbk fs tree m l a).2<=tree.length
 | 0,l,a,h=>⟨Nat.le_refl _,h⟩
 | m+1,l,a,h=>by
  unfold zbk
  cases ht:tree[a]? with
  | none=>exact ⟨Nat.le_refl _,h⟩
  | some d =>
   have ha:a < tree.length:=(List.getElem?_eq_some_iff.1 ht).1;simp only
   repeat' split
   ·exact ⟨by simp only;omega,by simp only;omega⟩
   ·have h1:=zgo fs tree m (lowL l d.point.toNat d.axis.toNat d.at_) (a+1) (by omega);have h2:=zgo fs tree m (za2 l d.point.toNat d.axis.toNat d.at_) _ h1.2;exact ⟨by omega,h2.2⟩
   ·have h1:=zgo fs tree m (lowL l d.point.toNat d.axis.toNat d.at_) (a+1) (by omega);exact ⟨by simp only;omega,by simp only;omega⟩
   ·exact ⟨by simp only;omega,by simp only;omega⟩
   ·exact ⟨by simp only;omega,by simp only;omega⟩
theorem zsa {fs:List Fact} {l:List Box} {t:List Node} (h:FitsT (zhD fs) l t):∀ (pre post:List Node) (m:Nat),muL l < m->zbk fs (pre++t++post) m l pre.length=(true,pre.length+t.length):=by
 induction h with
 | leaf l f hb =>
  intro pre post m hm;obtain ⟨m,rfl⟩:∃ k,m=k+1:=⟨m - 1,by omega⟩
  obtain ⟨h0,h1,h2⟩:=hb;have e:(pre++[(⟨f,0,0,0⟩:Node)]++post)[pre.length]?=some ⟨f,0,0,0⟩:=by simp
  unfold zbk;rw [e];simp only;rw [if_pos (by omega),h2];simp [h0,h1]
 | node l i ax t ta tb hp ha hb iha ihb =>
  intro pre post m hm;obtain ⟨m,rfl⟩:∃ k,m=k+1:=⟨m - 1,by omega⟩
  have e:(pre++((⟨-1,i,ax,t⟩:Node)::(ta++tb))++post)[pre.length]?=some ⟨-1,i,ax,t⟩:=by simp
  have hil:=hp.il;have hal:=hp.al;have m1:=zhJ hp;have m2:=zgc hp;have a1:=iha (pre++[⟨-1,i,ax,t⟩]) (tb++post) m (by omega);have b1:=ihb (pre++[⟨-1,i,ax,t⟩]++ta) post m (by omega);have e1:pre++[(⟨-1,i,ax,t⟩:Node)]++ta++(tb++post)=pre++((⟨-1,i,ax,t⟩:Node)::(ta++tb))++post:=by simp
  have e2:pre++[(⟨-1,i,ax,t⟩:Node)]++ta++tb++post=pre++((⟨-1,i,ax,t⟩:Node)::(ta++tb))++post:=by simp
  rw [e1] at a1;rw [e2] at b1;have e3:(pre++[(⟨-1,i,ax,t⟩:Node)]).length=pre.length+1:=by simp
  have e4:(pre++[(⟨-1,i,ax,t⟩:Node)]++ta).length=pre.length+1+ta.length:=by simp;omega
  rw [e3] at a1;rw [e4] at b1;unfold zbk;rw [e];simp only [Int.toNat_natCast];rw [if_neg (by simp),if_pos (by omega),if_pos (by rw [getElem!_pos l i hil];exact ⟨hp.lo,hp.hi⟩),a1];simp only [if_true];rw [b1];simp only [List.length_cons,List.length_append,Prod.mk.injEq,true_and];omega
theorem zrd {fs:List Fact} {l:List Box} {t:List Node} (h:FitsT (zhD fs) l t):zc4 fs l t=true:=by
 have:=zsa h [] [] (muL l+1) (by omega);simp only [List.nil_append,List.append_nil,List.length_nil,Nat.zero_add] at this;unfold zc4;rw [this];simp
end Go.Proofs.YtmmhnfghklppiaaGreat.Vm
