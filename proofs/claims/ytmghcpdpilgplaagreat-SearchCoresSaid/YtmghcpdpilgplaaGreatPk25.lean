/- Narrow, Parts and Volume: the program's, walked. find and solved: what is seen of all parts, walked. What Core, Only and Without leave. Plain Lean. picked, Without and Only: the program's, walked. has, Only, Without: the specification's, walked. IDs: the specification's, walked. -/
import Derived.Test.YtmghcpdpilgplaaGreatPk22
import Derived.Test.YtmghcpdpilgplaaGreatPk24
import Derived.Test.YtmghcpdpilgplaaGreatPk17
import Derived.Test.YtmghcpdpilgplaaGreatPk19
namespace Go.Proofs.YtmghcpdpilgplaaGreat.Vm
open Go
set_option maxHeartbeats 4000000
set_option maxRecDepth 4000
theorem nar_sl {p:Problem} {l:List Box} (hl:l.length=p.boxes.xs.length):∃ q:Sl Box,narPV p (some l)=q.pv Box.cells 4∧q.xs=l:=by
 obtain ⟨bs,fs⟩:=p
 cases bs with
 | nil =>
  have:l=[]:=List.eq_nil_of_length_eq_zero hl;subst this;exact ⟨.nil,rfl,rfl⟩
 | mk h xs=>exact ⟨.mk false l,rfl,rfl⟩
theorem parts_ok (m:Nat→Nat) (n:Nat):(partsL' m n).length≤n∧∀ l∈partsL' m n,l.length≤n∧∀ k∈l,k < n:=by
 refine ⟨partsTo_len m n n,fun l hl=>?_⟩
 obtain ⟨i,_,_,rfl⟩:=mem_parts.1 hl;exact ⟨partTo_len m i n,fun k hk=>(mem_partL.1 hk).1⟩
structure FoundD where
 empty:Bool
 seens:List SeenD
def seenF (s:SeenD):List PV:=[s.pv]
@[simp] def FoundD.cells (D:FoundD):List PV:=[.bool D.empty,(Sl.of D.seens).pv seenF 1]
def emptyB (L:List SeenD):Bool:=L.any fun s=>s.n == 0
theorem emptyB_snoc (L:List SeenD) (s:SeenD):emptyB (L++[s])=(emptyB L||decide ((s.n:Int)=0)):=by
 unfold emptyB;rw [List.any_append];simp only [List.any_cons,List.any_nil,Bool.or_false]
 congr 1
 rw [Bool.eq_iff_iff];simp
def FindOut (p:Problem) (D:FoundD) (e:Int):Prop:=(IsNar failsP p.facts.xs p.boxes.xs none∧D=⟨true,[]⟩∧e=0) ∨
 ∃ l m,IsNar failsP p.facts.xs p.boxes.xs (some l)∧IsCls (edgesL p.facts.xs) p.boxes.xs.length m ∧
  ((65536 < volL l (partsL' m p.boxes.xs.length)∧D=⟨false,[]⟩∧e=2) ∨
   (volL l (partsL' m p.boxes.xs.length)≤65536∧D=⟨emptyB ((partsL' m p.boxes.xs.length).map (lookD p.facts.xs l)),(partsL' m p.boxes.xs.length).map (lookD p.facts.xs l)⟩∧e=0))
theorem volL_max {b:List Box}:∀ {ps:List (List Nat)} {x:Int} {g:List Nat},g∈ps→volP b g≤ps.foldl (fun x l=>max x (volP b l)) x
 | a::ps,x,g,h=>by
  rw [List.foldl_cons];rcases List.mem_cons.1 h with rfl|h
  ·have mono:∀ (ps:List (List Nat)) (x:Int),x≤ps.foldl (fun x l=>max x (volP b l)) x:=by
    intro ps
    induction ps with
    | nil=>intro x;exact Int.le_refl _
    | cons a ps ih=>intro x;have:=ih (max x (volP b a));rw [List.foldl_cons];omega
   have:=mono ps (max x (volP b g));omega
  ·exact volL_max h
theorem fact_named {p:Problem} (ok:CheckOk p):∀ f∈p.facts.xs,Named f p.boxes.xs.length:=fun f hf=>named_ok (ok.fact f hf)
theorem fact_apart {p:Problem} (ok:CheckOk p):∀ f∈p.facts.xs,f.a≠f.b∧(f.kind=2→f.c≠f.a):=fun f hf=>by
 have h:=(formedB_iff f _).1 (ok.fact f hf)
 refine ⟨by omega,fun hk=>?_⟩
 have:=h.2.2.2.2.2.1 hk;omega
theorem look_in {p:Problem} (ok:CheckOk p) {l:List Box} {m:Nat→Nat} (hr:IsNar failsP p.facts.xs p.boxes.xs (some l)) (hm:IsCls (edgesL p.facts.xs) p.boxes.xs.length m) (hv:volL l (partsL' m p.boxes.xs.length)≤65536) {q:Sl Box} (hq:q.xs=l) {g:List Nat} (hg:g∈partsL' m p.boxes.xs.length):LookIn p q g:=by
 have hd:=parts_div hm (fact_named ok);have hlen:l.length=p.boxes.xs.length:=hr.1.sub.1;obtain ⟨i,hi,hri,rfl⟩:=mem_parts.1 hg;have hpo:=part_one hm (fact_named ok) (fact_apart ok) hi hri;have h1:=hd.one _ hg;have hpl:=parts_ok m p.boxes.xs.length
 refine ⟨ok,by rw [hq];exact hr.1.sub,by rw [hq];exact hr.1.wf,h1.1,fun k hk=>by rw [hq,hlen];exact h1.2 k hk,hpo.2.1,by have:=(hpl.2 _ hg).1;have:=ok.nb;omega,fun f hf ha=>hd.within f hf _ hg ha,fun h=>?_⟩
 rw [hq]
 refine sols_few hr.1.wf (fun k hk=>by rw [hlen];exact h1.2 k hk) h ?_
 have:=volL_max (b:=l) (x:=0) hg;unfold volL at hv;omega
theorem sh77:G.shared 77=false:=by decide
theorem e77 (n:Nat) (p:Problem) (ok:CheckOk p) (D:FoundD) (e:Int) (h:FindOut p D e):callP G (n+51) 77 [.agg p.cells]=some (.tup [.agg D.cells,.int .i64 e]):=by
 refine callP_of (ext_none _) rfl g77 rfl ?_
 rcases h with ⟨hr,rfl,rfl⟩|⟨l,m,hr,hm,h⟩
 ·have hn:=fun H=>call_pureC (G:=G) (n:=n+50) (H:=H) (caps:=[]) (ps:=[.agg p.cells]) sh62 (e62 (n+43) p ok none hr);have hnone:narPV p none=.nils:=rfl;rw [hnone] at hn;simp only [Problem.cells,List.map_cons,List.map_nil] at hn;clear hr hnone;(repeat' first|simp [*,initEnv,c77,Problem.cells]|(apply wpIf_two<;>intro _ h<;>try simp [-Nat.le_zero_eq] at h)|(show wpE 0 (doAppend ..) ..;refine wpE_appW ?_)|(refine after_intro fun v2 H2 hv2 hnx2 hget2 hnew2 hone2 hcel2=>?_))
 ·have hl:l.length=p.boxes.xs.length:=hr.1.sub.1;obtain ⟨q,hq,hqx⟩:=nar_sl hl;have hn:=fun H=>call_pureC (G:=G) (n:=n+50) (H:=H) (caps:=[]) (ps:=[.agg p.cells]) sh62 (e62 (n+43) p ok (some l) hr);have hp:=fun H=>call_pureC (G:=G) (n:=n+50) (H:=H) (caps:=[]) (ps:=[.agg p.cells]) sh65 (e65 (n+48) p ok m hm);have hpo:=parts_ok m p.boxes.xs.length;have nb:=ok.nb;have hv:=fun H=>call_pureC (G:=G) (n:=n+50) (H:=H) (caps:=[]) (ps:=[q.pv Box.cells 4,(Sl.of (partsL' m p.boxes.xs.length)).pv partF 1]) sh64 (e64 (n+48) q (Sl.of (partsL' m p.boxes.xs.length)) (by rw [hqx];omega) (by rw [Sl.xs_of];omega) (by rw [hqx];exact valid_sub ok hr.1.sub hr.1.wf) (by rw [Sl.xs_of,hqx,hl];exact fun x hx=>⟨by have:=(hpo.2 x hx).1;omega,(hpo.2 x hx).2⟩));have hlk:=Hide.mk (fun (hvol:volL l (partsL' m p.boxes.xs.length)≤65536) (g:List Nat) (hg:g∈partsL' m p.boxes.xs.length) H=>call_pureC (G:=G) (n:=n+50) (H:=H) (caps:=[]) (ps:=[.agg p.cells,q.pv Box.cells 4,partPV g]) sh126 (e126 n p q g (look_in ok hr hm hvol hqx hg)));rw [hqx] at hlk;rw [partsPV_sl] at hp;rw [Sl.xs_of,hqx] at hv;have hps:Hide ((partsL' m p.boxes.xs.length).length≤12):=⟨by omega⟩
  generalize partsL' m p.boxes.xs.length=gs at *;rcases h with ⟨hvol,rfl,rfl⟩|⟨hvol,hDe,rfl⟩
  ·have hvol':65536 < volL l gs:=hvol;rw [hq] at hn;simp only [Problem.cells,List.map_cons,List.map_nil] at hn hp hv;clear hr hm hpo hqx hq ok nb hl hlk hvol;generalize volL l gs=x at *;generalize q.pv Box.cells 4=y at *;generalize (Sl.of gs).pv partF 1=w at *;(repeat' first|simp [*,initEnv,c77,Problem.cells]|(apply wpIf_two<;>intro _ h<;>try simp [-Nat.le_zero_eq] at h)|(show wpE 0 (doAppend ..) ..;refine wpE_appW ?_)|(refine after_intro fun v2 H2 hv2 hnx2 hget2 hnew2 hone2 hcel2=>?_))
  ·have hvol':¬ 65536 < volL l gs:=by omega
   have hlk2:=Hide.mk (hlk.h hvol);rw [hq] at hn;simp only [Problem.cells,List.map_cons,List.map_nil] at hn hp hv;clear hr hm hpo hqx hq ok nb hl hlk hvol;generalize volL l gs=x at *;generalize hy:q.pv Box.cells 4=y at *;obtain ⟨s,hs⟩:∃ s,s=Sl.of gs:=⟨_,rfl⟩
   have hsx:s.xs=gs:=by rw [hs,Sl.xs_of]
   rw [← hs] at hp hv;have hsl:s.xs.length≤12:=by rw [hsx];exact hps.h
   have hsxH:=Hide.mk hsx;have hDeH:=Hide.mk hDe;clear hs hsx hy hDe;(repeat' first|simp [*,initEnv,c77,Problem.cells]|(apply wpIf_two<;>intro _ h<;>try simp [-Nat.le_zero_eq] at h)|(show wpE 0 (doAppend ..) ..;refine wpE_appW ?_)|(refine after_intro fun v2 H2 hv2 hnx2 hget2 hnew2 hone2 hcel2=>?_))
   refine wp_loopF [(9,10),(28,52)] (fun (i:Nat) env H=>env 28=.pure (.int .i64 i)∧i≤s.xs.length∧1 < H.nx∧H.get 0=.cells true [.pure (.bool false),.pure .nils]∧∃ V,H.get 1=.cells true [.pure (.bool (emptyB ((gs.map (lookD p.facts.xs l)).take i))),V]∧Hide (GrowV seenF 1 H V ((gs.map (lookD p.facts.xs l)).take i)∧∀ id,Names V id→1 < id)) (fun i=>s.xs.length - i) 0 ?_ ?_ ?_ ?_
   ·decide
   ·exact ⟨by simp,by omega,by simp,by simp,.pure .nils,by simp [emptyB],⟨by simpa using GrowV.nil,fun id ⟨_,_,_,h⟩=>by simp at h⟩⟩
   ·simp only [loopFuel];omega
   rintro i env H ⟨g28,hi,hnx,h0,V,h1,hV⟩;generalize hb:emptyB ((gs.map (lookD p.facts.xs l)).take i)=b at *
   by_cases hlt:i < s.xs.length
   ·have w1:IntKind.i64.wrap ((i:Int)+1)=(i+1:Nat):=by rw [wrap64 (by omega) (by omega)];omega
    have hltI:(i:Int) < s.xs.length:=by omega
    have hig:i < gs.length:=by rw [← hsxH.h];exact hlt
    have hme:s.xs[i]∈gs:=by rw [← hsxH.h];exact List.getElem_mem hlt
    have hlk3:=hlk2.h s.xs[i] hme;have hnext:(gs.map (lookD p.facts.xs l)).take (i+1)=(gs.map (lookD p.facts.xs l)).take i++[lookD p.facts.xs l s.xs[i]]:=by
     have e:=hsxH.h;subst e;rw [List.take_add_one,List.getElem?_eq_getElem (by simpa using hlt)];simp
    obtain ⟨g,hg⟩:∃ g,s.xs[i]=g:=⟨_,rfl⟩
    rw [hg] at hlk3 hnext;have hnb:Hide (emptyB ((gs.map (lookD p.facts.xs l)).take (i+1))=(b||decide (((lookD p.facts.xs l g).n:Int)=0))):=⟨by
     rw [hnext,emptyB_snoc,hb]⟩
    have hlen:((gs.map (lookD p.facts.xs l)).take i).length≤12:=by rw [List.length_take];have:=hps.h;omega
    have hnextH:=Hide.mk hnext;generalize lookD p.facts.xs l g=D' at *;generalize (gs.map (lookD p.facts.xs l)).take i=L at *;simp only [Problem.cells,partPV_sl,List.map_cons,List.map_nil] at hlk3;have hVo:=hV.h.1.1.one;have hVo1:=hVo.1;have hVo2:=hVo.2;have hpvE:D'.pv=.ptr false [partPV D'.part,.int .i64 D'.n,.slice false 4 (chunks 4 D'.part.length (D'.ends.map optPV)),optPV D'.first] 0:=rfl;have hDH:=Hide.mk hpvE;rw [hpvE] at hlk3;clear hlk2 hnext hb hVo hpvE;obtain ⟨pp,hpp⟩:∃ pp,pp=partPV D'.part:=⟨_,rfl⟩
    obtain ⟨cc,hcc⟩:∃ cc,cc=chunks 4 D'.part.length (D'.ends.map optPV):=⟨_,rfl⟩
    obtain ⟨oo,hoo⟩:∃ oo,oo=optPV D'.first:=⟨_,rfl⟩
    have hDc:Hide (D'.pv=.ptr false [pp,.int .i64 D'.n,.slice false 4 cc,oo] 0):=⟨by rw [hDH.h,← hpp,← hcc,← hoo]⟩
    rw [← hpp,← hcc,← hoo] at hlk3;have hseE:seenF D'=[D'.pv]:=rfl;rw [hDc.h] at hseE;obtain ⟨nn,hnn⟩:∃ nn:Int,nn=D'.n:=⟨_,rfl⟩
    rw [← hnn] at hlk3 hnb hseE;have hseH:=Hide.mk hseE;clear hnn hseE;clear hpp hcc hoo hDH
    cases b with
    | true =>
     have hnb2:Hide (emptyB ((gs.map (lookD p.facts.xs l)).take (i+1))=true):=⟨by rw [hnb.h];rfl⟩
     clear hnb;(repeat' first|simp [*,initEnv,partF]|(apply wpIf_two<;>intro _ h<;>try simp [-Nat.le_zero_eq] at h)|(show wpE 0 (doAppend ..) ..;refine wpE_appW ?_)|(refine after_intro fun v2 H2 hv2 hnx2 hget2 hnew2 hone2 hcel2=>?_))
     refine wpE_appendV (f:=seenF) (sz:=1) (l:=L) ((hV.h.1.set (fun hn=>by have:=hV.h.2 1 hn;omega) _).alloc _) (fun _=>rfl) (by decide) (fun _=>rfl) (by unfold maxCells;omega) ⟨D',by rw [hseH.h];simp,?_⟩
     intro V4 H4 hg4 ha;have hV4:Hide (GrowV seenF 1 H4 V4 ((gs.map (lookD p.facts.xs l)).take (i+1))∧∀ id,Names V4 id→1 < id):=⟨by rw [hnextH.h];exact hg4,fun id hn=>by have:=ha.new id hn;simp at this;omega⟩
     have g0:H4.get 0=.cells true [.pure (.bool false),.pure .nils]:=by
      rw [ha.get 0 (by rw [nx_alloc,nx_set];omega) (fun hn=>by have:=hV.h.2 0 hn;omega),get_alloc_lt (by rw [nx_set];omega),get_set_ne (by omega)];exact h0
     have g1:H4.get 1=.cells true [.pure (.bool true),V]:=by
      rw [ha.get 1 (by rw [nx_alloc,nx_set];omega) (fun hn=>by have:=hV.h.2 1 hn;omega),get_alloc_lt (by rw [nx_set];omega),get_set_own hnx]
     have gn:1 < H4.nx:=by have:=ha.nx;simp at this;omega
     have o4:=hg4.1.one;have o4a:=o4.1;have o4b:=o4.2;clear hg4 ha o4 hV;(repeat' first|simp [*,initEnv]|(apply wpIf_two<;>intro _ h<;>try simp [-Nat.le_zero_eq] at h)|(show wpE 0 (doAppend ..) ..;refine wpE_appW ?_)|(refine after_intro fun v2 H2 hv2 hnx2 hget2 hnew2 hone2 hcel2=>?_));exact ⟨i+1,by omega,by omega,by omega,V4,⟨hnb2.h,rfl⟩,⟨hV4.h.1.set (fun hn=>by have:=hV4.h.2 1 hn;omega) _,hV4.h.2⟩⟩
    | false =>
     by_cases hz:nn=0
     ·have hnb2:Hide (emptyB ((gs.map (lookD p.facts.xs l)).take (i+1))=true):=⟨by rw [hnb.h,decide_eq_true hz];rfl⟩
      subst hz;clear hnb;(repeat' first|simp [*,initEnv,partF]|(apply wpIf_two<;>intro _ h<;>try simp [-Nat.le_zero_eq] at h)|(show wpE 0 (doAppend ..) ..;refine wpE_appW ?_)|(refine after_intro fun v2 H2 hv2 hnx2 hget2 hnew2 hone2 hcel2=>?_))
      refine wpE_appendV (f:=seenF) (sz:=1) (l:=L) ((hV.h.1.set (fun hn=>by have:=hV.h.2 1 hn;omega) _).alloc _) (fun _=>rfl) (by decide) (fun _=>rfl) (by unfold maxCells;omega) ⟨D',by rw [hseH.h];simp,?_⟩
      intro V4 H4 hg4 ha;have hV4:Hide (GrowV seenF 1 H4 V4 ((gs.map (lookD p.facts.xs l)).take (i+1))∧∀ id,Names V4 id→1 < id):=⟨by rw [hnextH.h];exact hg4,fun id hn=>by have:=ha.new id hn;simp at this;omega⟩
      have g0:H4.get 0=.cells true [.pure (.bool false),.pure .nils]:=by
       rw [ha.get 0 (by rw [nx_alloc,nx_set];omega) (fun hn=>by have:=hV.h.2 0 hn;omega),get_alloc_lt (by rw [nx_set];omega),get_set_ne (by omega)];exact h0
      have g1:H4.get 1=.cells true [.pure (.bool true),V]:=by
       rw [ha.get 1 (by rw [nx_alloc,nx_set];omega) (fun hn=>by have:=hV.h.2 1 hn;omega),get_alloc_lt (by rw [nx_set];omega),get_set_own hnx]
      have gn:1 < H4.nx:=by have:=ha.nx;simp at this;omega
      have o4:=hg4.1.one;have o4a:=o4.1;have o4b:=o4.2;clear hg4 ha o4 hV;(repeat' first|simp [*,initEnv]|(apply wpIf_two<;>intro _ h<;>try simp [-Nat.le_zero_eq] at h)|(show wpE 0 (doAppend ..) ..;refine wpE_appW ?_)|(refine after_intro fun v2 H2 hv2 hnx2 hget2 hnew2 hone2 hcel2=>?_));exact ⟨i+1,by omega,by omega,by omega,V4,⟨hnb2.h,rfl⟩,⟨hV4.h.1.set (fun hn=>by have:=hV4.h.2 1 hn;omega) _,hV4.h.2⟩⟩
     ·have hnb2:Hide (emptyB ((gs.map (lookD p.facts.xs l)).take (i+1))=false):=⟨by rw [hnb.h,decide_eq_false hz];rfl⟩
      clear hnb;(repeat' first|simp [*,initEnv,partF]|(apply wpIf_two<;>intro _ h<;>try simp [-Nat.le_zero_eq] at h)|(show wpE 0 (doAppend ..) ..;refine wpE_appW ?_)|(refine after_intro fun v2 H2 hv2 hnx2 hget2 hnew2 hone2 hcel2=>?_))
      refine wpE_appendV (f:=seenF) (sz:=1) (l:=L) ((hV.h.1.set (fun hn=>by have:=hV.h.2 1 hn;omega) _).alloc _) (fun _=>rfl) (by decide) (fun _=>rfl) (by unfold maxCells;omega) ⟨D',by rw [hseH.h];simp,?_⟩
      intro V4 H4 hg4 ha;have hV4:Hide (GrowV seenF 1 H4 V4 ((gs.map (lookD p.facts.xs l)).take (i+1))∧∀ id,Names V4 id→1 < id):=⟨by rw [hnextH.h];exact hg4,fun id hn=>by have:=ha.new id hn;simp at this;omega⟩
      have g0:H4.get 0=.cells true [.pure (.bool false),.pure .nils]:=by
       rw [ha.get 0 (by rw [nx_alloc,nx_set];omega) (fun hn=>by have:=hV.h.2 0 hn;omega),get_alloc_lt (by rw [nx_set];omega),get_set_ne (by omega)];exact h0
      have g1:H4.get 1=.cells true [.pure (.bool false),V]:=by
       rw [ha.get 1 (by rw [nx_alloc,nx_set];omega) (fun hn=>by have:=hV.h.2 1 hn;omega),get_alloc_lt (by rw [nx_set];omega),get_set_own hnx]
      have gn:1 < H4.nx:=by have:=ha.nx;simp at this;omega
      have o4:=hg4.1.one;have o4a:=o4.1;have o4b:=o4.2;clear hg4 ha o4 hV;(repeat' first|simp [*,initEnv]|(apply wpIf_two<;>intro _ h<;>try simp [-Nat.le_zero_eq] at h)|(show wpE 0 (doAppend ..) ..;refine wpE_appW ?_)|(refine after_intro fun v2 H2 hv2 hnx2 hget2 hnew2 hone2 hcel2=>?_));exact ⟨i+1,by omega,by omega,by omega,V4,⟨hnb2.h,rfl⟩,⟨hV4.h.1.set (fun hn=>by have:=hV4.h.2 1 hn;omega) _,hV4.h.2⟩⟩
   ·have hiN:i=s.xs.length:=by omega
    subst hiN;have hall:(gs.map (lookD p.facts.xs l)).take s.xs.length=gs.map (lookD p.facts.xs l):=by
     rw [hsxH.h];exact List.take_of_length_le (by simp)
    rw [hall] at hb hV;have hres:Hide (∀ o,FrzK (H.set 0 o) false 10 V ((Sl.of (gs.map (lookD p.facts.xs l))).pv seenF 1)):=⟨fun o=>(hV.h.1.set (fun hn=>by have:=hV.h.2 0 hn;omega) o).res (n:=8) (fun _=>rfl)⟩
    have hVo:=hV.h.1.1.one;have hVo1:=hVo.1;have hVo2:=hVo.2;have hDe:=hDeH.h;rw [hb] at hDe;have hDb:D.empty=b:=by rw [hDe]
    have hDs:Hide (D.seens=gs.map (lookD p.facts.xs l)):=⟨by rw [hDe]⟩
    have hDeH2:=Hide.mk hDe;have h0n:0 < H.nx:=by omega
    obtain ⟨ids,hids⟩:=FrzK.aggV (n:=10) (FrzL.cons (FrzK.pure (.bool b)) (.cons (hres.h (.cells true [.pure (.bool b),V])) .nil));rw [← hDs.h] at hids;clear hV hVo hlk2 hDeH hDe hb hall hres;(repeat' first|simp [*,initEnv]|(apply wpIf_two<;>intro _ h<;>try simp [-Nat.le_zero_eq] at h)|(show wpE 0 (doAppend ..) ..;refine wpE_appW ?_)|(refine after_intro fun v2 H2 hv2 hnx2 hget2 hnew2 hone2 hcel2=>?_))
theorem strict_ext:∀ {l m:List Int},l.Pairwise (· < ·)→m.Pairwise (· < ·)→(∀ x,x∈l↔x∈m)→l=m
 | [],[],_,_,_=>rfl
 | [],b::m,_,_,h=>by have:=(h b).2 List.mem_cons_self;simp at this
 | a::l,[],_,_,h=>by have:=(h a).1 List.mem_cons_self;simp at this
 | a::l,b::m,hl,hm,h=>by
  rw [List.pairwise_cons] at hl hm;have e:a=b:=by
   rcases List.mem_cons.1 ((h a).1 List.mem_cons_self) with e|h1
   ·exact e
   ·rcases List.mem_cons.1 ((h b).2 List.mem_cons_self) with e|h2
    ·exact e.symm
    ·have:=hl.1 b h2;have:=hm.1 a h1;omega
  subst e
  congr 1
  refine strict_ext hl.2 hm.2 fun x=>⟨fun hx=>?_,fun hx=>?_⟩
  ·rcases List.mem_cons.1 ((h x).1 (List.mem_cons_of_mem _ hx)) with e|h1
   ·have:=hl.1 x hx;omega
   ·exact h1
  ·rcases List.mem_cons.1 ((h x).2 (List.mem_cons_of_mem _ hx)) with e|h1
   ·have:=hm.1 x hx;omega
   ·exact h1
theorem goC_strict:∀ (l:List Int) (k:Int),(k::l).Pairwise (·≤·)→(k::goC (some k) l).Pairwise (· < ·)∧∀ x,x∈k::goC (some k) l↔x∈k::l
 | [],k,_=>by simp [goC]
 | a::r,k,h=>by
  rw [List.pairwise_cons] at h;obtain ⟨h1,h2⟩:=h;unfold goC
  by_cases e:k=a
  ·subst e;rw [if_pos rfl];obtain ⟨i1,i2⟩:=goC_strict r k h2;exact ⟨i1,fun x=>by rw [i2 x];simp⟩
  ·rw [if_neg (by simpa using e)];obtain ⟨i1,i2⟩:=goC_strict r a h2;have hka:=h1 a List.mem_cons_self
   refine ⟨List.pairwise_cons.2 ⟨fun y hy=>?_,i1⟩,fun x=>?_⟩
   ·rcases List.mem_cons.1 hy with rfl|hy
    ·omega
    ·have:=(List.pairwise_cons.1 i1).1 y hy;omega
   ·rw [List.mem_cons,i2 x,List.mem_cons (l:=a::r)]
theorem compact_strict {l:List Int} (h:l.Pairwise (·≤·)):(compactL l).Pairwise (· < ·)∧∀ x,x∈compactL l↔x∈l:=by
 unfold compactL
 cases l with
 | nil=>simp [goC]
 | cons a r =>
  unfold goC;rw [if_neg (by simp)];exact goC_strict r a h
def IsIds (L:List Int) (fs:List Fact):Prop:=L.Pairwise (· < ·)∧∀ x,x∈L↔x≠0∧∃ f∈fs,f.id=x
theorem IsIds.unique {L M:List Int} {fs:List Fact} (h:IsIds L fs) (h':IsIds M fs):L=M :=
 strict_ext h.1 h'.1 fun x=>(h.2 x).trans (h'.2 x).symm
def posIds (fs:List Fact):List Int:=(fs.map (·.id)).filter fun x=>decide (0 < x)
def idsP (fs:List Fact):List Int:=compactL (isort (posIds fs))
theorem idsP_is {fs:List Fact} (h:∀ f∈fs,0≤f.id):IsIds (idsP fs) fs:=by
 obtain ⟨h1,h2⟩:=compact_strict (isort_sorted (posIds fs))
 refine ⟨h1,fun x=>?_⟩
 unfold idsP;rw [h2 x,(isort_perm _).mem_iff,posIds,List.mem_filter,List.mem_map,decide_eq_true_eq]
 constructor
 ·rintro ⟨⟨f,hf,rfl⟩,hx⟩;exact ⟨by omega,f,hf,rfl⟩
 ·rintro ⟨hx,f,hf,rfl⟩;exact ⟨⟨f,hf,rfl⟩,by have:=h f hf;omega⟩
theorem idsP_len (fs:List Fact):(idsP fs).length≤fs.length:=by
 unfold idsP compactL
 refine Nat.le_trans (goC_le _ _) ?_
 rw [isort_length,posIds];exact Nat.le_trans (List.length_filter_le _ _) (by simp)
theorem IsIds.nil:IsIds [] []:=⟨List.Pairwise.nil,by simp⟩
theorem IsIds.skip {L:List Int} {fs:List Fact} {f:Fact} (h:IsIds L fs) (hs:f.id∈L∨f.id=0):IsIds L (fs++[f]):=by
 refine ⟨h.1,fun x=>?_⟩
 rw [h.2 x]
 constructor
 ·rintro ⟨hx,g,hg,e⟩;exact ⟨hx,g,List.mem_append_left _ hg,e⟩
 ·rintro ⟨hx,g,hg,e⟩;rcases List.mem_append.1 hg with hg|hg
  ·exact ⟨hx,g,hg,e⟩
  ·simp only [List.mem_singleton] at hg;subst hg;rcases hs with hs|hs
   ·exact e ▸ (h.2 _).1 hs
   ·omega
theorem IsIds.put {L:List Int} {fs:List Fact} {f:Fact} {k:Nat} (h:IsIds L fs) (h0:f.id≠0) (hn:f.id ∉ L) (hk:k≤L.length) (hlo:∀ j (h:j < L.length),j < k→L[j] < f.id) (hhi:∀ h:k < L.length,¬ L[k] < f.id):IsIds (L.take k++[f.id]++L.drop k) (fs++[f]):=by
 have hlo':∀ x∈L.take k,x < f.id:=fun x hx=>by
  obtain ⟨j,hj,rfl⟩:=List.getElem_of_mem hx;rw [List.length_take] at hj;rw [List.getElem_take];exact hlo j (by omega) (by omega)
 have hhi':∀ x∈L.drop k,f.id < x:=fun x hx=>by
  have hxL:x∈L:=List.mem_of_mem_drop hx;have hne:x≠f.id:=fun e=>hn (e ▸ hxL);obtain ⟨j,hj,rfl⟩:=List.getElem_of_mem hx;rw [List.length_drop] at hj;rw [List.getElem_drop] at hne ⊢;have hkl:k < L.length:=by omega
  have:=hhi hkl
  by_cases e:j=0
  ·subst e;simp only [Nat.add_zero] at hne ⊢;omega
  ·have:=List.pairwise_iff_getElem.1 h.1 k (k+j) hkl (by omega) (by omega);omega
 have hL:L.take k++L.drop k=L:=List.take_append_drop k L
 refine ⟨?_,fun x=>?_⟩
 ·have hp:=h.1;rw [← hL,List.pairwise_append] at hp;rw [List.append_assoc,List.pairwise_append]
  refine ⟨hp.1,?_,fun a ha b hb=>?_⟩
  ·rw [List.singleton_append,List.pairwise_cons];exact ⟨hhi',hp.2.1⟩
  ·rcases List.mem_cons.1 hb with rfl|hb
   ·exact hlo' a ha
   ·exact hp.2.2 a ha b hb
 ·have hmm:x∈L.take k++[f.id]++L.drop k↔x∈L∨x=f.id:=by
   conv=>rhs;rw [← hL]
   simp only [List.mem_append,List.mem_singleton]
   constructor
   ·rintro ((h|h)|h)
    ·exact .inl (.inl h)
    ·exact .inr h
    ·exact .inl (.inr h)
   ·rintro ((h|h)|h)
    ·exact .inl (.inl h)
    ·exact .inr h
    ·exact .inl (.inr h)
  rw [hmm,h.2 x]
  constructor
  ·rintro (⟨hx,g,hg,e⟩|rfl)
   ·exact ⟨hx,g,List.mem_append_left _ hg,e⟩
   ·exact ⟨h0,f,by simp,rfl⟩
  ·rintro ⟨hx,g,hg,e⟩;rcases List.mem_append.1 hg with hg|hg
   ·exact .inl ⟨hx,g,hg,e⟩
   ·simp only [List.mem_singleton] at hg;subst hg;exact .inr e.symm
def pickL (q:Int→Bool) (fs:List Fact):List Fact:=fs.filter fun f=>q f.id
def onlyB (o:List Int) (x:Int):Bool:=decide (x=0)||decide (x∈o)
def outB (o:List Int) (x:Int):Bool:=!decide (x∈o)
def Sl.cold {α:Type}:Sl α→Sl α
 | .nil=>.nil
 | .mk _ l=>.mk false l
@[simp] theorem Sl.xs_cold {α:Type} (s:Sl α):s.cold.xs=s.xs:=by cases s<;>rfl
def pickP (q:Int→Bool) (p:Problem):Problem:=⟨p.boxes.cold,Sl.of (pickL q p.facts.xs)⟩
def pickR (q:Int→Bool) (p:Problem):Problem:=⟨p.boxes,Sl.of (pickL q p.facts.xs)⟩
theorem pick_ok {p r:Problem} {q:Int→Bool} (ok:CheckOk p) (hb:r.boxes.xs=p.boxes.xs) (hf:r.facts.xs=pickL q p.facts.xs):CheckOk r :=
 ⟨by rw [hb];exact ok.nb,by rw [hf];exact Nat.le_trans (List.length_filter_le _ _) ok.nf,by rw [hb];exact ok.box,fun f h=>by
  rw [hb];rw [hf] at h;exact ok.fact f (List.mem_filter.1 h).1⟩
theorem pickP_ok {p:Problem} {q:Int→Bool} (ok:CheckOk p):CheckOk (pickP q p):=pick_ok (q:=q) ok (by simp [pickP]) (by simp [pickP])
theorem pickR_ok {p:Problem} {q:Int→Bool} (ok:CheckOk p):CheckOk (pickR q p):=pick_ok (q:=q) ok rfl (by simp [pickR])
theorem FindOut.congr {p q:Problem} {D:FoundD} {e:Int} (hb:q.boxes.xs=p.boxes.xs) (hf:q.facts.xs=p.facts.xs) (h:FindOut p D e):FindOut q D e:=by
 unfold FindOut at *;rw [hb,hf];exact h
def coreK (E:List Int→Int):List Int→List Int→Option (List Int)
 | kept,[]=>some kept
 | kept,x::t=>if E (kept++t)=2 then none else if E (kept++t)=9 then coreK E kept t else coreK E (kept++[x]) t
theorem coreK_len {E:List Int→Int}:∀ {t k l:List Int},coreK E k t=some l→l.length≤k.length+t.length
 | [],k,l,h=>by simp only [coreK,Option.some.injEq] at h;subst h;simp
 | x::t,k,l,h=>by
  simp only [coreK] at h
  split at h
  ·simp at h
  ·split at h
   ·have:=coreK_len h;simp;omega
   ·have:=coreK_len h;simp at this ⊢;omega
def coreF (E0:Int) (E:List Int→Int) (ids:List Int):List Int×Int :=
 if E0=0 then ([],5) else if E0≠9 then ([],E0) else match coreK E [] ids with
  | none=>([],2)
  | some l=>(l,0)
theorem sh79:G.shared 79=false:=by decide
theorem e79 (n:Nat) (x:Int) (o:Sl Int) (b:Bool) (hl:o.xs.length < 1000):callP G (n+3) 79 [.int .i64 x,.ptr b [o.pv intF 1] 0]=some (.bool (onlyB o.xs x)):=by
 refine callP_of (ext_none _) rfl g79 rfl ?_
 have hc:=fun H=>call_pureC (G:=G) (n:=n+2) (H:=H) (caps:=[]) (ps:=[o.pv intF 1,.int .i64 x]) sh80 (e80 n o x hl);simp only [List.map_cons,List.map_nil] at hc
 by_cases h0:x=0
 ·subst h0;(repeat' first|simp [*,initEnv,c79,onlyB]|(apply wpIf_two<;>intro _ h<;>try simp [-Nat.le_zero_eq] at h))
 ·(repeat' first|simp [*,initEnv,c79,onlyB]|(apply wpIf_two<;>intro _ h<;>try simp [-Nat.le_zero_eq] at h))
theorem sh83:G.shared 83=false:=by decide
theorem e83 (n:Nat) (x:Int) (o:Sl Int) (b:Bool) (hl:o.xs.length < 1000):callP G (n+3) 83 [.int .i64 x,.ptr b [o.pv intF 1] 0]=some (.bool (onlyB o.xs x)):=by
 refine callP_of (ext_none _) rfl g83 rfl ?_
 have hc:=fun H=>call_pureC (G:=G) (n:=n+2) (H:=H) (caps:=[]) (ps:=[o.pv intF 1,.int .i64 x]) sh80 (e80 n o x hl);simp only [List.map_cons,List.map_nil] at hc
 by_cases h0:x=0
 ·subst h0;(repeat' first|simp [*,initEnv,c83,onlyB]|(apply wpIf_two<;>intro _ h<;>try simp [-Nat.le_zero_eq] at h))
 ·(repeat' first|simp [*,initEnv,c83,onlyB]|(apply wpIf_two<;>intro _ h<;>try simp [-Nat.le_zero_eq] at h))
theorem sh82:G.shared 82=false:=by decide
theorem e82 (n:Nat) (x:Int) (o:Sl Int) (b:Bool) (hl:o.xs.length < 1000):callP G (n+3) 82 [.int .i64 x,.ptr b [o.pv intF 1] 0]=some (.bool (outB o.xs x)):=by
 refine callP_of (ext_none _) rfl g82 rfl ?_
 have hc:=fun H=>call_pureC (G:=G) (n:=n+2) (H:=H) (caps:=[]) (ps:=[o.pv intF 1,.int .i64 x]) sh80 (e80 n o x hl);simp only [List.map_cons,List.map_nil] at hc;(repeat' first|simp [*,initEnv,c82,outB]|(apply wpIf_two<;>intro _ h<;>try simp [-Nat.le_zero_eq] at h))
def KeepF (n:Nat) (Q:PV) (q:Int→Bool):Prop:=∀ H a,doCall (calleeOf G n) H (.pure Q) [.pure (.int .i64 a)]=some (.val (.pure (.bool (q a))))
theorem clone_frz {α:Type} {f:α→List PV} {sz n:Nat} {H:Heap} {v:AV} {s:Sl α} (h:OwnV f sz H v s.xs) (hn:isNil .slice v=some s.isNil) (hf:∀ a,(f a).length=sz):FrzK H false (n+2) v (s.cold.pv f sz):=by
 rcases h with ⟨h0,rfl⟩|⟨id,rfl,hg⟩
 ·cases s with
  | nil=>exact .pure _
  | mk b l=>simp [isNil,Sl.isNil] at hn
 ·cases s with
  | nil=>simp [isNil,Sl.isNil] at hn
  | mk b l=>exact row_res hf hg rfl
theorem pickL_snoc {q:Int→Bool} {l:List Fact} {i:Nat} (h:i < l.length):pickL q (l.take (i+1))=if q l[i].id=true then pickL q (l.take i)++[l[i]] else pickL q (l.take i):=by
 unfold pickL;rw [← take_succ' h,List.filter_append];simp only [List.filter_cons,List.filter_nil]
 split<;>simp
theorem sh78:G.shared 78=false:=by decide
theorem e78 (n:Nat) (p:Problem) (Q:PV) (q:Int→Bool) (hk:KeepF (n+3) Q q) (hb:p.boxes.xs.length < 900) (hl:p.facts.xs.length < 900):callP G (n+4) 78 [.agg p.cells,Q]=some (.agg (pickP q p).cells):=by
 refine callP_of (ext_none _) rfl g78 rfl ?_
 obtain ⟨bs,fs⟩:=p;have hbl:bs.xs.length < 1000:=by have:bs.xs.length < 900:=hb;omega
 have hfl:fs.xs.length < 900:=hl;have hkH:=Hide.mk hk;have hw:pickP q ⟨bs,fs⟩=⟨bs.cold,.of (pickL q fs.xs)⟩:=rfl;rw [hw];clear hk hb hl hw;(repeat' first|simp [*,initEnv,c78,Problem.cells]|(apply wpIf_two<;>intro _ h<;>try simp [-Nat.le_zero_eq] at h)|(show wpE 0 (doAppend ..) ..;refine wpE_appW ?_)|(refine after_intro fun v2 H2 hv2 hnx2 hget2 hnew2 hone2 hcel2=>?_))
 refine wpE_cloneB hbl ?_
 intro B H1 hB hBn hnx hsame hnew;have hone:=hB.one;have ho1:=hone.1;have ho2:=hone.2;have hid0:0 < H1.nx:=by simp at hnx;omega
 have k0:H1.get 0=.cells true [.pure .nils,.pure .nils]:=by rw [hsame 0 (by simp)];simp
 have hBlow:Hide (∀ id,Names B id→0 < id∧id < H1.nx):=⟨fun id h=>⟨by have:=hnew id h;simp at this;omega,hB.names_lt h⟩⟩
 have hBH:=Hide.mk hB;have hBnH:=Hide.mk hBn;obtain ⟨o,ho⟩:∃ o,H1.nx=o:=⟨_,rfl⟩
 clear hB hBn hone hsame hnew hnx;(repeat' first|simp [*,initEnv]|(apply wpIf_two<;>intro _ h<;>try simp [-Nat.le_zero_eq] at h)|(show wpE 0 (doAppend ..) ..;refine wpE_appW ?_)|(refine after_intro fun v2 H2 hv2 hnx2 hget2 hnew2 hone2 hcel2=>?_))
 refine wp_loopF [(7,7),(15,29)] (fun (i:Nat) env H=>env 15=.pure (.int .i64 i)∧i≤fs.xs.length∧o < H.nx∧H.get 0=.cells true [.pure .nils,.pure .nils]∧∃ V,H.get o=.cells true [B,V]∧Hide (OwnV Box.cells 4 H B bs.xs∧GrowV Fact.cells 9 H V (pickL q (fs.xs.take i))∧(∀ id,Names V id→o < id))) (fun i=>fs.xs.length - i) 0 ?_ ?_ ?_ ?_
 ·decide
 ·refine ⟨by simp,by omega,by simp;omega,?_,.pure .nils,?_,⟨?_,by simpa [pickL] using GrowV.nil,fun id ⟨_,_,_,h⟩=>by simp at h⟩⟩
  ·rw [get_set_ne (by omega),get_alloc_lt hid0];exact k0
  ·rw [get_set_own (by simp;omega)]
  ·refine hBH.h.keep fun id ⟨n,hn⟩=>?_
   have:=(hBlow.h id ⟨_,_,_,hn⟩).2;have e1:(H1.alloc (.cells true [.pure .nils,.pure .nils])).get id=H1.get id:=get_alloc_lt this;rw [get_set_ne (by omega)];exact e1
 ·simp only [loopFuel];omega
 rintro i env H ⟨g15,hi,hnx,h0,V,h1,hV⟩;have hVo:=hV.h.2.1.1.one;have hVo1:=hVo.1;have hVo2:=hVo.2
 by_cases hlt:i < fs.xs.length
 ·have w1:IntKind.i64.wrap ((i:Int)+1)=(i+1:Nat):=by rw [wrap64 (by omega) (by omega)];omega
  have hltI:(i:Int) < fs.xs.length:=by omega
  have hst:=pickL_snoc (q:=q) hlt;have hlen:(pickL q (fs.xs.take i)).length < 900:=by
   have:=List.length_filter_le (fun f:Fact=>q f.id) (fs.xs.take i);rw [List.length_take] at this;unfold pickL;omega
  obtain ⟨F,hF⟩:∃ F,fs.xs[i]=F:=⟨_,rfl⟩
  rw [hF] at hst;have hka:=fun H=>hkH.h H F.id;obtain ⟨d1,d2,d3,da,db,dc,⟨d4,d5⟩,d6⟩:=F;simp only at hka hst;have hne0:(0:Nat)≠H.nx:=by omega
  have hneo:o≠H.nx:=by omega
  have ho0:(0:Nat)≠o:=by omega
  clear hVo
  cases hq:q d1 with
  | true =>
   rw [hq,if_pos rfl] at hst;rw [hq] at hka;have hstH:=Hide.mk hst;clear hst hq;(repeat' first|simp [*,initEnv,Fact.cells,Span.cells]|(apply wpIf_two<;>intro _ h<;>try simp [-Nat.le_zero_eq] at h)|(show wpE 0 (doAppend ..) ..;refine wpE_appW ?_)|(refine after_intro fun v2 H2 hv2 hnx2 hget2 hnew2 hone2 hcel2=>?_))
   refine wpE_appendV (f:=Fact.cells) (sz:=9) (l:=pickL q (fs.xs.take i)) ((hV.h.2.1.setNew _ _).alloc _) (fun _=>rfl) (by decide) (fun _=>rfl) (by unfold maxCells;omega) ⟨⟨d1,d2,d3,da,db,dc,⟨d4,d5⟩,d6⟩,by simp [Fact.cells,Span.cells],?_⟩
   intro V4 H4 hg4 ha;have hgo:∀ c,c < H.nx→¬ Names V c→H4.get c=H.get c:=fun c hc hn=>by rw [ha.get c (by rw [nx_alloc,nx_set,nx_alloc];omega) hn,get_alloc_lt (by rw [nx_set,nx_alloc];omega),get_set_ne (by omega),get_alloc_lt hc]
   have k0':H4.get 0=.cells true [.pure .nils,.pure .nils]:=by rw [hgo 0 (by omega) (fun hn=>by have:=hV.h.2.2 0 hn;omega)];exact h0
   have k1:H4.get o=.cells true [B,V]:=by rw [hgo o hnx (fun hn=>by have:=hV.h.2.2 o hn;omega)];exact h1
   have gn:o < H4.nx:=by have:=ha.nx;rw [nx_alloc,nx_set,nx_alloc] at this;omega
   have hV4:Hide (OwnV Box.cells 4 H4 B bs.xs∧GrowV Fact.cells 9 H4 V4 (pickL q (fs.xs.take (i+1)))∧∀ id,Names V4 id→o < id):=⟨hV.h.1.keep fun id ⟨m,hm⟩=>by
    have h8:=(hBlow.h id ⟨_,_,_,hm⟩).2;exact hgo id (by omega) (fun h2=>by have:=hV.h.2.2 id h2;omega),by rw [hstH.h];exact hg4,fun id hn=>by have:=ha.new id hn;rw [nx_alloc,nx_set,nx_alloc] at this;omega⟩
   have o4:=hg4.1.one;have o4a:=o4.1;have o4b:=o4.2;clear hg4 ha o4 hV hgo h0 h1;(repeat' first|simp [*,initEnv]|(apply wpIf_two<;>intro _ h<;>try simp [-Nat.le_zero_eq] at h)|(show wpE 0 (doAppend ..) ..;refine wpE_appW ?_)|(refine after_intro fun v2 H2 hv2 hnx2 hget2 hnew2 hone2 hcel2=>?_))
   refine ⟨i+1,by omega,by omega,by omega,⟨hV4.h.1.keep fun id ⟨m,hm⟩=>?_,hV4.h.2.1.set (fun hn=>by have:=hV4.h.2.2 o hn;omega) _,hV4.h.2.2⟩⟩
   have h8:=(hBlow.h id ⟨_,_,_,hm⟩).2;exact get_set_ne (by omega)
  | false =>
   rw [hq,if_neg (by simp)] at hst;rw [hq] at hka;have hstH:=Hide.mk hst;have hB2:Hide (∀ o1 o2,OwnV Box.cells 4 ((H.alloc o1).set H.nx o2) B bs.xs):=⟨fun o1 o2=>hV.h.1.keep fun id ⟨m,hm⟩=>by
    have h8:=(hBlow.h id ⟨_,_,_,hm⟩).2;rw [get_set_ne (by omega),get_alloc_lt (by omega)]⟩
   clear hst hq;(repeat' first|simp [*,initEnv,Fact.cells,Span.cells]|(apply wpIf_two<;>intro _ h<;>try simp [-Nat.le_zero_eq] at h)|(show wpE 0 (doAppend ..) ..;refine wpE_appW ?_)|(refine after_intro fun v2 H2 hv2 hnx2 hget2 hnew2 hone2 hcel2=>?_));exact ⟨i+1,by omega,by omega,by omega,by omega,by rw [get_alloc_lt (by omega)];exact h0,⟨hB2.h _ _,by rw [hstH.h];exact hV.h.2.1.setNew _ _,hV.h.2.2⟩⟩
 ·have hiN:i=fs.xs.length:=by omega
  subst hiN;rw [List.take_length] at hV;have hr1:∀ o',FrzK (H.set 0 o') false 11 B (bs.cold.pv Box.cells 4):=fun o'=>clone_frz (n:=9) (hV.h.1.keep fun id ⟨m,hm⟩=>by
   have h8:=(hBlow.h id ⟨_,_,_,hm⟩).1;exact get_set_ne (by omega)) hBnH.h (fun _=>rfl)
  have hr2:∀ o',FrzK (H.set 0 o') false 11 V ((Sl.of (pickL q fs.xs)).pv Fact.cells 9):=fun o'=>(hV.h.2.1.set (fun hn=>by have:=hV.h.2.2 0 hn;omega) o').res (n:=9) (fun _=>rfl);obtain ⟨ids,hids⟩:=FrzK.aggV (n:=11) (FrzL.cons (hr1 (.cells true [B,V])) (.cons (hr2 (.cells true [B,V])) .nil));have h0n:0 < H.nx:=by omega
  clear hr1 hr2 hV hVo;(repeat' first|simp [*,initEnv]|(apply wpIf_two<;>intro _ h<;>try simp [-Nat.le_zero_eq] at h)|(show wpE 0 (doAppend ..) ..;refine wpE_appW ?_)|(refine after_intro fun v2 H2 hv2 hnx2 hget2 hnew2 hone2 hcel2=>?_));exact ⟨ids,hids⟩
theorem keep_out {n:Nat} {o:Sl Int} {b:Bool} (hl:o.xs.length < 1000):KeepF (n+3) (.func 82 [.ptr b [o.pv intF 1] 0]) (outB o.xs):=fun H a =>
 call_pureC (G:=G) (n:=n+3) (H:=H) (caps:=[.ptr b [o.pv intF 1] 0]) (ps:=[.int .i64 a]) sh82 (e82 n a o b hl)
theorem keep_only {n:Nat} {o:Sl Int} {b:Bool} (hl:o.xs.length < 1000):KeepF (n+3) (.func 83 [.ptr b [o.pv intF 1] 0]) (onlyB o.xs):=fun H a =>
 call_pureC (G:=G) (n:=n+3) (H:=H) (caps:=[.ptr b [o.pv intF 1] 0]) (ps:=[.int .i64 a]) sh83 (e83 n a o b hl)
theorem keep_core {n:Nat} {o:Sl Int} {b:Bool} (hl:o.xs.length < 1000):KeepF (n+3) (.func 79 [.ptr b [o.pv intF 1] 0]) (onlyB o.xs):=fun H a =>
 call_pureC (G:=G) (n:=n+3) (H:=H) (caps:=[.ptr b [o.pv intF 1] 0]) (ps:=[.int .i64 a]) sh79 (e79 n a o b hl)
def withoutF (q:Int→Bool) (p:Problem):Problem:=if checkS p=0 then pickP q p else ⟨.nil,.nil⟩
theorem sh37:G.shared 37=false:=by decide
theorem e37 (n:Nat) (p:Problem) (o:Sl Int) (hl:o.xs.length < 1000):callP G (n+5) 37 [.agg p.cells,o.pv intF 1]=some (.tup [.agg (withoutF (outB o.xs) p).cells,.int .i64 (checkS p)]):=by
 refine callP_of (ext_none _) rfl g37 rfl ?_
 have hc:=fun H=>call_pureC (G:=G) (n:=n+4) (H:=H) (caps:=[]) (ps:=[.agg p.cells]) sh49 (e49 (n+1) p);simp only [Problem.cells,List.map_cons,List.map_nil] at hc
 by_cases h0:checkS p=0
 case neg =>
  have hr:withoutF (outB o.xs) p=⟨.nil,.nil⟩:=by unfold withoutF;rw [if_neg h0]
  rw [hr];generalize checkS p=c at *;clear hr hl;(repeat' first|simp [*,initEnv,c37,Problem.cells]|(apply wpIf_two<;>intro _ h<;>try simp [-Nat.le_zero_eq] at h))
 case pos =>
  have ok:=check_ok.1 h0;have nb:=ok.nb;have nf:=ok.nf;have hr:withoutF (outB o.xs) p=pickP (outB o.xs) p:=by unfold withoutF;rw [if_pos h0]
  have hp:=fun b H=>call_pureC (G:=G) (n:=n+4) (H:=H) (caps:=[]) (ps:=[.agg p.cells,.func 82 [.ptr b [o.pv intF 1] 0]]) sh78 (e78 n p _ _ (keep_out hl) (by omega) (by omega));rw [hr];rw [h0] at hc ⊢;obtain ⟨qb,qf⟩:∃ q,q=pickP (outB o.xs) p:=⟨_,rfl⟩
  rw [← qf] at hp ⊢;simp only [Problem.cells,List.map_cons,List.map_nil] at hp;clear hr h0 ok nb nf qf hl;(repeat' first|simp [*,initEnv,c37,Problem.cells,funcV,puresL]|(apply wpIf_two<;>intro _ h<;>try simp [-Nat.le_zero_eq] at h))
theorem sh38:G.shared 38=false:=by decide
theorem e38 (n:Nat) (p:Problem) (o:Sl Int) (hl:o.xs.length < 1000):callP G (n+5) 38 [.agg p.cells,o.pv intF 1]=some (.tup [.agg (withoutF (onlyB o.xs) p).cells,.int .i64 (checkS p)]):=by
 refine callP_of (ext_none _) rfl g38 rfl ?_
 have hc:=fun H=>call_pureC (G:=G) (n:=n+4) (H:=H) (caps:=[]) (ps:=[.agg p.cells]) sh49 (e49 (n+1) p);simp only [Problem.cells,List.map_cons,List.map_nil] at hc
 by_cases h0:checkS p=0
 case neg =>
  have hr:withoutF (onlyB o.xs) p=⟨.nil,.nil⟩:=by unfold withoutF;rw [if_neg h0]
  rw [hr];generalize checkS p=c at *;clear hr hl;(repeat' first|simp [*,initEnv,c38,Problem.cells]|(apply wpIf_two<;>intro _ h<;>try simp [-Nat.le_zero_eq] at h))
 case pos =>
  have ok:=check_ok.1 h0;have nb:=ok.nb;have nf:=ok.nf;have hr:withoutF (onlyB o.xs) p=pickP (onlyB o.xs) p:=by unfold withoutF;rw [if_pos h0]
  have hp:=fun b H=>call_pureC (G:=G) (n:=n+4) (H:=H) (caps:=[]) (ps:=[.agg p.cells,.func 83 [.ptr b [o.pv intF 1] 0]]) sh78 (e78 n p _ _ (keep_only hl) (by omega) (by omega));rw [hr];rw [h0] at hc ⊢;obtain ⟨qb,qf⟩:∃ q,q=pickP (onlyB o.xs) p:=⟨_,rfl⟩
  rw [← qf] at hp ⊢;simp only [Problem.cells,List.map_cons,List.map_nil] at hp;clear hr h0 ok nb nf qf hl;(repeat' first|simp [*,initEnv,c38,Problem.cells,funcV,puresL]|(apply wpIf_two<;>intro _ h<;>try simp [-Nat.le_zero_eq] at h))
theorem mem_end {l:List Int} {x:Int} (h:∀ j (h':j < l.length),j < l.length→l[j]≠x):decide (x∈l)=false:=by
 rw [decide_eq_false_iff_not];intro hm;obtain ⟨j,hj,e⟩:=List.mem_iff_getElem.1 hm;exact h j hj hj e
theorem sh84:G.shared 84=false:=by decide
theorem e84 (n:Nat) (l:Sl Int) (x:Int) (hl:l.xs.length < 1000):callP G (n+1) 84 [l.pv intF 1,.int .i64 x]=some (.bool (decide (x∈l.xs))):=by
 refine callP_of (ext_none _) rfl g84 rfl ?_
 (repeat' first|simp [*,initEnv,c84]|(apply wpIf_two<;>intro _ h<;>try simp [-Nat.le_zero_eq] at h))
 refine wp_loopF [(4,17)] (fun (i:Nat) env H=>env 5=.pure (.int .i64 i)∧i≤l.xs.length∧Hide (∀ j (h':j < l.xs.length),j < i→l.xs[j]≠x)) (fun i=>l.xs.length - i) 0 ?_ ?_ ?_ ?_
 ·decide
 ·exact ⟨by simp,by omega,⟨fun _ _ h=>by omega⟩⟩
 ·simp only [loopFuel];omega
 rintro i env H ⟨g5,hi,hn⟩
 by_cases hlt:i < l.xs.length
 ·have w1:IntKind.i64.wrap ((i:Int)+1)=(i+1:Nat):=by rw [wrap64 (by omega) (by omega)];omega
  have hltI:(i:Int) < l.xs.length:=by omega
  by_cases e:l.xs[i]=x
  ·have hr:decide (x∈l.xs)=true:=decide_eq_true (e ▸ List.getElem_mem hlt);rw [hr];clear hn hr;(repeat' first|simp [*,initEnv,intF]|(apply wpIf_two<;>intro _ h<;>try simp [-Nat.le_zero_eq] at h))
  ·have hn':Hide (∀ j (h':j < l.xs.length),j < i+1→l.xs[j]≠x):=⟨fun j h hj=>by
    by_cases ej:j=i
    ·subst ej;exact e
    ·exact hn.h j h (by omega)⟩
   clear hn;(repeat' first|simp [*,initEnv,intF]|(apply wpIf_two<;>intro _ h<;>try simp [-Nat.le_zero_eq] at h));exact ⟨i+1,by omega,by omega,by omega,hn'⟩
 ·have hiN:i=l.xs.length:=by omega
  subst hiN;rw [mem_end hn.h];clear hn;(repeat' first|simp [*,initEnv]|(apply wpIf_two<;>intro _ h<;>try simp [-Nat.le_zero_eq] at h))
theorem sh41:G.shared 41=false:=by decide
theorem e41 (n:Nat) (p:Problem) (o:Sl Int) (ho:o.xs.length < 1000) (hl:p.facts.xs.length < 900):callP G (n+2) 41 [.agg p.cells,o.pv intF 1]=some (.agg (pickR (onlyB o.xs) p).cells):=by
 refine callP_of (ext_none _) rfl g41 rfl ?_
 obtain ⟨bs,fs⟩:=p;have hfl:fs.xs.length < 900:=hl;have hhH:=Hide.mk fun x H=>call_pureC (G:=G) (n:=n+1) (H:=H) (caps:=[]) (ps:=[o.pv intF 1,.int .i64 x]) sh84 (e84 n o x ho);have hw:pickR (onlyB o.xs) ⟨bs,fs⟩=⟨bs,.of (pickL (onlyB o.xs) fs.xs)⟩:=rfl;rw [hw];clear hl hw ho;(repeat' first|simp [*,initEnv,c41,Problem.cells]|(apply wpIf_two<;>intro _ h<;>try simp [-Nat.le_zero_eq] at h)|(show wpE 0 (doAppend ..) ..;refine wpE_appW ?_)|(refine after_intro fun v2 H2 hv2 hnx2 hget2 hnew2 hone2 hcel2=>?_))
 refine wp_loopF [(6,7),(11,45)] (fun (i:Nat) env H=>env 6=.pure (.int .i64 i)∧i≤fs.xs.length∧1 < H.nx∧H.get 0=.cells true [.pure .nils,.pure .nils]∧∃ V,H.get 1=.cells true [.pure (bs.pv Box.cells 4),V]∧Hide (GrowV Fact.cells 9 H V (pickL (onlyB o.xs) (fs.xs.take i))∧(∀ id,Names V id→1 < id))) (fun i=>fs.xs.length - i) 0 ?_ ?_ ?_ ?_
 ·decide
 ·refine ⟨by simp,by omega,by simp,by simp,.pure .nils,by simp,⟨by simpa [pickL] using GrowV.nil,fun id ⟨_,_,_,h⟩=>by simp at h⟩⟩
 ·simp only [loopFuel];omega
 rintro i env H ⟨g6,hi,hnx,h0,V,h1,hV⟩;have hVo:=hV.h.1.1.one;have hVo1:=hVo.1;have hVo2:=hVo.2
 by_cases hlt:i < fs.xs.length
 ·have w1:IntKind.i64.wrap ((i:Int)+1)=(i+1:Nat):=by rw [wrap64 (by omega) (by omega)];omega
  have hltI:(i:Int) < fs.xs.length:=by omega
  have hst:=pickL_snoc (q:=onlyB o.xs) hlt;have hlen:(pickL (onlyB o.xs) (fs.xs.take i)).length < 900:=by
   have:=List.length_filter_le (fun f:Fact=>onlyB o.xs f.id) (fs.xs.take i);rw [List.length_take] at this;unfold pickL;omega
  obtain ⟨F,hF⟩:∃ F,fs.xs[i]=F:=⟨_,rfl⟩
  rw [hF] at hst;have hka:=hhH.h F.id;obtain ⟨d1,d2,d3,da,db,dc,⟨d4,d5⟩,d6⟩:=F;simp only [List.map_cons,List.map_nil] at hka hst;have hne0:(0:Nat)≠H.nx:=by omega
  have hne1:(1:Nat)≠H.nx:=by omega
  clear hVo
  by_cases hm:d1∈o.xs
  ·have hq:onlyB o.xs d1=true:=by unfold onlyB;simp [hm]
   rw [hq,if_pos rfl] at hst;rw [decide_eq_true hm] at hka;have hstH:=Hide.mk hst;clear hst hm hq;(repeat' first|simp [*,initEnv,Fact.cells,Span.cells]|(apply wpIf_two<;>intro _ h<;>try simp [-Nat.le_zero_eq] at h)|(show wpE 0 (doAppend ..) ..;refine wpE_appW ?_)|(refine after_intro fun v2 H2 hv2 hnx2 hget2 hnew2 hone2 hcel2=>?_))
   refine wpE_appendV (f:=Fact.cells) (sz:=9) (l:=pickL (onlyB o.xs) (fs.xs.take i)) (hV.h.1.alloc _) (fun _=>rfl) (by decide) (fun _=>rfl) (by unfold maxCells;omega) ⟨⟨d1,d2,d3,da,db,dc,⟨d4,d5⟩,d6⟩,by simp [Fact.cells,Span.cells],?_⟩
   intro V4 H4 hg4 ha;have hgo:∀ c,c < H.nx→¬ Names V c→H4.get c=H.get c:=fun c hc hn=>by rw [ha.get c (by rw [nx_alloc];omega) hn,get_alloc_lt hc]
   have k0':H4.get 0=.cells true [.pure .nils,.pure .nils]:=by rw [hgo 0 (by omega) (fun hn=>by have:=hV.h.2 0 hn;omega)];exact h0
   have k1:H4.get 1=.cells true [.pure (bs.pv Box.cells 4),V]:=by rw [hgo 1 hnx (fun hn=>by have:=hV.h.2 1 hn;omega)];exact h1
   have gn:1 < H4.nx:=by have:=ha.nx;rw [nx_alloc] at this;omega
   have hV4:Hide (GrowV Fact.cells 9 H4 V4 (pickL (onlyB o.xs) (fs.xs.take (i+1)))∧∀ id,Names V4 id→1 < id):=⟨by rw [hstH.h];exact hg4,fun id hn=>by have:=ha.new id hn;rw [nx_alloc] at this;omega⟩
   have o4:=hg4.1.one;have o4a:=o4.1;have o4b:=o4.2;clear hg4 ha o4 hV hgo h0 h1;(repeat' first|simp [*,initEnv]|(apply wpIf_two<;>intro _ h<;>try simp [-Nat.le_zero_eq] at h)|(show wpE 0 (doAppend ..) ..;refine wpE_appW ?_)|(refine after_intro fun v2 H2 hv2 hnx2 hget2 hnew2 hone2 hcel2=>?_));exact ⟨i+1,by omega,by omega,by omega,⟨hV4.h.1.set (fun hn=>by have:=hV4.h.2 1 hn;omega) _,hV4.h.2⟩⟩
  rw [decide_eq_false hm] at hka
  by_cases hz:d1=0
  ·have hq:onlyB o.xs d1=true:=by unfold onlyB;simp [hz]
   rw [hq,if_pos rfl] at hst;have hstH:=Hide.mk hst;clear hst hm hq;subst hz;(repeat' first|simp [*,initEnv,Fact.cells,Span.cells]|(apply wpIf_two<;>intro _ h<;>try simp [-Nat.le_zero_eq] at h)|(show wpE 0 (doAppend ..) ..;refine wpE_appW ?_)|(refine after_intro fun v2 H2 hv2 hnx2 hget2 hnew2 hone2 hcel2=>?_))
   refine wpE_appendV (f:=Fact.cells) (sz:=9) (l:=pickL (onlyB o.xs) (fs.xs.take i)) (hV.h.1.alloc _) (fun _=>rfl) (by decide) (fun _=>rfl) (by unfold maxCells;omega) ⟨⟨0,d2,d3,da,db,dc,⟨d4,d5⟩,d6⟩,by simp [Fact.cells,Span.cells],?_⟩
   intro V4 H4 hg4 ha;have hgo:∀ c,c < H.nx→¬ Names V c→H4.get c=H.get c:=fun c hc hn=>by rw [ha.get c (by rw [nx_alloc];omega) hn,get_alloc_lt hc]
   have k0':H4.get 0=.cells true [.pure .nils,.pure .nils]:=by rw [hgo 0 (by omega) (fun hn=>by have:=hV.h.2 0 hn;omega)];exact h0
   have k1:H4.get 1=.cells true [.pure (bs.pv Box.cells 4),V]:=by rw [hgo 1 hnx (fun hn=>by have:=hV.h.2 1 hn;omega)];exact h1
   have gn:1 < H4.nx:=by have:=ha.nx;rw [nx_alloc] at this;omega
   have hV4:Hide (GrowV Fact.cells 9 H4 V4 (pickL (onlyB o.xs) (fs.xs.take (i+1)))∧∀ id,Names V4 id→1 < id):=⟨by rw [hstH.h];exact hg4,fun id hn=>by have:=ha.new id hn;rw [nx_alloc] at this;omega⟩
   have o4:=hg4.1.one;have o4a:=o4.1;have o4b:=o4.2;clear hg4 ha o4 hV hgo h0 h1;(repeat' first|simp [*,initEnv]|(apply wpIf_two<;>intro _ h<;>try simp [-Nat.le_zero_eq] at h)|(show wpE 0 (doAppend ..) ..;refine wpE_appW ?_)|(refine after_intro fun v2 H2 hv2 hnx2 hget2 hnew2 hone2 hcel2=>?_));exact ⟨i+1,by omega,by omega,by omega,⟨hV4.h.1.set (fun hn=>by have:=hV4.h.2 1 hn;omega) _,hV4.h.2⟩⟩
  ·have hq:onlyB o.xs d1=false:=by unfold onlyB;simp [hz,hm]
   rw [hq,if_neg (by simp)] at hst;have hstH:=Hide.mk hst;clear hst hm hq;(repeat' first|simp [*,initEnv,Fact.cells,Span.cells]|(apply wpIf_two<;>intro _ h<;>try simp [-Nat.le_zero_eq] at h)|(show wpE 0 (doAppend ..) ..;refine wpE_appW ?_)|(refine after_intro fun v2 H2 hv2 hnx2 hget2 hnew2 hone2 hcel2=>?_));exact ⟨i+1,by omega,by omega,by omega,⟨by rw [hstH.h];exact hV.h.1,hV.h.2⟩⟩
 ·have hiN:i=fs.xs.length:=by omega
  subst hiN;rw [List.take_length] at hV;have hr2:∀ o',FrzK (H.set 0 o') false 11 V ((Sl.of (pickL (onlyB o.xs) fs.xs)).pv Fact.cells 9):=fun o'=>(hV.h.1.set (fun hn=>by have:=hV.h.2 0 hn;omega) o').res (n:=9) (fun _=>rfl);obtain ⟨ids,hids⟩:=FrzK.aggV (n:=11) (FrzL.cons (FrzK.pure (bs.pv Box.cells 4)) (.cons (hr2 (.cells true [.pure (bs.pv Box.cells 4),V])) .nil));have h0n:0 < H.nx:=by omega
  clear hr2 hV hVo;(repeat' first|simp [*,initEnv]|(apply wpIf_two<;>intro _ h<;>try simp [-Nat.le_zero_eq] at h)|(show wpE 0 (doAppend ..) ..;refine wpE_appW ?_)|(refine after_intro fun v2 H2 hv2 hnx2 hget2 hnew2 hone2 hcel2=>?_));exact ⟨ids,hids⟩
theorem sh40:G.shared 40=false:=by decide
theorem e40 (n:Nat) (p:Problem) (o:Sl Int) (ho:o.xs.length < 1000) (hl:p.facts.xs.length < 900):callP G (n+2) 40 [.agg p.cells,o.pv intF 1]=some (.agg (pickR (outB o.xs) p).cells):=by
 refine callP_of (ext_none _) rfl g40 rfl ?_
 obtain ⟨bs,fs⟩:=p;have hfl:fs.xs.length < 900:=hl;have hhH:=Hide.mk fun x H=>call_pureC (G:=G) (n:=n+1) (H:=H) (caps:=[]) (ps:=[o.pv intF 1,.int .i64 x]) sh84 (e84 n o x ho);have hw:pickR (outB o.xs) ⟨bs,fs⟩=⟨bs,.of (pickL (outB o.xs) fs.xs)⟩:=rfl;rw [hw];clear hl hw ho;(repeat' first|simp [*,initEnv,c40,Problem.cells]|(apply wpIf_two<;>intro _ h<;>try simp [-Nat.le_zero_eq] at h)|(show wpE 0 (doAppend ..) ..;refine wpE_appW ?_)|(refine after_intro fun v2 H2 hv2 hnx2 hget2 hnew2 hone2 hcel2=>?_))
 refine wp_loopF [(6,7),(11,37)] (fun (i:Nat) env H=>env 6=.pure (.int .i64 i)∧i≤fs.xs.length∧1 < H.nx∧H.get 0=.cells true [.pure .nils,.pure .nils]∧∃ V,H.get 1=.cells true [.pure (bs.pv Box.cells 4),V]∧Hide (GrowV Fact.cells 9 H V (pickL (outB o.xs) (fs.xs.take i))∧(∀ id,Names V id→1 < id))) (fun i=>fs.xs.length - i) 0 ?_ ?_ ?_ ?_
 ·decide
 ·refine ⟨by simp,by omega,by simp,by simp,.pure .nils,by simp,⟨by simpa [pickL] using GrowV.nil,fun id ⟨_,_,_,h⟩=>by simp at h⟩⟩
 ·simp only [loopFuel];omega
 rintro i env H ⟨g6,hi,hnx,h0,V,h1,hV⟩;have hVo:=hV.h.1.1.one;have hVo1:=hVo.1;have hVo2:=hVo.2
 by_cases hlt:i < fs.xs.length
 ·have w1:IntKind.i64.wrap ((i:Int)+1)=(i+1:Nat):=by rw [wrap64 (by omega) (by omega)];omega
  have hltI:(i:Int) < fs.xs.length:=by omega
  have hst:=pickL_snoc (q:=outB o.xs) hlt;have hlen:(pickL (outB o.xs) (fs.xs.take i)).length < 900:=by
   have:=List.length_filter_le (fun f:Fact=>outB o.xs f.id) (fs.xs.take i);rw [List.length_take] at this;unfold pickL;omega
  obtain ⟨F,hF⟩:∃ F,fs.xs[i]=F:=⟨_,rfl⟩
  rw [hF] at hst;have hka:=hhH.h F.id;obtain ⟨d1,d2,d3,da,db,dc,⟨d4,d5⟩,d6⟩:=F;simp only [List.map_cons,List.map_nil] at hka hst;have hne0:(0:Nat)≠H.nx:=by omega
  have hne1:(1:Nat)≠H.nx:=by omega
  clear hVo
  by_cases hm:d1∈o.xs
  ·have hq:outB o.xs d1=false:=by unfold outB;simp [hm]
   rw [hq,if_neg (by simp)] at hst;rw [decide_eq_true hm] at hka;have hstH:=Hide.mk hst;clear hst hm hq;(repeat' first|simp [*,initEnv,Fact.cells,Span.cells]|(apply wpIf_two<;>intro _ h<;>try simp [-Nat.le_zero_eq] at h)|(show wpE 0 (doAppend ..) ..;refine wpE_appW ?_)|(refine after_intro fun v2 H2 hv2 hnx2 hget2 hnew2 hone2 hcel2=>?_));exact ⟨i+1,by omega,by omega,by omega,⟨by rw [hstH.h];exact hV.h.1,hV.h.2⟩⟩
  ·have hq:outB o.xs d1=true:=by unfold outB;simp [hm]
   rw [hq,if_pos rfl] at hst;rw [decide_eq_false hm] at hka;have hstH:=Hide.mk hst;clear hst hm hq;(repeat' first|simp [*,initEnv,Fact.cells,Span.cells]|(apply wpIf_two<;>intro _ h<;>try simp [-Nat.le_zero_eq] at h)|(show wpE 0 (doAppend ..) ..;refine wpE_appW ?_)|(refine after_intro fun v2 H2 hv2 hnx2 hget2 hnew2 hone2 hcel2=>?_))
   refine wpE_appendV (f:=Fact.cells) (sz:=9) (l:=pickL (outB o.xs) (fs.xs.take i)) (hV.h.1.alloc _) (fun _=>rfl) (by decide) (fun _=>rfl) (by unfold maxCells;omega) ⟨⟨d1,d2,d3,da,db,dc,⟨d4,d5⟩,d6⟩,by simp [Fact.cells,Span.cells],?_⟩
   intro V4 H4 hg4 ha;have hgo:∀ c,c < H.nx→¬ Names V c→H4.get c=H.get c:=fun c hc hn=>by rw [ha.get c (by rw [nx_alloc];omega) hn,get_alloc_lt hc]
   have k0':H4.get 0=.cells true [.pure .nils,.pure .nils]:=by rw [hgo 0 (by omega) (fun hn=>by have:=hV.h.2 0 hn;omega)];exact h0
   have k1:H4.get 1=.cells true [.pure (bs.pv Box.cells 4),V]:=by rw [hgo 1 hnx (fun hn=>by have:=hV.h.2 1 hn;omega)];exact h1
   have gn:1 < H4.nx:=by have:=ha.nx;rw [nx_alloc] at this;omega
   have hV4:Hide (GrowV Fact.cells 9 H4 V4 (pickL (outB o.xs) (fs.xs.take (i+1)))∧∀ id,Names V4 id→1 < id):=⟨by rw [hstH.h];exact hg4,fun id hn=>by have:=ha.new id hn;rw [nx_alloc] at this;omega⟩
   have o4:=hg4.1.one;have o4a:=o4.1;have o4b:=o4.2;clear hg4 ha o4 hV hgo h0 h1;(repeat' first|simp [*,initEnv]|(apply wpIf_two<;>intro _ h<;>try simp [-Nat.le_zero_eq] at h)|(show wpE 0 (doAppend ..) ..;refine wpE_appW ?_)|(refine after_intro fun v2 H2 hv2 hnx2 hget2 hnew2 hone2 hcel2=>?_));exact ⟨i+1,by omega,by omega,by omega,⟨hV4.h.1.set (fun hn=>by have:=hV4.h.2 1 hn;omega) _,hV4.h.2⟩⟩
 ·have hiN:i=fs.xs.length:=by omega
  subst hiN;rw [List.take_length] at hV;have hr2:∀ o',FrzK (H.set 0 o') false 11 V ((Sl.of (pickL (outB o.xs) fs.xs)).pv Fact.cells 9):=fun o'=>(hV.h.1.set (fun hn=>by have:=hV.h.2 0 hn;omega) o').res (n:=9) (fun _=>rfl);obtain ⟨ids,hids⟩:=FrzK.aggV (n:=11) (FrzL.cons (FrzK.pure (bs.pv Box.cells 4)) (.cons (hr2 (.cells true [.pure (bs.pv Box.cells 4),V])) .nil));have h0n:0 < H.nx:=by omega
  clear hr2 hV hVo;(repeat' first|simp [*,initEnv]|(apply wpIf_two<;>intro _ h<;>try simp [-Nat.le_zero_eq] at h)|(show wpE 0 (doAppend ..) ..;refine wpE_appW ?_)|(refine after_intro fun v2 H2 hv2 hnx2 hget2 hnew2 hone2 hcel2=>?_));exact ⟨ids,hids⟩
theorem row_take {id k:Nat} {H:Heap} {L:List Int} (hg:H.get id=.cells true (rowOf intF L)) (hk:k≤L.length):sliceCells H 1 (.row id 1 0 k)=some (rowOf intF (L.take k),(L.take k).length):=by
 have hl:=rowOf_length (f:=intF) (sz:=1) (fun _=>rfl) L;have ht:=rowOf_take (f:=intF) (sz:=1) (fun _=>rfl) L k;rw [sliceCells_row,hg];simp only [rowCells];rw [if_pos (by omega),Nat.zero_mul,List.drop_zero,ht,List.length_take,Nat.min_eq_left hk]
theorem row_drop {id k m:Nat} {H:Heap} {L:List Int} (hg:H.get id=.cells true (rowOf intF L)) (hk:k≤L.length) (hm:m=L.length - k):sliceCells H 1 (.row id 1 k m)=some (rowOf intF (L.drop k),(L.drop k).length):=by
 have hl:=rowOf_length (f:=intF) (sz:=1) (fun _=>rfl) L;have ht:=rowOf_drop (f:=intF) (sz:=1) (fun _=>rfl) L k;have hl2:=rowOf_length (f:=intF) (sz:=1) (fun _=>rfl) (L.drop k);rw [sliceCells_row,hg];simp only [rowCells];rw [if_pos (by omega),ht,List.length_drop,← hm,List.take_of_length_le (by rw [hl2,List.length_drop];omega)]
theorem nils_cells {H:Heap}:sliceCells H 1 (.pure .nils)=some (rowOf intF [],([]:List Int).length):=rfl
def slT (L:List Int):Sl Int:=match L with
 | []=>.nil
 | _=>.mk true L
@[simp] theorem slT_xs (L:List Int):(slT L).xs=L:=by cases L<;>rfl
theorem GrowV.frzT {n:Nat} {H:Heap} {v:AV} {L:List Int} (h:GrowV intF 1 H v L):FrzK H true (n+2) v ((slT L).pv intF 1):=by
 have:=h.frz (k:=true) (n:=n) (fun _=>rfl)
 cases L<;>exact this
theorem sh81:G.shared 81=false:=by decide
theorem e81 (n:Nat) (p:Problem) (h0:∀ f∈p.facts.xs,0≤f.id) (hl:p.facts.xs.length < 900):callP G (n+2) 81 [.agg p.cells]=some ((Sl.of (idsP p.facts.xs)).pv intF 1):=by
 refine callP_of (ext_none _) rfl g81 rfl ?_
 obtain ⟨bs,fs⟩:=p;have hfl:fs.xs.length < 900:=hl;have hid0:=Hide.mk (idsP_is (fs:=fs.xs) h0);clear hl h0;obtain ⟨ids,hids⟩:∃ ids,idsP fs.xs=ids:=⟨_,rfl⟩
 rw [hids] at hid0;rw [show idsP (Problem.mk bs fs).facts.xs=ids from hids];clear hids;(repeat' first|simp [*,initEnv,c81,Problem.cells]|(apply wpIf_two<;>intro _ h<;>try simp [-Nat.le_zero_eq] at h)|(show wpE 0 (doAppend ..) ..;refine wpE_appW ?_)|(refine after_intro fun v2 H2 hv2 hnx2 hget2 hnew2 hone2 hcel2=>?_))
 refine wp_loopF [(3,57)] (fun (i:Nat) env H=>env 4=.pure (.int .i64 i)∧i≤fs.xs.length∧∃ L:List Int,Hide (GrowV intF 1 H (env 3) L∧IsIds L (fs.xs.take i)∧L.length≤i)) (fun i=>fs.xs.length - i) 0 ?_ ?_ ?_ ?_
 ·decide
 ·exact ⟨by simp,by omega,[],⟨by simpa using GrowV.nil,by simpa using IsIds.nil,by simp⟩⟩
 ·simp only [loopFuel];omega
 rintro i env H ⟨g4,hi,L,hL⟩;generalize g3:env 3=V at *
 by_cases hlt:i < fs.xs.length
 ·have w1:IntKind.i64.wrap ((i:Int)+1)=(i+1:Nat):=by rw [wrap64 (by omega) (by omega)];omega
  have hltI:(i:Int) < fs.xs.length:=by omega
  have hLl:=hL.h.2.2;have hstep:Hide (fs.xs.take (i+1)=fs.xs.take i++[fs.xs[i]]):=⟨by rw [take_succ' hlt]⟩
  obtain ⟨F,hF⟩:∃ F,fs.xs[i]=F:=⟨_,rfl⟩
  rw [hF] at hstep;obtain ⟨d1,d2,d3,da,db,dc,⟨d4,d5⟩,d6⟩:=F;have hone:=hL.h.1.1.one;have ho1:=hone.1;have ho2:=hone.2;clear hone;(repeat' first|simp [*,initEnv,Fact.cells,Span.cells]|(apply wpIf_two<;>intro _ h<;>try simp [-Nat.le_zero_eq] at h)|(show wpE 0 (doAppend ..) ..;refine wpE_appW ?_)|(refine after_intro fun v2 H2 hv2 hnx2 hget2 hnew2 hone2 hcel2=>?_))
  refine wpE_own (n:=n+1) (caps:=[]) (ps:=[(slT L).pv intF 1,.int .i64 d1]) (r:=.bool (decide (d1∈L))) sh84 ?_ ?_ rfl ?_
  ·exact .cons hL.h.1.frzT (.cons (.pure _) .nil)
  ·have:=e84 n (slT L) d1 (by rw [slT_xs];omega);rwa [slT_xs] at this
  by_cases hs:d1∈L∨d1=0
  ·have hnx:=Hide.mk (hL.h.2.1.skip (f:=⟨d1,d2,d3,da,db,dc,⟨d4,d5⟩,d6⟩) hs)
   by_cases hm:d1∈L
   ·rw [decide_eq_true hm];clear hm hs;(repeat' first|simp [*,initEnv]|(apply wpIf_two<;>intro _ h<;>try simp [-Nat.le_zero_eq] at h)|(show wpE 0 (doAppend ..) ..;refine wpE_appW ?_)|(refine after_intro fun v2 H2 hv2 hnx2 hget2 hnew2 hone2 hcel2=>?_));exact ⟨i+1,by omega,by omega,by omega,L,⟨hL.h.1,by rw [hstep.h];exact hnx.h,by omega⟩⟩
   ·have hz:d1=0:=by
     rcases hs with h|h
     ·exact absurd h hm
     ·exact h
    rw [decide_eq_false hm];clear hm hs;(repeat' first|simp [*,initEnv]|(apply wpIf_two<;>intro _ h<;>try simp [-Nat.le_zero_eq] at h)|(show wpE 0 (doAppend ..) ..;refine wpE_appW ?_)|(refine after_intro fun v2 H2 hv2 hnx2 hget2 hnew2 hone2 hcel2=>?_));exact ⟨i+1,by omega,by omega,by omega,L,⟨hL.h.1,by rw [hstep.h];exact hnx.h,by omega⟩⟩
  ·have hm:d1 ∉ L:=fun h=>hs (.inl h);have hz:¬ d1=0:=fun h=>hs (.inr h);rw [decide_eq_false hm];have hmH:=Hide.mk hm;clear hm hs;rcases hL.h.1.1 with ⟨hn0,rfl⟩|⟨lid,rfl,hg⟩
   ·subst hn0;(repeat' first|simp [*,initEnv]|(apply wpIf_two<;>intro _ h<;>try simp [-Nat.le_zero_eq] at h)|(show wpE 0 (doAppend ..) ..;refine wpE_appW ?_)|(refine after_intro fun v2 H2 hv2 hnx2 hget2 hnew2 hone2 hcel2=>?_))
    refine wp_loopF [(7,7),(30,43)] (fun (k:Nat) env H'=>env 7=.pure (.int .i64 0)∧H'=H) (fun k=>0) 0 ?_ ?_ ?_ ?_
    ·decide
    ·exact ⟨by simp,rfl⟩
    ·simp only [loopFuel];omega
    rintro k env2 H2 ⟨g7,rfl⟩;have hs0:∀ H,sliceV H 1 (.pure .nils) none (some (.pure (.int .i64 0)))=some (.val (.pure .nils)):=fun _=>by simp [sliceV,boundV,natOf]
    have hs1:∀ H,sliceV H 1 (.pure .nils) (some (.pure (.int .i64 0))) none=some (.val (.pure .nils)):=fun _=>by simp [sliceV,boundV,natOf]
    (repeat' first|simp [*,initEnv]|(apply wpIf_two<;>intro _ h<;>try simp [-Nat.le_zero_eq] at h)|(show wpE 0 (doAppend ..) ..;refine wpE_appW ?_)|(refine after_intro fun v2 H2 hv2 hnx2 hget2 hnew2 hone2 hcel2=>?_))
    refine wpE_appendL (f:=intF) (sz:=1) (l:=[]) (m:=([]:List Int).take 0) (.inr ⟨H2.nx,rfl,by rw [get_alloc_nx];rfl⟩) (fun _=>rfl) (by decide) (fun _=>rfl) nils_cells (by simp [maxCells]) ?_
    intro v4 H4 hv4 hnx4 hs4 hn4;rw [List.nil_append] at hv4;have o4:=hv4.one;have o4a:=o4.1;have o4b:=o4.2;have hv4H:=Hide.mk hv4;clear hv4 hnx4 hs4 hn4 o4;(repeat' first|simp [*,initEnv]|(apply wpIf_two<;>intro _ h<;>try simp [-Nat.le_zero_eq] at h)|(show wpE 0 (doAppend ..) ..;refine wpE_appW ?_)|(refine after_intro fun v2 H2 hv2 hnx2 hget2 hnew2 hone2 hcel2=>?_))
    refine wpE_appendL (f:=intF) (sz:=1) (l:=([]:List Int).take 0) (m:=[d1]) (hv4H.h.alloc _) (fun _=>rfl) (by decide) (fun _=>rfl) (by simp [sliceCells,rowOf,intF]) (by simp [maxCells]) ?_
    intro v5 H5 hv5 hnx5 hs5 hn5;have o5:=hv5.one;have o5a:=o5.1;have o5b:=o5.2;have hv5H:=Hide.mk hv5;clear hv5 hnx5 hs5 hn5 o5;(repeat' first|simp [*,initEnv]|(apply wpIf_two<;>intro _ h<;>try simp [-Nat.le_zero_eq] at h)|(show wpE 0 (doAppend ..) ..;refine wpE_appW ?_)|(refine after_intro fun v2 H2 hv2 hnx2 hget2 hnew2 hone2 hcel2=>?_))
    refine wpE_appendL (f:=intF) (sz:=1) (l:=([]:List Int).take 0++[d1]) (m:=([]:List Int).drop 0) hv5H.h (fun _=>rfl) (by decide) (fun _=>rfl) nils_cells (by simp [maxCells]) ?_
    intro v6 H6 hv6 hnx6 hs6 hn6;have hv6H:=Hide.mk hv6;clear hv6 hnx6 hs6 hn6;(repeat' first|simp [*,initEnv]|(apply wpIf_two<;>intro _ h<;>try simp [-Nat.le_zero_eq] at h)|(show wpE 0 (doAppend ..) ..;refine wpE_appW ?_)|(refine after_intro fun v2 H2 hv2 hnx2 hget2 hnew2 hone2 hcel2=>?_));exact ⟨i+1,by omega,by omega,by omega,([]:List Int).take 0++[d1]++([]:List Int).drop 0,⟨⟨hv6H.h,fun h=>absurd h (by simp)⟩,by rw [hstep.h];exact hL.h.2.1.put (f:=⟨d1,d2,d3,da,db,dc,⟨d4,d5⟩,d6⟩) (k:=0) hz hmH.h (Nat.le_refl _) (fun j h _=>by simp at h) (fun h=>by simp at h),by simp⟩⟩
   ·have hll:L.length < 900:=by omega
    (repeat' first|simp [*,initEnv]|(apply wpIf_two<;>intro _ h<;>try simp [-Nat.le_zero_eq] at h)|(show wpE 0 (doAppend ..) ..;refine wpE_appW ?_)|(refine after_intro fun v2 H2 hv2 hnx2 hget2 hnew2 hone2 hcel2=>?_))
    refine wp_loopF [(7,7),(30,43)] (fun (k:Nat) env H'=>env 7=.pure (.int .i64 k)∧k≤L.length∧H'=H∧Hide (∀ j (h:j < L.length),j < k→L[j] < d1)) (fun k=>L.length - k) 0 ?_ ?_ ?_ ?_
    ·decide
    ·exact ⟨by simp,by omega,rfl,⟨fun _ _ h=>by omega⟩⟩
    ·simp only [loopFuel];omega
    rintro k env2 H2 ⟨g7,hk,rfl,hlo⟩
    by_cases hkl:k < L.length∧(∃ h:k < L.length,L[k] < d1)
    ·obtain ⟨hk1,_,hk2⟩:=hkl;have w2:IntKind.i64.wrap ((k:Int)+1)=(k+1:Nat):=by rw [wrap64 (by omega) (by omega)];omega
     have hlo2:Hide (∀ j (h:j < L.length),j < k+1→L[j] < d1):=⟨fun j h hj=>by
      by_cases e:j=k
      ·subst e;exact hk2
      ·exact hlo.h j h (by omega)⟩
     have hkI:(k:Int) < L.length:=by omega
     clear hlo;(repeat' first|simp [*,initEnv,intF]|(apply wpIf_two<;>intro _ h<;>try simp [-Nat.le_zero_eq] at h)|(show wpE 0 (doAppend ..) ..;refine wpE_appW ?_)|(refine after_intro fun v2 H2 hv2 hnx2 hget2 hnew2 hone2 hcel2=>?_));exact ⟨k+1,by omega,by omega,by omega,hlo2⟩
    ·have hhi:Hide (∀ h:k < L.length,¬ L[k] < d1):=⟨fun h h2=>hkl ⟨h,h,h2⟩⟩
     by_cases hk1:k < L.length
     ·have hk2:=hhi.h hk1;have hkI:(k:Int) < L.length:=by omega
      clear hkl;have hidl:=nx_of_get hg;have hs1:∀ o,sliceV (H2.alloc o) 1 (.row lid 1 0 L.length) none (some (.pure (.int .i64 (k:Int))))=some (.val (.row lid 1 0 k)):=fun o=>sliceV_row_hi (by rw [get_alloc_lt hidl,hg];rfl) hk;(repeat' first|simp [*,initEnv,intF]|(apply wpIf_two<;>intro _ h<;>try simp [-Nat.le_zero_eq] at h)|(show wpE 0 (doAppend ..) ..;refine wpE_appW ?_)|(refine after_intro fun v2 H2 hv2 hnx2 hget2 hnew2 hone2 hcel2=>?_))
      refine wpE_appendL (f:=intF) (sz:=1) (l:=[]) (m:=L.take k) (.inr ⟨H2.nx,rfl,by rw [get_alloc_nx];rfl⟩) (fun _=>rfl) (by decide) (fun _=>rfl) (row_take (by rw [get_alloc_lt hidl];exact hg) hk) (by simp [maxCells];omega) ?_
      intro v4 H4 hv4 hnx4 hs4 hn4;rw [List.nil_append] at hv4;have hg4:H4.get lid=.cells true (rowOf intF L):=by rw [hs4 lid (by rw [nx_alloc];omega) (fun ⟨_,_,_,h⟩=>by simp at h;omega),get_alloc_lt hidl];exact hg
      have hlo4:Hide (∀ id,Names v4 id→H2.nx≤id):=⟨fun id hn=>by
       rcases hn4 id hn with ⟨_,_,_,h⟩|h
       ·simp at h;omega
       ·rw [nx_alloc] at h;omega⟩
      have hidl4:lid < H4.nx:=by rw [nx_alloc] at hnx4;omega
      have o4:=hv4.one;have o4a:=o4.1;have o4b:=o4.2;have hv4H:=Hide.mk hv4;clear hv4 hnx4 hs4 hn4 o4;(repeat' first|simp [*,initEnv]|(apply wpIf_two<;>intro _ h<;>try simp [-Nat.le_zero_eq] at h)|(show wpE 0 (doAppend ..) ..;refine wpE_appW ?_)|(refine after_intro fun v2 H2 hv2 hnx2 hget2 hnew2 hone2 hcel2=>?_))
      refine wpE_appendL (f:=intF) (sz:=1) (l:=L.take k) (m:=[d1]) (hv4H.h.alloc _) (fun _=>rfl) (by decide) (fun _=>rfl) (by simp [sliceCells,rowOf,intF]) (by simp [maxCells];omega) ?_
      intro v5 H5 hv5 hnx5 hs5 hn5;have hg5:H5.get lid=.cells true (rowOf intF L):=by rw [hs5 lid (by rw [nx_alloc];omega) (fun h=>by have:=hlo4.h lid h;omega),get_alloc_lt hidl4];exact hg4
      have hb0:∃ b,sliceV H5 1 (.row lid 1 0 L.length) (some (.pure (.int .i64 (k:Int)))) none=some (.val b)∧sliceCells H5 1 b=some (rowOf intF (L.drop k),(L.drop k).length):=by
       refine ⟨_,sliceV_row_lo (by rw [hg5];rfl) hk,?_⟩
       by_cases hz:k≠0∧L.length=k
       ·rw [if_pos hz,List.drop_eq_nil_of_le (by omega)];rfl
       ·rw [if_neg hz,Nat.zero_add];exact row_drop hg5 hk rfl
      obtain ⟨b,hb1,hb2⟩:=hb0;have hb2H:=Hide.mk hb2;clear hb2;have o5:=hv5.one;have o5a:=o5.1;have o5b:=o5.2;have hv5H:=Hide.mk hv5;clear hv5 hnx5 hs5 hn5 o5;(repeat' first|simp [*,initEnv]|(apply wpIf_two<;>intro _ h<;>try simp [-Nat.le_zero_eq] at h)|(show wpE 0 (doAppend ..) ..;refine wpE_appW ?_)|(refine after_intro fun v2 H2 hv2 hnx2 hget2 hnew2 hone2 hcel2=>?_))
      refine wpE_appendL (f:=intF) (sz:=1) (l:=L.take k++[d1]) (m:=L.drop k) hv5H.h (fun _=>rfl) (by decide) (fun _=>rfl) hb2H.h (by simp [maxCells];omega) ?_
      intro v6 H6 hv6 hnx6 hs6 hn6;have hv6H:=Hide.mk hv6;clear hv6 hnx6 hs6 hn6;(repeat' first|simp [*,initEnv]|(apply wpIf_two<;>intro _ h<;>try simp [-Nat.le_zero_eq] at h)|(show wpE 0 (doAppend ..) ..;refine wpE_appW ?_)|(refine after_intro fun v2 H2 hv2 hnx2 hget2 hnew2 hone2 hcel2=>?_));exact ⟨i+1,by omega,by omega,by omega,L.take k++[d1]++L.drop k,⟨⟨hv6H.h,fun h=>absurd h (by simp)⟩,by rw [hstep.h];exact hL.h.2.1.put (f:=⟨d1,d2,d3,da,db,dc,⟨d4,d5⟩,d6⟩) hz hmH.h hk hlo.h hhi.h,by simp;omega⟩⟩
     ·have hkI:¬ (k:Int) < L.length:=by omega
      clear hkl;have hidl:=nx_of_get hg;have hs1:∀ o,sliceV (H2.alloc o) 1 (.row lid 1 0 L.length) none (some (.pure (.int .i64 (k:Int))))=some (.val (.row lid 1 0 k)):=fun o=>sliceV_row_hi (by rw [get_alloc_lt hidl,hg];rfl) hk;(repeat' first|simp [*,initEnv]|(apply wpIf_two<;>intro _ h<;>try simp [-Nat.le_zero_eq] at h)|(show wpE 0 (doAppend ..) ..;refine wpE_appW ?_)|(refine after_intro fun v2 H2 hv2 hnx2 hget2 hnew2 hone2 hcel2=>?_))
      refine wpE_appendL (f:=intF) (sz:=1) (l:=[]) (m:=L.take k) (.inr ⟨H2.nx,rfl,by rw [get_alloc_nx];rfl⟩) (fun _=>rfl) (by decide) (fun _=>rfl) (row_take (by rw [get_alloc_lt hidl];exact hg) hk) (by simp [maxCells];omega) ?_
      intro v4 H4 hv4 hnx4 hs4 hn4;rw [List.nil_append] at hv4;have hg4:H4.get lid=.cells true (rowOf intF L):=by rw [hs4 lid (by rw [nx_alloc];omega) (fun ⟨_,_,_,h⟩=>by simp at h;omega),get_alloc_lt hidl];exact hg
      have hlo4:Hide (∀ id,Names v4 id→H2.nx≤id):=⟨fun id hn=>by
       rcases hn4 id hn with ⟨_,_,_,h⟩|h
       ·simp at h;omega
       ·rw [nx_alloc] at h;omega⟩
      have hidl4:lid < H4.nx:=by rw [nx_alloc] at hnx4;omega
      have o4:=hv4.one;have o4a:=o4.1;have o4b:=o4.2;have hv4H:=Hide.mk hv4;clear hv4 hnx4 hs4 hn4 o4;(repeat' first|simp [*,initEnv]|(apply wpIf_two<;>intro _ h<;>try simp [-Nat.le_zero_eq] at h)|(show wpE 0 (doAppend ..) ..;refine wpE_appW ?_)|(refine after_intro fun v2 H2 hv2 hnx2 hget2 hnew2 hone2 hcel2=>?_))
      refine wpE_appendL (f:=intF) (sz:=1) (l:=L.take k) (m:=[d1]) (hv4H.h.alloc _) (fun _=>rfl) (by decide) (fun _=>rfl) (by simp [sliceCells,rowOf,intF]) (by simp [maxCells];omega) ?_
      intro v5 H5 hv5 hnx5 hs5 hn5;have hg5:H5.get lid=.cells true (rowOf intF L):=by rw [hs5 lid (by rw [nx_alloc];omega) (fun h=>by have:=hlo4.h lid h;omega),get_alloc_lt hidl4];exact hg4
      have hb0:∃ b,sliceV H5 1 (.row lid 1 0 L.length) (some (.pure (.int .i64 (k:Int)))) none=some (.val b)∧sliceCells H5 1 b=some (rowOf intF (L.drop k),(L.drop k).length):=by
       refine ⟨_,sliceV_row_lo (by rw [hg5];rfl) hk,?_⟩
       by_cases hz:k≠0∧L.length=k
       ·rw [if_pos hz,List.drop_eq_nil_of_le (by omega)];rfl
       ·rw [if_neg hz,Nat.zero_add];exact row_drop hg5 hk rfl
      obtain ⟨b,hb1,hb2⟩:=hb0;have hb2H:=Hide.mk hb2;clear hb2;have o5:=hv5.one;have o5a:=o5.1;have o5b:=o5.2;have hv5H:=Hide.mk hv5;clear hv5 hnx5 hs5 hn5 o5;(repeat' first|simp [*,initEnv]|(apply wpIf_two<;>intro _ h<;>try simp [-Nat.le_zero_eq] at h)|(show wpE 0 (doAppend ..) ..;refine wpE_appW ?_)|(refine after_intro fun v2 H2 hv2 hnx2 hget2 hnew2 hone2 hcel2=>?_))
      refine wpE_appendL (f:=intF) (sz:=1) (l:=L.take k++[d1]) (m:=L.drop k) hv5H.h (fun _=>rfl) (by decide) (fun _=>rfl) hb2H.h (by simp [maxCells];omega) ?_
      intro v6 H6 hv6 hnx6 hs6 hn6;have hv6H:=Hide.mk hv6;clear hv6 hnx6 hs6 hn6;(repeat' first|simp [*,initEnv]|(apply wpIf_two<;>intro _ h<;>try simp [-Nat.le_zero_eq] at h)|(show wpE 0 (doAppend ..) ..;refine wpE_appW ?_)|(refine after_intro fun v2 H2 hv2 hnx2 hget2 hnew2 hone2 hcel2=>?_));exact ⟨i+1,by omega,by omega,by omega,L.take k++[d1]++L.drop k,⟨⟨hv6H.h,fun h=>absurd h (by simp)⟩,by rw [hstep.h];exact hL.h.2.1.put (f:=⟨d1,d2,d3,da,db,dc,⟨d4,d5⟩,d6⟩) hz hmH.h hk hlo.h hhi.h,by simp;omega⟩⟩
 ·have hiN:i=fs.xs.length:=by omega
  subst hiN;rw [List.take_length] at hL;have he:L=ids:=hL.h.2.1.unique hid0.h;subst he;have hr:=hL.h.1.res (n:=10) (fun _=>rfl);clear hL hid0;(repeat' first|simp [*,initEnv]|(apply wpIf_two<;>intro _ h<;>try simp [-Nat.le_zero_eq] at h)|(show wpE 0 (doAppend ..) ..;refine wpE_appW ?_)|(refine after_intro fun v2 H2 hv2 hnx2 hget2 hnew2 hone2 hcel2=>?_));exact hr
end Go.Proofs.YtmghcpdpilgplaaGreat.Vm
