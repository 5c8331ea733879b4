/- Narrow, Parts and Volume: the program's, walked. find and solved: what is seen of all parts, walked. What Core, Only and Without leave. Plain Lean. picked, Without and Only: the program's, walked. slices.DeleteFunc of one element of numbers of one's own. -/
import Derived.Test.YtmmhnfghklppiaaPk21
import Derived.Test.YtmmhnfghklppiaaPk23
import Derived.Test.YtmmhnfghklppiaaPk16
import Derived.Test.YtmmhnfghklppiaaPk18
namespace Go.Proofs.Ytmmhnfghklppiaa.Vm
open Go
set_option linter.unusedSimpArgs false
set_option linter.unusedVariables false
set_option maxHeartbeats 4000000
set_option maxRecDepth 4000
def errN (r:Option (List Box)):Int:=if r.isSome=true then 0 else 9
def NarOut (p:Problem) (nar:Option (List Box)→PV) (v:PV) (e:Int):Prop:=(checkS p≠0∧v=.nils∧e=checkS p)∨(checkS p=0∧∃ r,IsNar failsP p.facts.xs p.boxes.xs r∧v=nar r∧e=errN r)
theorem e10 (n:Nat) (p:Problem) (v:PV) (e:Int) (h:NarOut p (narPV p) v e):callP G (n+8) 10 [.agg p.cells]=some (.tup [v,.int .i64 e]):=by
 refine callP_of (ext_none _) rfl g10 rfl ?_
 have hc:=fun H=>call_pureC (G:=G) (n:=n+7) (H:=H) (caps:=[]) (ps:=[.agg p.cells]) sh28 (e28 (n+4) p);rcases h with ⟨h0,rfl,rfl⟩|⟨h0,r,hr,rfl,rfl⟩
 ·generalize checkS p=c at *;simp only [Problem.cells,List.map_cons,List.map_nil] at hc;(repeat' first|simp [*,initEnv,c10,Problem.cells]|(apply wpIf_two<;>intro _ h<;>try simp [-Nat.le_zero_eq] at h))
 ·have hn:=fun H=>call_pureC (G:=G) (n:=n+7) (H:=H) (caps:=[]) (ps:=[.agg p.cells]) sh32 (e32 n p (check_ok.1 h0) r hr);rw [h0] at hc;have hcd:(narPV p r).cold=true:=by
   cases r with
   | none=>rfl
   | some l=>
    unfold narPV;simp only
    split
    ·rfl
    ·exact cold_boxes l
  have hnone:r=none→narPV p r=.nils:=fun h=>by subst h;rfl
  generalize hv:narPV p r=v at *;simp only [Problem.cells,List.map_cons,List.map_nil] at hc hn;clear h0 hr
  cases hrs:r with
  | none =>
   have h9:=hnone hrs;subst hrs;subst h9;clear hv hnone;have e9:errN none=9:=rfl;(repeat' first|simp [*,initEnv,c10,Problem.cells]|(apply wpIf_two<;>intro _ h<;>try simp [-Nat.le_zero_eq] at h))
  | some l =>
   subst hrs;clear hv hnone;have e9:errN (some l)=0:=rfl;(repeat' first|simp [*,initEnv,c10,Problem.cells]|(apply wpIf_two<;>intro _ h<;>try simp [-Nat.le_zero_eq] at h))
theorem nar_sl {p:Problem} {l:List Box} (hl:l.length=p.boxes.xs.length):∃ q:Sl Box,narPV p (some l)=q.pv Box.cells 4∧q.xs=l:=by
 obtain ⟨bs,fs⟩:=p
 cases bs with
 | nil =>
  have:l=[]:=List.eq_nil_of_length_eq_zero hl;subst this;exact ⟨.nil,rfl,rfl⟩
 | mk h xs=>exact ⟨.mk false l,rfl,rfl⟩
theorem parts_ok (m:Nat→Nat) (n:Nat):(partsL' m n).length≤n∧∀ l∈partsL' m n,l.length≤n∧∀ k∈l,k < n:=by
 refine ⟨partsTo_len m n n,fun l hl=>?_⟩
 obtain ⟨i,_,_,rfl⟩:=mem_parts.1 hl;exact ⟨partTo_len m i n,fun k hk=>(mem_partL.1 hk).1⟩
structure FoundD where
 empty:Bool
 seens:List SeenD
def seenF (s:SeenD):List PV:=[s.pv]
@[simp] def FoundD.cells (D:FoundD):List PV:=[.bool D.empty,(Sl.of D.seens).pv seenF 1]
def emptyB (L:List SeenD):Bool:=L.any fun s=>s.n == 0
theorem emptyB_snoc (L:List SeenD) (s:SeenD):emptyB (L++[s])=(emptyB L||decide ((s.n:Int)=0)):=by
 unfold emptyB;rw [List.any_append];simp only [List.any_cons,List.any_nil,Bool.or_false]
 congr 1
 rw [Bool.eq_iff_iff];simp
def FindOut (p:Problem) (D:FoundD) (e:Int):Prop:=(IsNar failsP p.facts.xs p.boxes.xs none∧D=⟨true,[]⟩∧e=0) ∨
 ∃ l m,IsNar failsP p.facts.xs p.boxes.xs (some l)∧IsCls (edgesL p.facts.xs) p.boxes.xs.length m ∧
  ((65536 < volL l (partsL' m p.boxes.xs.length)∧D=⟨false,[]⟩∧e=2) ∨
   (volL l (partsL' m p.boxes.xs.length)≤65536∧D=⟨emptyB ((partsL' m p.boxes.xs.length).map (lookD p.facts.xs l)),(partsL' m p.boxes.xs.length).map (lookD p.facts.xs l)⟩∧e=0))
theorem volL_max {b:List Box}:∀ {ps:List (List Nat)} {x:Int} {g:List Nat},g∈ps→volP b g≤ps.foldl (fun x l=>max x (volP b l)) x
 | a::ps,x,g,h=>by
  rw [List.foldl_cons];rcases List.mem_cons.1 h with rfl|h
  ·have mono:∀ (ps:List (List Nat)) (x:Int),x≤ps.foldl (fun x l=>max x (volP b l)) x:=by
    intro ps
    induction ps with
    | nil=>intro x;exact Int.le_refl _
    | cons a ps ih=>intro x;have:=ih (max x (volP b a));rw [List.foldl_cons];omega
   have:=mono ps (max x (volP b g));omega
  ·exact volL_max h
theorem fact_named {p:Problem} (ok:CheckOk p):∀ f∈p.facts.xs,Named f p.boxes.xs.length:=fun f hf=>named_ok (ok.fact f hf)
theorem fact_apart {p:Problem} (ok:CheckOk p):∀ f∈p.facts.xs,f.a≠f.b∧(f.kind=2→f.c≠f.a):=fun f hf=>by
 have h:=(formedB_iff f _).1 (ok.fact f hf)
 refine ⟨by omega,fun hk=>?_⟩
 have:=h.2.2.2.2.2.1 hk;omega
theorem look_in {p:Problem} (ok:CheckOk p) {l:List Box} {m:Nat→Nat} (hr:IsNar failsP p.facts.xs p.boxes.xs (some l)) (hm:IsCls (edgesL p.facts.xs) p.boxes.xs.length m) (hv:volL l (partsL' m p.boxes.xs.length)≤65536) {q:Sl Box} (hq:q.xs=l) {g:List Nat} (hg:g∈partsL' m p.boxes.xs.length):LookIn p q g:=by
 have hd:=parts_div hm (fact_named ok);have hlen:l.length=p.boxes.xs.length:=hr.1.sub.1;obtain ⟨i,hi,hri,rfl⟩:=mem_parts.1 hg;have hpo:=part_one hm (fact_named ok) (fact_apart ok) hi hri;have h1:=hd.one _ hg;have hpl:=parts_ok m p.boxes.xs.length
 refine ⟨ok,by rw [hq];exact hr.1.sub,by rw [hq];exact hr.1.wf,h1.1,fun k hk=>by rw [hq,hlen];exact h1.2 k hk,hpo.2.1,by have:=(hpl.2 _ hg).1;have:=ok.nb;omega,fun f hf ha=>hd.within f hf _ hg ha,fun h=>?_⟩
 rw [hq]
 refine Nat.le_trans (sols_few hr.1.wf (fun k hk=>by rw [hlen];exact h1.2 k hk) h ?_) (by decide)
 have:=volL_max (b:=l) (x:=0) hg;unfold volL at hv;omega
theorem sh24:G.shared 24=false:=by decide
theorem e24 (n:Nat) (p:Problem) (ok:CheckOk p) (D:FoundD) (e:Int) (h:FindOut p D e):callP G (n+51) 24 [.agg p.cells]=some (.tup [.agg D.cells,.int .i64 e]):=by
 refine callP_of (ext_none _) rfl g24 rfl ?_
 rcases h with ⟨hr,rfl,rfl⟩|⟨l,m,hr,hm,h⟩
 ·have hn:=fun H=>call_pureC (G:=G) (n:=n+50) (H:=H) (caps:=[]) (ps:=[.agg p.cells]) sh32 (e32 (n+43) p ok none hr);have hnone:narPV p none=.nils:=rfl;rw [hnone] at hn;simp only [Problem.cells,List.map_cons,List.map_nil] at hn;clear hr hnone;(repeat' first|simp [*,initEnv,c24,Problem.cells]|(apply wpIf_two<;>intro _ h<;>try simp [-Nat.le_zero_eq] at h)|(show wpE 0 (doAppend ..) ..;refine wpE_appW ?_)|(refine after_intro fun v2 H2 hv2 hnx2 hget2 hnew2 hone2 hcel2=>?_))
 ·have hl:l.length=p.boxes.xs.length:=hr.1.sub.1;obtain ⟨q,hq,hqx⟩:=nar_sl hl;have hn:=fun H=>call_pureC (G:=G) (n:=n+50) (H:=H) (caps:=[]) (ps:=[.agg p.cells]) sh32 (e32 (n+43) p ok (some l) hr);have hp:=fun H=>call_pureC (G:=G) (n:=n+50) (H:=H) (caps:=[]) (ps:=[.agg p.cells]) sh40 (e40 (n+48) p ok m hm);have hpo:=parts_ok m p.boxes.xs.length;have nb:=ok.nb;have hv:=fun H=>call_pureC (G:=G) (n:=n+50) (H:=H) (caps:=[]) (ps:=[q.pv Box.cells 4,(Sl.of (partsL' m p.boxes.xs.length)).pv partF 1]) sh41 (e41 (n+48) q (Sl.of (partsL' m p.boxes.xs.length)) (by rw [hqx];omega) (by rw [Sl.xs_of];omega) (by rw [hqx];exact valid_sub ok hr.1.sub hr.1.wf) (by rw [Sl.xs_of,hqx,hl];exact fun x hx=>⟨by have:=(hpo.2 x hx).1;omega,(hpo.2 x hx).2⟩));have hlk:=Hide.mk (fun (hvol:volL l (partsL' m p.boxes.xs.length)≤65536) (g:List Nat) (hg:g∈partsL' m p.boxes.xs.length) H=>call_pureC (G:=G) (n:=n+50) (H:=H) (caps:=[]) (ps:=[.agg p.cells,q.pv Box.cells 4,partPV g]) sh42 (e42 n p q g (look_in ok hr hm hvol hqx hg)));rw [hqx] at hlk;rw [partsPV_sl] at hp;rw [Sl.xs_of,hqx] at hv;have hps:Hide ((partsL' m p.boxes.xs.length).length≤12):=⟨by omega⟩
  generalize partsL' m p.boxes.xs.length=gs at *;rcases h with ⟨hvol,rfl,rfl⟩|⟨hvol,hDe,rfl⟩
  ·have hvol':65536 < volL l gs:=hvol;rw [hq] at hn;simp only [Problem.cells,List.map_cons,List.map_nil] at hn hp hv;clear hr hm hpo hqx hq ok nb hl hlk hvol;generalize volL l gs=x at *;generalize q.pv Box.cells 4=y at *;generalize (Sl.of gs).pv partF 1=w at *;(repeat' first|simp [*,initEnv,c24,Problem.cells]|(apply wpIf_two<;>intro _ h<;>try simp [-Nat.le_zero_eq] at h)|(show wpE 0 (doAppend ..) ..;refine wpE_appW ?_)|(refine after_intro fun v2 H2 hv2 hnx2 hget2 hnew2 hone2 hcel2=>?_))
  ·have hvol':¬ 65536 < volL l gs:=by omega
   have hlk2:=Hide.mk (hlk.h hvol);rw [hq] at hn;simp only [Problem.cells,List.map_cons,List.map_nil] at hn hp hv;clear hr hm hpo hqx hq ok nb hl hlk hvol;generalize volL l gs=x at *;generalize hy:q.pv Box.cells 4=y at *;obtain ⟨s,hs⟩:∃ s,s=Sl.of gs:=⟨_,rfl⟩
   have hsx:s.xs=gs:=by rw [hs,Sl.xs_of]
   rw [← hs] at hp hv;have hsl:s.xs.length≤12:=by rw [hsx];exact hps.h
   have hsxH:=Hide.mk hsx;have hDeH:=Hide.mk hDe;clear hs hsx hy hDe;(repeat' first|simp [*,initEnv,c24,Problem.cells]|(apply wpIf_two<;>intro _ h<;>try simp [-Nat.le_zero_eq] at h)|(show wpE 0 (doAppend ..) ..;refine wpE_appW ?_)|(refine after_intro fun v2 H2 hv2 hnx2 hget2 hnew2 hone2 hcel2=>?_))
   refine wp_loopF [(9,10),(28,52)] (fun (i:Nat) env H=>env 28=.pure (.int .i64 i)∧i≤s.xs.length∧1 < H.nx∧H.get 0=.cells true [.pure (.bool false),.pure .nils]∧∃ V,H.get 1=.cells true [.pure (.bool (emptyB ((gs.map (lookD p.facts.xs l)).take i))),V]∧Hide (GrowV seenF 1 H V ((gs.map (lookD p.facts.xs l)).take i)∧∀ id,Names V id→1 < id)) (fun i=>s.xs.length - i) 0 ?_ ?_ ?_ ?_
   ·decide
   ·exact ⟨by simp,by omega,by simp,by simp,.pure .nils,by simp [emptyB],⟨by simpa using GrowV.nil,fun id ⟨_,_,_,h⟩=>by simp at h⟩⟩
   ·simp only [loopFuel];omega
   rintro i env H ⟨g28,hi,hnx,h0,V,h1,hV⟩;generalize hb:emptyB ((gs.map (lookD p.facts.xs l)).take i)=b at *
   by_cases hlt:i < s.xs.length
   ·have w1:IntKind.i64.wrap ((i:Int)+1)=(i+1:Nat):=by rw [wrap64 (by omega) (by omega)];omega
    have hltI:(i:Int) < s.xs.length:=by omega
    have hig:i < gs.length:=by rw [← hsxH.h];exact hlt
    have hme:s.xs[i]∈gs:=by rw [← hsxH.h];exact List.getElem_mem hlt
    have hlk3:=hlk2.h s.xs[i] hme;have hnext:(gs.map (lookD p.facts.xs l)).take (i+1)=(gs.map (lookD p.facts.xs l)).take i++[lookD p.facts.xs l s.xs[i]]:=by
     have e:=hsxH.h;subst e;rw [List.take_add_one,List.getElem?_eq_getElem (by simpa using hlt)];simp
    obtain ⟨g,hg⟩:∃ g,s.xs[i]=g:=⟨_,rfl⟩
    rw [hg] at hlk3 hnext;have hnb:Hide (emptyB ((gs.map (lookD p.facts.xs l)).take (i+1))=(b||decide (((lookD p.facts.xs l g).n:Int)=0))):=⟨by
     rw [hnext,emptyB_snoc,hb]⟩
    have hlen:((gs.map (lookD p.facts.xs l)).take i).length≤12:=by rw [List.length_take];have:=hps.h;omega
    have hnextH:=Hide.mk hnext;generalize lookD p.facts.xs l g=D' at *;generalize (gs.map (lookD p.facts.xs l)).take i=L at *;simp only [Problem.cells,partPV_sl,List.map_cons,List.map_nil] at hlk3;have hVo:=hV.h.1.1.one;have hVo1:=hVo.1;have hVo2:=hVo.2;have hpvE:D'.pv=.ptr false [partPV D'.part,.int .i64 D'.n,.slice false 4 (chunks 4 D'.part.length (D'.ends.map optPV)),optPV D'.first] 0:=rfl;have hDH:=Hide.mk hpvE;rw [hpvE] at hlk3;clear hlk2 hnext hb hVo hpvE;obtain ⟨pp,hpp⟩:∃ pp,pp=partPV D'.part:=⟨_,rfl⟩
    obtain ⟨cc,hcc⟩:∃ cc,cc=chunks 4 D'.part.length (D'.ends.map optPV):=⟨_,rfl⟩
    obtain ⟨oo,hoo⟩:∃ oo,oo=optPV D'.first:=⟨_,rfl⟩
    have hDc:Hide (D'.pv=.ptr false [pp,.int .i64 D'.n,.slice false 4 cc,oo] 0):=⟨by rw [hDH.h,← hpp,← hcc,← hoo]⟩
    rw [← hpp,← hcc,← hoo] at hlk3;have hseE:seenF D'=[D'.pv]:=rfl;rw [hDc.h] at hseE;obtain ⟨nn,hnn⟩:∃ nn:Int,nn=D'.n:=⟨_,rfl⟩
    rw [← hnn] at hlk3 hnb hseE;have hseH:=Hide.mk hseE;clear hnn hseE;clear hpp hcc hoo hDH
    cases b with
    | true =>
     have hnb2:Hide (emptyB ((gs.map (lookD p.facts.xs l)).take (i+1))=true):=⟨by rw [hnb.h];rfl⟩
     clear hnb;(repeat' first|simp [*,initEnv,partF]|(apply wpIf_two<;>intro _ h<;>try simp [-Nat.le_zero_eq] at h)|(show wpE 0 (doAppend ..) ..;refine wpE_appW ?_)|(refine after_intro fun v2 H2 hv2 hnx2 hget2 hnew2 hone2 hcel2=>?_))
     refine wpE_appendV (f:=seenF) (sz:=1) (l:=L) ((hV.h.1.set (fun hn=>by have:=hV.h.2 1 hn;omega) _).alloc _) (fun _=>rfl) (by decide) (fun _=>rfl) (by unfold maxCells;omega) ⟨D',by rw [hseH.h];simp,?_⟩
     intro V4 H4 hg4 ha;have hV4:Hide (GrowV seenF 1 H4 V4 ((gs.map (lookD p.facts.xs l)).take (i+1))∧∀ id,Names V4 id→1 < id):=⟨by rw [hnextH.h];exact hg4,fun id hn=>by have:=ha.new id hn;simp at this;omega⟩
     have g0:H4.get 0=.cells true [.pure (.bool false),.pure .nils]:=by
      rw [ha.get 0 (by rw [nx_alloc,nx_set];omega) (fun hn=>by have:=hV.h.2 0 hn;omega),get_alloc_lt (by rw [nx_set];omega),get_set_ne (by omega)];exact h0
     have g1:H4.get 1=.cells true [.pure (.bool true),V]:=by
      rw [ha.get 1 (by rw [nx_alloc,nx_set];omega) (fun hn=>by have:=hV.h.2 1 hn;omega),get_alloc_lt (by rw [nx_set];omega),get_set_own hnx]
     have gn:1 < H4.nx:=by have:=ha.nx;simp at this;omega
     have o4:=hg4.1.one;have o4a:=o4.1;have o4b:=o4.2;clear hg4 ha o4 hV;(repeat' first|simp [*,initEnv]|(apply wpIf_two<;>intro _ h<;>try simp [-Nat.le_zero_eq] at h)|(show wpE 0 (doAppend ..) ..;refine wpE_appW ?_)|(refine after_intro fun v2 H2 hv2 hnx2 hget2 hnew2 hone2 hcel2=>?_));exact ⟨i+1,by omega,by omega,by omega,V4,⟨hnb2.h,rfl⟩,⟨hV4.h.1.set (fun hn=>by have:=hV4.h.2 1 hn;omega) _,hV4.h.2⟩⟩
    | false =>
     by_cases hz:nn=0
     ·have hnb2:Hide (emptyB ((gs.map (lookD p.facts.xs l)).take (i+1))=true):=⟨by rw [hnb.h,decide_eq_true hz];rfl⟩
      subst hz;clear hnb;(repeat' first|simp [*,initEnv,partF]|(apply wpIf_two<;>intro _ h<;>try simp [-Nat.le_zero_eq] at h)|(show wpE 0 (doAppend ..) ..;refine wpE_appW ?_)|(refine after_intro fun v2 H2 hv2 hnx2 hget2 hnew2 hone2 hcel2=>?_))
      refine wpE_appendV (f:=seenF) (sz:=1) (l:=L) ((hV.h.1.set (fun hn=>by have:=hV.h.2 1 hn;omega) _).alloc _) (fun _=>rfl) (by decide) (fun _=>rfl) (by unfold maxCells;omega) ⟨D',by rw [hseH.h];simp,?_⟩
      intro V4 H4 hg4 ha;have hV4:Hide (GrowV seenF 1 H4 V4 ((gs.map (lookD p.facts.xs l)).take (i+1))∧∀ id,Names V4 id→1 < id):=⟨by rw [hnextH.h];exact hg4,fun id hn=>by have:=ha.new id hn;simp at this;omega⟩
      have g0:H4.get 0=.cells true [.pure (.bool false),.pure .nils]:=by
       rw [ha.get 0 (by rw [nx_alloc,nx_set];omega) (fun hn=>by have:=hV.h.2 0 hn;omega),get_alloc_lt (by rw [nx_set];omega),get_set_ne (by omega)];exact h0
      have g1:H4.get 1=.cells true [.pure (.bool true),V]:=by
       rw [ha.get 1 (by rw [nx_alloc,nx_set];omega) (fun hn=>by have:=hV.h.2 1 hn;omega),get_alloc_lt (by rw [nx_set];omega),get_set_own hnx]
      have gn:1 < H4.nx:=by have:=ha.nx;simp at this;omega
      have o4:=hg4.1.one;have o4a:=o4.1;have o4b:=o4.2;clear hg4 ha o4 hV;(repeat' first|simp [*,initEnv]|(apply wpIf_two<;>intro _ h<;>try simp [-Nat.le_zero_eq] at h)|(show wpE 0 (doAppend ..) ..;refine wpE_appW ?_)|(refine after_intro fun v2 H2 hv2 hnx2 hget2 hnew2 hone2 hcel2=>?_));exact ⟨i+1,by omega,by omega,by omega,V4,⟨hnb2.h,rfl⟩,⟨hV4.h.1.set (fun hn=>by have:=hV4.h.2 1 hn;omega) _,hV4.h.2⟩⟩
     ·have hnb2:Hide (emptyB ((gs.map (lookD p.facts.xs l)).take (i+1))=false):=⟨by rw [hnb.h,decide_eq_false hz];rfl⟩
      clear hnb;(repeat' first|simp [*,initEnv,partF]|(apply wpIf_two<;>intro _ h<;>try simp [-Nat.le_zero_eq] at h)|(show wpE 0 (doAppend ..) ..;refine wpE_appW ?_)|(refine after_intro fun v2 H2 hv2 hnx2 hget2 hnew2 hone2 hcel2=>?_))
      refine wpE_appendV (f:=seenF) (sz:=1) (l:=L) ((hV.h.1.set (fun hn=>by have:=hV.h.2 1 hn;omega) _).alloc _) (fun _=>rfl) (by decide) (fun _=>rfl) (by unfold maxCells;omega) ⟨D',by rw [hseH.h];simp,?_⟩
      intro V4 H4 hg4 ha;have hV4:Hide (GrowV seenF 1 H4 V4 ((gs.map (lookD p.facts.xs l)).take (i+1))∧∀ id,Names V4 id→1 < id):=⟨by rw [hnextH.h];exact hg4,fun id hn=>by have:=ha.new id hn;simp at this;omega⟩
      have g0:H4.get 0=.cells true [.pure (.bool false),.pure .nils]:=by
       rw [ha.get 0 (by rw [nx_alloc,nx_set];omega) (fun hn=>by have:=hV.h.2 0 hn;omega),get_alloc_lt (by rw [nx_set];omega),get_set_ne (by omega)];exact h0
      have g1:H4.get 1=.cells true [.pure (.bool false),V]:=by
       rw [ha.get 1 (by rw [nx_alloc,nx_set];omega) (fun hn=>by have:=hV.h.2 1 hn;omega),get_alloc_lt (by rw [nx_set];omega),get_set_own hnx]
      have gn:1 < H4.nx:=by have:=ha.nx;simp at this;omega
      have o4:=hg4.1.one;have o4a:=o4.1;have o4b:=o4.2;clear hg4 ha o4 hV;(repeat' first|simp [*,initEnv]|(apply wpIf_two<;>intro _ h<;>try simp [-Nat.le_zero_eq] at h)|(show wpE 0 (doAppend ..) ..;refine wpE_appW ?_)|(refine after_intro fun v2 H2 hv2 hnx2 hget2 hnew2 hone2 hcel2=>?_));exact ⟨i+1,by omega,by omega,by omega,V4,⟨hnb2.h,rfl⟩,⟨hV4.h.1.set (fun hn=>by have:=hV4.h.2 1 hn;omega) _,hV4.h.2⟩⟩
   ·have hiN:i=s.xs.length:=by omega
    subst hiN;have hall:(gs.map (lookD p.facts.xs l)).take s.xs.length=gs.map (lookD p.facts.xs l):=by
     rw [hsxH.h];exact List.take_of_length_le (by simp)
    rw [hall] at hb hV;have hres:Hide (∀ o,FrzK (H.set 0 o) false 10 V ((Sl.of (gs.map (lookD p.facts.xs l))).pv seenF 1)):=⟨fun o=>(hV.h.1.set (fun hn=>by have:=hV.h.2 0 hn;omega) o).res (n:=8) (fun _=>rfl)⟩
    have hVo:=hV.h.1.1.one;have hVo1:=hVo.1;have hVo2:=hVo.2;have hDe:=hDeH.h;rw [hb] at hDe;have hDb:D.empty=b:=by rw [hDe]
    have hDs:Hide (D.seens=gs.map (lookD p.facts.xs l)):=⟨by rw [hDe]⟩
    have hDeH2:=Hide.mk hDe;have h0n:0 < H.nx:=by omega
    obtain ⟨ids,hids⟩:=FrzK.aggV (n:=10) (FrzL.cons (FrzK.pure (.bool b)) (.cons (hres.h (.cells true [.pure (.bool b),V])) .nil));rw [← hDs.h] at hids;clear hV hVo hlk2 hDeH hDe hb hall hres;(repeat' first|simp [*,initEnv]|(apply wpIf_two<;>intro _ h<;>try simp [-Nat.le_zero_eq] at h)|(show wpE 0 (doAppend ..) ..;refine wpE_appW ?_)|(refine after_intro fun v2 H2 hv2 hnx2 hget2 hnew2 hone2 hcel2=>?_))
theorem strict_ext:∀ {l m:List Int},l.Pairwise (· < ·)→m.Pairwise (· < ·)→(∀ x,x∈l↔x∈m)→l=m
 | [],[],_,_,_=>rfl
 | [],b::m,_,_,h=>by have:=(h b).2 List.mem_cons_self;simp at this
 | a::l,[],_,_,h=>by have:=(h a).1 List.mem_cons_self;simp at this
 | a::l,b::m,hl,hm,h=>by
  rw [List.pairwise_cons] at hl hm;have e:a=b:=by
   rcases List.mem_cons.1 ((h a).1 List.mem_cons_self) with e|h1
   ·exact e
   ·rcases List.mem_cons.1 ((h b).2 List.mem_cons_self) with e|h2
    ·exact e.symm
    ·have:=hl.1 b h2;have:=hm.1 a h1;omega
  subst e
  congr 1
  refine strict_ext hl.2 hm.2 fun x=>⟨fun hx=>?_,fun hx=>?_⟩
  ·rcases List.mem_cons.1 ((h x).1 (List.mem_cons_of_mem _ hx)) with e|h1
   ·have:=hl.1 x hx;omega
   ·exact h1
  ·rcases List.mem_cons.1 ((h x).2 (List.mem_cons_of_mem _ hx)) with e|h1
   ·have:=hm.1 x hx;omega
   ·exact h1
theorem goC_strict:∀ (l:List Int) (k:Int),(k::l).Pairwise (·≤·)→(k::goC (some k) l).Pairwise (· < ·)∧∀ x,x∈k::goC (some k) l↔x∈k::l
 | [],k,_=>by simp [goC]
 | a::r,k,h=>by
  rw [List.pairwise_cons] at h;obtain ⟨h1,h2⟩:=h;unfold goC
  by_cases e:k=a
  ·subst e;rw [if_pos rfl];obtain ⟨i1,i2⟩:=goC_strict r k h2;exact ⟨i1,fun x=>by rw [i2 x];simp⟩
  ·rw [if_neg (by simpa using e)];obtain ⟨i1,i2⟩:=goC_strict r a h2;have hka:=h1 a List.mem_cons_self
   refine ⟨List.pairwise_cons.2 ⟨fun y hy=>?_,i1⟩,fun x=>?_⟩
   ·rcases List.mem_cons.1 hy with rfl|hy
    ·omega
    ·have:=(List.pairwise_cons.1 i1).1 y hy;omega
   ·rw [List.mem_cons,i2 x,List.mem_cons (l:=a::r)]
theorem compact_strict {l:List Int} (h:l.Pairwise (·≤·)):(compactL l).Pairwise (· < ·)∧∀ x,x∈compactL l↔x∈l:=by
 unfold compactL
 cases l with
 | nil=>simp [goC]
 | cons a r =>
  unfold goC;rw [if_neg (by simp)];exact goC_strict r a h
def IsIds (L:List Int) (fs:List Fact):Prop:=L.Pairwise (· < ·)∧∀ x,x∈L↔x≠0∧∃ f∈fs,f.id=x
theorem IsIds.unique {L M:List Int} {fs:List Fact} (h:IsIds L fs) (h':IsIds M fs):L=M :=
 strict_ext h.1 h'.1 fun x=>(h.2 x).trans (h'.2 x).symm
def posIds (fs:List Fact):List Int:=(fs.map (·.id)).filter fun x=>decide (0 < x)
def idsP (fs:List Fact):List Int:=compactL (isort (posIds fs))
theorem idsP_is {fs:List Fact} (h:∀ f∈fs,0≤f.id):IsIds (idsP fs) fs:=by
 obtain ⟨h1,h2⟩:=compact_strict (isort_sorted (posIds fs))
 refine ⟨h1,fun x=>?_⟩
 unfold idsP;rw [h2 x,(isort_perm _).mem_iff,posIds,List.mem_filter,List.mem_map,decide_eq_true_eq]
 constructor
 ·rintro ⟨⟨f,hf,rfl⟩,hx⟩;exact ⟨by omega,f,hf,rfl⟩
 ·rintro ⟨hx,f,hf,rfl⟩;exact ⟨⟨f,hf,rfl⟩,by have:=h f hf;omega⟩
theorem idsP_len (fs:List Fact):(idsP fs).length≤fs.length:=by
 unfold idsP compactL
 refine Nat.le_trans (goC_le _ _) ?_
 rw [isort_length,posIds];exact Nat.le_trans (List.length_filter_le _ _) (by simp)
theorem IsIds.nil:IsIds [] []:=⟨List.Pairwise.nil,by simp⟩
theorem IsIds.skip {L:List Int} {fs:List Fact} {f:Fact} (h:IsIds L fs) (hs:f.id∈L∨f.id=0):IsIds L (fs++[f]):=by
 refine ⟨h.1,fun x=>?_⟩
 rw [h.2 x]
 constructor
 ·rintro ⟨hx,g,hg,e⟩;exact ⟨hx,g,List.mem_append_left _ hg,e⟩
 ·rintro ⟨hx,g,hg,e⟩;rcases List.mem_append.1 hg with hg|hg
  ·exact ⟨hx,g,hg,e⟩
  ·simp only [List.mem_singleton] at hg;subst hg;rcases hs with hs|hs
   ·exact e ▸ (h.2 _).1 hs
   ·omega
theorem IsIds.put {L:List Int} {fs:List Fact} {f:Fact} {k:Nat} (h:IsIds L fs) (h0:f.id≠0) (hn:f.id ∉ L) (hk:k≤L.length) (hlo:∀ j (h:j < L.length),j < k→L[j] < f.id) (hhi:∀ h:k < L.length,¬ L[k] < f.id):IsIds (L.take k++[f.id]++L.drop k) (fs++[f]):=by
 have hlo':∀ x∈L.take k,x < f.id:=fun x hx=>by
  obtain ⟨j,hj,rfl⟩:=List.getElem_of_mem hx;rw [List.length_take] at hj;rw [List.getElem_take];exact hlo j (by omega) (by omega)
 have hhi':∀ x∈L.drop k,f.id < x:=fun x hx=>by
  have hxL:x∈L:=List.mem_of_mem_drop hx;have hne:x≠f.id:=fun e=>hn (e ▸ hxL);obtain ⟨j,hj,rfl⟩:=List.getElem_of_mem hx;rw [List.length_drop] at hj;rw [List.getElem_drop] at hne ⊢;have hkl:k < L.length:=by omega
  have:=hhi hkl
  by_cases e:j=0
  ·subst e;simp only [Nat.add_zero] at hne ⊢;omega
  ·have:=List.pairwise_iff_getElem.1 h.1 k (k+j) hkl (by omega) (by omega);omega
 have hL:L.take k++L.drop k=L:=List.take_append_drop k L
 refine ⟨?_,fun x=>?_⟩
 ·have hp:=h.1;rw [← hL,List.pairwise_append] at hp;rw [List.append_assoc,List.pairwise_append]
  refine ⟨hp.1,?_,fun a ha b hb=>?_⟩
  ·rw [List.singleton_append,List.pairwise_cons];exact ⟨hhi',hp.2.1⟩
  ·rcases List.mem_cons.1 hb with rfl|hb
   ·exact hlo' a ha
   ·exact hp.2.2 a ha b hb
 ·have hmm:x∈L.take k++[f.id]++L.drop k↔x∈L∨x=f.id:=by
   conv=>rhs;rw [← hL]
   simp only [List.mem_append,List.mem_singleton]
   constructor
   ·rintro ((h|h)|h)
    ·exact .inl (.inl h)
    ·exact .inr h
    ·exact .inl (.inr h)
   ·rintro ((h|h)|h)
    ·exact .inl (.inl h)
    ·exact .inr h
    ·exact .inl (.inr h)
  rw [hmm,h.2 x]
  constructor
  ·rintro (⟨hx,g,hg,e⟩|rfl)
   ·exact ⟨hx,g,List.mem_append_left _ hg,e⟩
   ·exact ⟨h0,f,by simp,rfl⟩
  ·rintro ⟨hx,g,hg,e⟩;rcases List.mem_append.1 hg with hg|hg
   ·exact .inl ⟨hx,g,hg,e⟩
   ·simp only [List.mem_singleton] at hg;subst hg;exact .inr e.symm
def pickL (q:Int→Bool) (fs:List Fact):List Fact:=fs.filter fun f=>q f.id
def onlyB (o:List Int) (x:Int):Bool:=decide (x=0)||decide (x∈o)
def outB (o:List Int) (x:Int):Bool:=!decide (x∈o)
def Sl.cold {α:Type}:Sl α→Sl α
 | .nil=>.nil
 | .mk _ l=>.mk false l
@[simp] theorem Sl.xs_cold {α:Type} (s:Sl α):s.cold.xs=s.xs:=by cases s<;>rfl
def pickP (q:Int→Bool) (p:Problem):Problem:=⟨p.boxes.cold,Sl.of (pickL q p.facts.xs)⟩
theorem pick_ok {p r:Problem} {q:Int→Bool} (ok:CheckOk p) (hb:r.boxes.xs=p.boxes.xs) (hf:r.facts.xs=pickL q p.facts.xs):CheckOk r :=
 ⟨by rw [hb];exact ok.nb,by rw [hf];exact Nat.le_trans (List.length_filter_le _ _) ok.nf,by rw [hb];exact ok.box,fun f h=>by
  rw [hb];rw [hf] at h;exact ok.fact f (List.mem_filter.1 h).1⟩
theorem pickP_ok {p:Problem} {q:Int→Bool} (ok:CheckOk p):CheckOk (pickP q p):=pick_ok (q:=q) ok (by simp [pickP]) (by simp [pickP])
theorem FindOut.congr {p q:Problem} {D:FoundD} {e:Int} (hb:q.boxes.xs=p.boxes.xs) (hf:q.facts.xs=p.facts.xs) (h:FindOut p D e):FindOut q D e:=by
 unfold FindOut at *;rw [hb,hf];exact h
def coreK (E:List Int→Int):List Int→List Int→Option (List Int)
 | kept,[]=>some kept
 | kept,x::t=>if E (kept++t)=2 then none else if E (kept++t)=9 then coreK E kept t else coreK E (kept++[x]) t
theorem coreK_len {E:List Int→Int}:∀ {t k l:List Int},coreK E k t=some l→l.length≤k.length+t.length
 | [],k,l,h=>by simp only [coreK,Option.some.injEq] at h;subst h;simp
 | x::t,k,l,h=>by
  simp only [coreK] at h
  split at h
  ·simp at h
  ·split at h
   ·have:=coreK_len h;simp;omega
   ·have:=coreK_len h;simp at this ⊢;omega
def coreF (E0:Int) (E:List Int→Int) (ids:List Int):List Int×Int :=
 if E0=0 then ([],5) else if E0≠9 then ([],E0) else match coreK E [] ids with
  | none=>([],2)
  | some l=>(l,0)
theorem sh26:G.shared 26=false:=by decide
theorem e26 (n:Nat) (x:Int) (o:Sl Int) (b:Bool) (hl:o.xs.length < 1000):callP G (n+3) 26 [.int .i64 x,.ptr b [o.pv intF 1] 0]=some (.bool (onlyB o.xs x)):=by
 refine callP_of (ext_none _) rfl g26 rfl ?_
 have hc:=fun H=>call_pureC (G:=G) (n:=n+2) (H:=H) (caps:=[]) (ps:=[o.pv intF 1,.int .i64 x]) sh27 (e27 n o x hl);simp only [List.map_cons,List.map_nil] at hc
 by_cases h0:x=0
 ·subst h0;(repeat' first|simp [*,initEnv,c26,onlyB]|(apply wpIf_two<;>intro _ h<;>try simp [-Nat.le_zero_eq] at h))
 ·(repeat' first|simp [*,initEnv,c26,onlyB]|(apply wpIf_two<;>intro _ h<;>try simp [-Nat.le_zero_eq] at h))
theorem sh29:G.shared 29=false:=by decide
theorem e29 (n:Nat) (x:Int) (o:Sl Int) (b:Bool) (hl:o.xs.length < 1000):callP G (n+3) 29 [.int .i64 x,.ptr b [o.pv intF 1] 0]=some (.bool (onlyB o.xs x)):=by
 refine callP_of (ext_none _) rfl g29 rfl ?_
 have hc:=fun H=>call_pureC (G:=G) (n:=n+2) (H:=H) (caps:=[]) (ps:=[o.pv intF 1,.int .i64 x]) sh27 (e27 n o x hl);simp only [List.map_cons,List.map_nil] at hc
 by_cases h0:x=0
 ·subst h0;(repeat' first|simp [*,initEnv,c29,onlyB]|(apply wpIf_two<;>intro _ h<;>try simp [-Nat.le_zero_eq] at h))
 ·(repeat' first|simp [*,initEnv,c29,onlyB]|(apply wpIf_two<;>intro _ h<;>try simp [-Nat.le_zero_eq] at h))
theorem sh31:G.shared 31=false:=by decide
theorem e31 (n:Nat) (x:Int) (o:Sl Int) (b:Bool) (hl:o.xs.length < 1000):callP G (n+3) 31 [.int .i64 x,.ptr b [o.pv intF 1] 0]=some (.bool (outB o.xs x)):=by
 refine callP_of (ext_none _) rfl g31 rfl ?_
 have hc:=fun H=>call_pureC (G:=G) (n:=n+2) (H:=H) (caps:=[]) (ps:=[o.pv intF 1,.int .i64 x]) sh27 (e27 n o x hl);simp only [List.map_cons,List.map_nil] at hc;(repeat' first|simp [*,initEnv,c31,outB]|(apply wpIf_two<;>intro _ h<;>try simp [-Nat.le_zero_eq] at h))
def KeepF (n:Nat) (Q:PV) (q:Int→Bool):Prop:=∀ H a,doCall (calleeOf G n) H (.pure Q) [.pure (.int .i64 a)]=some (.val (.pure (.bool (q a))))
theorem clone_frz {α:Type} {f:α→List PV} {sz n:Nat} {H:Heap} {v:AV} {s:Sl α} (h:OwnV f sz H v s.xs) (hn:isNil .slice v=some s.isNil) (hf:∀ a,(f a).length=sz):FrzK H false (n+2) v (s.cold.pv f sz):=by
 rcases h with ⟨h0,rfl⟩|⟨id,rfl,hg⟩
 ·cases s with
  | nil=>exact .pure _
  | mk b l=>simp [isNil,Sl.isNil] at hn
 ·cases s with
  | nil=>simp [isNil,Sl.isNil] at hn
  | mk b l=>exact row_res hf hg rfl
theorem pickL_snoc {q:Int→Bool} {l:List Fact} {i:Nat} (h:i < l.length):pickL q (l.take (i+1))=if q l[i].id=true then pickL q (l.take i)++[l[i]] else pickL q (l.take i):=by
 unfold pickL;rw [← take_succ' h,List.filter_append];simp only [List.filter_cons,List.filter_nil]
 split<;>simp
theorem sh25:G.shared 25=false:=by decide
theorem e25 (n:Nat) (p:Problem) (Q:PV) (q:Int→Bool) (hk:KeepF (n+3) Q q) (hb:p.boxes.xs.length < 900) (hl:p.facts.xs.length < 900):callP G (n+4) 25 [.agg p.cells,Q]=some (.agg (pickP q p).cells):=by
 refine callP_of (ext_none _) rfl g25 rfl ?_
 obtain ⟨bs,fs⟩:=p;have hbl:bs.xs.length < 1000:=by have:bs.xs.length < 900:=hb;omega
 have hfl:fs.xs.length < 900:=hl;have hkH:=Hide.mk hk;have hw:pickP q ⟨bs,fs⟩=⟨bs.cold,.of (pickL q fs.xs)⟩:=rfl;rw [hw];clear hk hb hl hw;(repeat' first|simp [*,initEnv,c25,Problem.cells]|(apply wpIf_two<;>intro _ h<;>try simp [-Nat.le_zero_eq] at h)|(show wpE 0 (doAppend ..) ..;refine wpE_appW ?_)|(refine after_intro fun v2 H2 hv2 hnx2 hget2 hnew2 hone2 hcel2=>?_))
 refine wpE_cloneB hbl ?_
 intro B H1 hB hBn hnx hsame hnew;have hone:=hB.one;have ho1:=hone.1;have ho2:=hone.2;have hid0:0 < H1.nx:=by simp at hnx;omega
 have k0:H1.get 0=.cells true [.pure .nils,.pure .nils]:=by rw [hsame 0 (by simp)];simp
 have hBlow:Hide (∀ id,Names B id→0 < id∧id < H1.nx):=⟨fun id h=>⟨by have:=hnew id h;simp at this;omega,hB.names_lt h⟩⟩
 have hBH:=Hide.mk hB;have hBnH:=Hide.mk hBn;obtain ⟨o,ho⟩:∃ o,H1.nx=o:=⟨_,rfl⟩
 clear hB hBn hone hsame hnew hnx;(repeat' first|simp [*,initEnv]|(apply wpIf_two<;>intro _ h<;>try simp [-Nat.le_zero_eq] at h)|(show wpE 0 (doAppend ..) ..;refine wpE_appW ?_)|(refine after_intro fun v2 H2 hv2 hnx2 hget2 hnew2 hone2 hcel2=>?_))
 refine wp_loopF [(7,7),(15,29)] (fun (i:Nat) env H=>env 15=.pure (.int .i64 i)∧i≤fs.xs.length∧o < H.nx∧H.get 0=.cells true [.pure .nils,.pure .nils]∧∃ V,H.get o=.cells true [B,V]∧Hide (OwnV Box.cells 4 H B bs.xs∧GrowV Fact.cells 9 H V (pickL q (fs.xs.take i))∧(∀ id,Names V id→o < id))) (fun i=>fs.xs.length - i) 0 ?_ ?_ ?_ ?_
 ·decide
 ·refine ⟨by simp,by omega,by simp;omega,?_,.pure .nils,?_,⟨?_,by simpa [pickL] using GrowV.nil,fun id ⟨_,_,_,h⟩=>by simp at h⟩⟩
  ·rw [get_set_ne (by omega),get_alloc_lt hid0];exact k0
  ·rw [get_set_own (by simp;omega)]
  ·refine hBH.h.keep fun id ⟨n,hn⟩=>?_
   have:=(hBlow.h id ⟨_,_,_,hn⟩).2;have e1:(H1.alloc (.cells true [.pure .nils,.pure .nils])).get id=H1.get id:=get_alloc_lt this;rw [get_set_ne (by omega)];exact e1
 ·simp only [loopFuel];omega
 rintro i env H ⟨g15,hi,hnx,h0,V,h1,hV⟩;have hVo:=hV.h.2.1.1.one;have hVo1:=hVo.1;have hVo2:=hVo.2
 by_cases hlt:i < fs.xs.length
 ·have w1:IntKind.i64.wrap ((i:Int)+1)=(i+1:Nat):=by rw [wrap64 (by omega) (by omega)];omega
  have hltI:(i:Int) < fs.xs.length:=by omega
  have hst:=pickL_snoc (q:=q) hlt;have hlen:(pickL q (fs.xs.take i)).length < 900:=by
   have:=List.length_filter_le (fun f:Fact=>q f.id) (fs.xs.take i);rw [List.length_take] at this;unfold pickL;omega
  obtain ⟨F,hF⟩:∃ F,fs.xs[i]=F:=⟨_,rfl⟩
  rw [hF] at hst;have hka:=fun H=>hkH.h H F.id;obtain ⟨d1,d2,d3,da,db,dc,⟨d4,d5⟩,d6⟩:=F;simp only at hka hst;have hne0:(0:Nat)≠H.nx:=by omega
  have hneo:o≠H.nx:=by omega
  have ho0:(0:Nat)≠o:=by omega
  clear hVo
  cases hq:q d1 with
  | true =>
   rw [hq,if_pos rfl] at hst;rw [hq] at hka;have hstH:=Hide.mk hst;clear hst hq;(repeat' first|simp [*,initEnv,Fact.cells,Span.cells]|(apply wpIf_two<;>intro _ h<;>try simp [-Nat.le_zero_eq] at h)|(show wpE 0 (doAppend ..) ..;refine wpE_appW ?_)|(refine after_intro fun v2 H2 hv2 hnx2 hget2 hnew2 hone2 hcel2=>?_))
   refine wpE_appendV (f:=Fact.cells) (sz:=9) (l:=pickL q (fs.xs.take i)) ((hV.h.2.1.setNew _ _).alloc _) (fun _=>rfl) (by decide) (fun _=>rfl) (by unfold maxCells;omega) ⟨⟨d1,d2,d3,da,db,dc,⟨d4,d5⟩,d6⟩,by simp [Fact.cells,Span.cells],?_⟩
   intro V4 H4 hg4 ha;have hgo:∀ c,c < H.nx→¬ Names V c→H4.get c=H.get c:=fun c hc hn=>by rw [ha.get c (by rw [nx_alloc,nx_set,nx_alloc];omega) hn,get_alloc_lt (by rw [nx_set,nx_alloc];omega),get_set_ne (by omega),get_alloc_lt hc]
   have k0':H4.get 0=.cells true [.pure .nils,.pure .nils]:=by rw [hgo 0 (by omega) (fun hn=>by have:=hV.h.2.2 0 hn;omega)];exact h0
   have k1:H4.get o=.cells true [B,V]:=by rw [hgo o hnx (fun hn=>by have:=hV.h.2.2 o hn;omega)];exact h1
   have gn:o < H4.nx:=by have:=ha.nx;rw [nx_alloc,nx_set,nx_alloc] at this;omega
   have hV4:Hide (OwnV Box.cells 4 H4 B bs.xs∧GrowV Fact.cells 9 H4 V4 (pickL q (fs.xs.take (i+1)))∧∀ id,Names V4 id→o < id):=⟨hV.h.1.keep fun id ⟨m,hm⟩=>by
    have h8:=(hBlow.h id ⟨_,_,_,hm⟩).2;exact hgo id (by omega) (fun h2=>by have:=hV.h.2.2 id h2;omega),by rw [hstH.h];exact hg4,fun id hn=>by have:=ha.new id hn;rw [nx_alloc,nx_set,nx_alloc] at this;omega⟩
   have o4:=hg4.1.one;have o4a:=o4.1;have o4b:=o4.2;clear hg4 ha o4 hV hgo h0 h1;(repeat' first|simp [*,initEnv]|(apply wpIf_two<;>intro _ h<;>try simp [-Nat.le_zero_eq] at h)|(show wpE 0 (doAppend ..) ..;refine wpE_appW ?_)|(refine after_intro fun v2 H2 hv2 hnx2 hget2 hnew2 hone2 hcel2=>?_))
   refine ⟨i+1,by omega,by omega,by omega,⟨hV4.h.1.keep fun id ⟨m,hm⟩=>?_,hV4.h.2.1.set (fun hn=>by have:=hV4.h.2.2 o hn;omega) _,hV4.h.2.2⟩⟩
   have h8:=(hBlow.h id ⟨_,_,_,hm⟩).2;exact get_set_ne (by omega)
  | false =>
   rw [hq,if_neg (by simp)] at hst;rw [hq] at hka;have hstH:=Hide.mk hst;have hB2:Hide (∀ o1 o2,OwnV Box.cells 4 ((H.alloc o1).set H.nx o2) B bs.xs):=⟨fun o1 o2=>hV.h.1.keep fun id ⟨m,hm⟩=>by
    have h8:=(hBlow.h id ⟨_,_,_,hm⟩).2;rw [get_set_ne (by omega),get_alloc_lt (by omega)]⟩
   clear hst hq;(repeat' first|simp [*,initEnv,Fact.cells,Span.cells]|(apply wpIf_two<;>intro _ h<;>try simp [-Nat.le_zero_eq] at h)|(show wpE 0 (doAppend ..) ..;refine wpE_appW ?_)|(refine after_intro fun v2 H2 hv2 hnx2 hget2 hnew2 hone2 hcel2=>?_));exact ⟨i+1,by omega,by omega,by omega,by omega,by rw [get_alloc_lt (by omega)];exact h0,⟨hB2.h _ _,by rw [hstH.h];exact hV.h.2.1.setNew _ _,hV.h.2.2⟩⟩
 ·have hiN:i=fs.xs.length:=by omega
  subst hiN;rw [List.take_length] at hV;have hr1:∀ o',FrzK (H.set 0 o') false 11 B (bs.cold.pv Box.cells 4):=fun o'=>clone_frz (n:=9) (hV.h.1.keep fun id ⟨m,hm⟩=>by
   have h8:=(hBlow.h id ⟨_,_,_,hm⟩).1;exact get_set_ne (by omega)) hBnH.h (fun _=>rfl)
  have hr2:∀ o',FrzK (H.set 0 o') false 11 V ((Sl.of (pickL q fs.xs)).pv Fact.cells 9):=fun o'=>(hV.h.2.1.set (fun hn=>by have:=hV.h.2.2 0 hn;omega) o').res (n:=9) (fun _=>rfl);obtain ⟨ids,hids⟩:=FrzK.aggV (n:=11) (FrzL.cons (hr1 (.cells true [B,V])) (.cons (hr2 (.cells true [B,V])) .nil));have h0n:0 < H.nx:=by omega
  clear hr1 hr2 hV hVo;(repeat' first|simp [*,initEnv]|(apply wpIf_two<;>intro _ h<;>try simp [-Nat.le_zero_eq] at h)|(show wpE 0 (doAppend ..) ..;refine wpE_appW ?_)|(refine after_intro fun v2 H2 hv2 hnx2 hget2 hnew2 hone2 hcel2=>?_));exact ⟨ids,hids⟩
theorem keep_out {n:Nat} {o:Sl Int} {b:Bool} (hl:o.xs.length < 1000):KeepF (n+3) (.func 31 [.ptr b [o.pv intF 1] 0]) (outB o.xs):=fun H a =>
 call_pureC (G:=G) (n:=n+3) (H:=H) (caps:=[.ptr b [o.pv intF 1] 0]) (ps:=[.int .i64 a]) sh31 (e31 n a o b hl)
theorem keep_only {n:Nat} {o:Sl Int} {b:Bool} (hl:o.xs.length < 1000):KeepF (n+3) (.func 29 [.ptr b [o.pv intF 1] 0]) (onlyB o.xs):=fun H a =>
 call_pureC (G:=G) (n:=n+3) (H:=H) (caps:=[.ptr b [o.pv intF 1] 0]) (ps:=[.int .i64 a]) sh29 (e29 n a o b hl)
theorem keep_core {n:Nat} {o:Sl Int} {b:Bool} (hl:o.xs.length < 1000):KeepF (n+3) (.func 26 [.ptr b [o.pv intF 1] 0]) (onlyB o.xs):=fun H a =>
 call_pureC (G:=G) (n:=n+3) (H:=H) (caps:=[.ptr b [o.pv intF 1] 0]) (ps:=[.int .i64 a]) sh26 (e26 n a o b hl)
def withoutF (q:Int→Bool) (p:Problem):Problem:=if checkS p=0 then pickP q p else ⟨.nil,.nil⟩
theorem sh9:G.shared 9=false:=by decide
theorem e9 (n:Nat) (p:Problem) (o:Sl Int) (hl:o.xs.length < 1000):callP G (n+5) 9 [.agg p.cells,o.pv intF 1]=some (.tup [.agg (withoutF (outB o.xs) p).cells,.int .i64 (checkS p)]):=by
 refine callP_of (ext_none _) rfl g9 rfl ?_
 have hc:=fun H=>call_pureC (G:=G) (n:=n+4) (H:=H) (caps:=[]) (ps:=[.agg p.cells]) sh28 (e28 (n+1) p);simp only [Problem.cells,List.map_cons,List.map_nil] at hc
 by_cases h0:checkS p=0
 case neg =>
  have hr:withoutF (outB o.xs) p=⟨.nil,.nil⟩:=by unfold withoutF;rw [if_neg h0]
  rw [hr];generalize checkS p=c at *;clear hr hl;(repeat' first|simp [*,initEnv,c9,Problem.cells]|(apply wpIf_two<;>intro _ h<;>try simp [-Nat.le_zero_eq] at h))
 case pos =>
  have ok:=check_ok.1 h0;have nb:=ok.nb;have nf:=ok.nf;have hr:withoutF (outB o.xs) p=pickP (outB o.xs) p:=by unfold withoutF;rw [if_pos h0]
  have hp:=fun b H=>call_pureC (G:=G) (n:=n+4) (H:=H) (caps:=[]) (ps:=[.agg p.cells,.func 31 [.ptr b [o.pv intF 1] 0]]) sh25 (e25 n p _ _ (keep_out hl) (by omega) (by omega));rw [hr];rw [h0] at hc ⊢;obtain ⟨qb,qf⟩:∃ q,q=pickP (outB o.xs) p:=⟨_,rfl⟩
  rw [← qf] at hp ⊢;simp only [Problem.cells,List.map_cons,List.map_nil] at hp;clear hr h0 ok nb nf qf hl;(repeat' first|simp [*,initEnv,c9,Problem.cells,funcV,puresL]|(apply wpIf_two<;>intro _ h<;>try simp [-Nat.le_zero_eq] at h))
theorem sh7:G.shared 7=false:=by decide
theorem e7 (n:Nat) (p:Problem) (o:Sl Int) (hl:o.xs.length < 1000):callP G (n+5) 7 [.agg p.cells,o.pv intF 1]=some (.tup [.agg (withoutF (onlyB o.xs) p).cells,.int .i64 (checkS p)]):=by
 refine callP_of (ext_none _) rfl g7 rfl ?_
 have hc:=fun H=>call_pureC (G:=G) (n:=n+4) (H:=H) (caps:=[]) (ps:=[.agg p.cells]) sh28 (e28 (n+1) p);simp only [Problem.cells,List.map_cons,List.map_nil] at hc
 by_cases h0:checkS p=0
 case neg =>
  have hr:withoutF (onlyB o.xs) p=⟨.nil,.nil⟩:=by unfold withoutF;rw [if_neg h0]
  rw [hr];generalize checkS p=c at *;clear hr hl;(repeat' first|simp [*,initEnv,c7,Problem.cells]|(apply wpIf_two<;>intro _ h<;>try simp [-Nat.le_zero_eq] at h))
 case pos =>
  have ok:=check_ok.1 h0;have nb:=ok.nb;have nf:=ok.nf;have hr:withoutF (onlyB o.xs) p=pickP (onlyB o.xs) p:=by unfold withoutF;rw [if_pos h0]
  have hp:=fun b H=>call_pureC (G:=G) (n:=n+4) (H:=H) (caps:=[]) (ps:=[.agg p.cells,.func 29 [.ptr b [o.pv intF 1] 0]]) sh25 (e25 n p _ _ (keep_only hl) (by omega) (by omega));rw [hr];rw [h0] at hc ⊢;obtain ⟨qb,qf⟩:∃ q,q=pickP (onlyB o.xs) p:=⟨_,rfl⟩
  rw [← qf] at hp ⊢;simp only [Problem.cells,List.map_cons,List.map_nil] at hp;clear hr h0 ok nb nf qf hl;(repeat' first|simp [*,initEnv,c7,Problem.cells,funcV,puresL]|(apply wpIf_two<;>intro _ h<;>try simp [-Nat.le_zero_eq] at h))
theorem sh23:G.shared 23=false:=by decide
theorem e23 (n:Nat) (x y:Int) (b:Bool):callP G (n+1) 23 [.int .i64 x,.ptr b [.int .i64 y] 0]=some (.bool (decide (x=y))):=by
 refine callP_of (ext_none _) rfl g23 rfl ?_
 (repeat' first|simp [*,initEnv,c23]|(apply wpIf_two<;>intro _ h<;>try simp [-Nat.le_zero_eq] at h))
theorem shift_step {k t:List Int} {x:Int} {c:Nat} (h:c < t.length):(k++t.take c++(x::t).drop c).set (k.length+c) t[c]=k++t.take (c+1)++(x::t).drop (c+1):=by
 have e1:(x::t).drop c=(x::t)[c]'(by simp;omega)::t.drop c:=by
  rw [List.drop_eq_getElem_cons (by simp;omega),List.drop_succ_cons]
 have e2:(k++t.take c).length=k.length+c:=by simp;omega
 rw [e1,List.set_append_right _ _ (by omega),e2,Nat.sub_self,List.set_cons_zero,List.take_add_one,List.getElem?_eq_getElem h,List.drop_succ_cons];simp only [Option.toList_some,List.append_assoc,List.singleton_append]
theorem shift_get {k t:List Int} {x:Int} {c:Nat} (h:c < t.length) (h':k.length+1+c < (k++t.take c++(x::t).drop c).length):(k++t.take c++(x::t).drop c)[k.length+1+c]=t[c]:=by
 have e2:(k++t.take c).length=k.length+c:=by simp;omega
 rw [List.getElem_append_right (by omega),List.getElem_drop];have e3:c+(k.length+1+c - (k++t.take c).length)=c+1:=by omega
 simp only [e3,List.getElem_cons_succ]
theorem shift_len {k t:List Int} {x:Int} {c:Nat} (h:c≤t.length):(k++t.take c++(x::t).drop c).length=k.length+t.length+1:=by simp;omega
theorem shift_end {k t:List Int} {x:Int}:k++t.take t.length++(x::t).drop t.length=k++t++[(x::t)[t.length]'(by simp)]:=by
 rw [List.take_length,List.drop_eq_getElem_cons (by simp),List.drop_of_length_le (by simp)]
theorem delf_call {n id L:Nat} {H:Heap} {Q:AV} {q:Int→Bool} {ke t:List Int} {x:Int} {k:AV→Heap→Prop} (hv:H.get id=.cells true (rowOf intF (ke++x::t))) (hL:L=ke.length+t.length+1) (hlen:L < 1000)
  (hx:∀ a∈t,q a=false)
  (hi:doCall (calleeOf G n) H (.pure (.func 39 [])) [.row id 1 0 L,Q]=some (.val (.pure (.int .i64 ke.length))))
  (hq:∀ H2 a,(∀ j,j≠id→H2.get j=H.get j)→doCall (calleeOf G n) H2 Q [.pure (.int .i64 a)]=some (.val (.pure (.bool (q a)))))
  (hk:∀ H',HeadV intF 1 H' (.row id 1 0 (L - 1)) (ke++t)→H'.nx=H.nx→(∀ j,j≠id→H'.get j=H.get j)→k (.row id 1 0 (L - 1)) H') :
  ∃ v' H',Vm.call G (n+1) (.fn 22) [.row id 1 0 L,Q] H=some (v',H')∧k v' H':=by
 have hqH:=Hide.mk hq;have hxH:=Hide.mk hx;have hkH:=Hide.mk hk;have hLH:=Hide.mk hL;have hid:=nx_of_get hv;have hne:¬ (ke.length:Int)=-1:=by omega
 have w0:IntKind.i64.wrap ((ke.length:Int)+1)=(ke.length+1:Nat):=by rw [wrap64 (by omega) (by omega)];omega
 have hv0:Hide (H.get id=.cells true (rowOf intF (ke++t.take 0++(x::t).drop 0))):=⟨by simpa using hv⟩
 clear hq hx hk hL hv
 refine call_of rfl g22 rfl ?_
 (repeat' first|simp [*,initEnv,c22]|(apply wpIf_two<;>intro _ h<;>try simp [-Nat.le_zero_eq] at h))
 refine wp_loopF [(5,7),(16,35)] (fun (c:Nat) env H'=>env 6=.pure (.int .i64 (ke.length+1+c:Nat))∧env 5=.pure (.int .i64 (ke.length+c:Nat))∧c≤t.length∧H'.nx=H.nx∧Hide (H'.get id=.cells true (rowOf intF (ke++t.take c++(x::t).drop c))∧∀ j,j≠id→H'.get j=H.get j)) (fun c=>t.length - c) 0 ?_ ?_ ?_ ?_
 ·decide
 ·exact ⟨by simp,by simp [*],by omega,rfl,⟨hv0.h,fun _ _=>rfl⟩⟩
 ·simp only [loopFuel];have:=hLH.h;omega
 rintro c env H' ⟨g6,g5,hc,hnx,hh⟩;have hg:=hh.h.1;have hid':=nx_of_get hg;have hsl:=shift_len (k:=ke) (x:=x) hc;have hml:(ke++t.take c++(x::t).drop c).length=L:=by rw [hsl,hLH.h]
 have hLv:=hLH.h;clear hsl
 by_cases hlt:c < t.length
 ·have w1:IntKind.i64.wrap ((ke.length+1+c:Nat)+1:Int)=(ke.length+1+(c+1):Nat):=by rw [wrap64 (by omega) (by omega)];omega
  have w2:IntKind.i64.wrap ((ke.length+c:Nat)+1:Int)=(ke.length+(c+1):Nat):=by rw [wrap64 (by omega) (by omega)];omega
  have hltI:((ke.length+1+c:Nat):Int) < L:=by omega
  have hjl:ke.length+1+c < (ke++t.take c++(x::t).drop c).length:=by omega
  have hjL:ke.length+1+c < L:=by omega
  have hil:ke.length+c < (ke++t.take c++(x::t).drop c).length:=by omega
  have hiL:ke.length+c < L:=by omega
  have hgt:=shift_get (k:=ke) (x:=x) hlt hjl;have hst:=shift_step (k:=ke) (x:=x) hlt;have hq1:=hqH.h H' t[c] hh.h.2;rw [hxH.h t[c] (List.getElem_mem hlt)] at hq1;obtain ⟨v,hv1⟩:∃ v,t[c]=v:=⟨_,rfl⟩
  rw [hv1] at hgt hst hq1;have hoth:=Hide.mk hh.h.2;have hjjH:=Hide.mk (show ∃ z,z=ke.length+1+c from ⟨_,rfl⟩);clear hh;have hst:=Hide.mk hst;obtain ⟨w3,w4⟩:∃ z:Nat,z=ke.length+1+(c+1):=⟨_,rfl⟩
  obtain ⟨w5,w6⟩:∃ z:Nat,z=ke.length+(c+1):=⟨_,rfl⟩
  rw [← w4] at w1;rw [← w6] at w2;have w4:=Hide.mk w4;have w6:=Hide.mk w6;clear hLv;generalize ke++t.take c++(x::t).drop c=M at *;generalize ke.length+1+c=jj at *;generalize ke.length+c=ii at *;(repeat' first|simp [*,initEnv]|(apply wpIf_two<;>intro _ h<;>try simp [-Nat.le_zero_eq] at h));exact ⟨c+1,by omega,by omega,by omega,⟨rfl,fun j hj=>by rw [get_set_ne hj];exact hoth.h j hj⟩⟩
 ·have hcl:c=t.length:=by omega
  subst hcl;rw [shift_end] at hg;have hLI:((ke.length+1+t.length:Nat):Int)=L:=by omega
  rw [hLI] at g6;obtain ⟨ii,hii⟩:∃ z,z=ke.length+t.length:=⟨_,rfl⟩
  have e1:ii < L:=by omega
  have e2:ii≤L:=by omega
  have e3:¬ L=ii:=by omega
  have e4:ii+(L - ii)=L:=by omega
  have e5:L - ii=1:=by omega
  have hlm:(ke++t).length=ii:=by rw [List.length_append];omega
  have hml2:(ke++t++[(x::t)[t.length]'(by simp)]).length=L:=by rw [List.length_append,hlm];simp;omega
  have hoth:=Hide.mk hh.h.2;rw [← hii] at g5;clear hh hml hLv hLI hc;have hiiH:=Hide.mk hii;clear hii hml2;generalize (x::t)[t.length]'(by simp)=z at *;have hk2:=hkH.h;rw [show L - 1=ii by omega] at hk2;have hk2H:=Hide.mk hk2;clear hk2;generalize ke++t=M at *;(repeat' first|simp [*,initEnv]|(apply wpIf_two<;>intro _ h<;>try simp [-Nat.le_zero_eq] at h));exact hk2H.h _ ⟨id,rowOf intF [0],by rw [hlm],by rw [get_set_own hid']⟩ (by simpa using hnx) (fun j hj=>by rw [get_set_ne hj];exact hoth.h j hj)
end Go.Proofs.Ytmmhnfghklppiaa.Vm
