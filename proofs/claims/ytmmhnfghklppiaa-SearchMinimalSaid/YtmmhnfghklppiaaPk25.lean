/- solved, Count: the program's, walked. search.Core: walked. -/
import Derived.Test.YtmmhnfghklppiaaPk24
import Derived.KernelRfl
namespace Go.Proofs.Ytmmhnfghklppiaa.Vm
open Go
set_option linter.unusedSimpArgs false
set_option linter.unusedVariables false
set_option maxHeartbeats 4000000
set_option maxRecDepth 4000
def SolvedOut (p:Problem) (D:FoundD) (e:Int):Prop:=(checkS p≠0∧D=⟨false,[]⟩∧e=checkS p)∨(checkS p=0∧FindOut p D e)
theorem sh18:G.shared 18=false:=by decide
theorem e18 (n:Nat) (p:Problem) (D:FoundD) (e:Int) (h:SolvedOut p D e):callP G (n+52) 18 [.agg p.cells]=some (.tup [.agg D.cells,.int .i64 e]):=by
 refine callP_of (ext_none _) rfl g18 rfl ?_
 have hc:=fun H=>call_pureC (G:=G) (n:=n+51) (H:=H) (caps:=[]) (ps:=[.agg p.cells]) sh28 (e28 (n+48) p);rcases h with ⟨h0,rfl,rfl⟩|⟨h0,hf⟩
 ·generalize checkS p=c at *;simp only [Problem.cells,List.map_cons,List.map_nil] at hc;(repeat' first|simp [*,initEnv,c18,Problem.cells]|(apply wpIf_two<;>intro _ h<;>try simp [-Nat.le_zero_eq] at h))
 ·have hn:=fun H=>call_pureC (G:=G) (n:=n+51) (H:=H) (caps:=[]) (ps:=[.agg p.cells]) sh24 (e24 n p (check_ok.1 h0) D e hf);rw [h0] at hc;obtain ⟨De,Ds⟩:=D;simp only [Problem.cells,FoundD.cells,List.map_cons,List.map_nil] at hc hn ⊢;clear h0 hf;(repeat' first|simp [*,initEnv,c18,Problem.cells]|(apply wpIf_two<;>intro _ h<;>try simp [-Nat.le_zero_eq] at h))
theorem sort_nilC (n:Nat) (H:Heap):Vm.call G (n+10) (.fn 19) [.pure .nils] H=some (.tup [],H):=by kernel_rfl
theorem compact_nilC (n:Nat) (H:Heap):Vm.call G (n+10) (.fn 20) [.pure .nils] H=some (.pure .nils,H):=by kernel_rfl
theorem clone_nilC (n:Nat) (H:Heap):Vm.call G (n+10) (.fn 21) [.pure .nils] H=some (.pure .nils,H):=by kernel_rfl
theorem runSortC (n:Nat) (args:List AV) (H:Heap) (r:AV×Heap) (h:sortRun args H=some r):Vm.call G (n+1) (.fn 19) args H=some r:=by
 rw [call_fn];have:G.extRun 19 args H=sortRun args H:=rfl;rw [this,h]
theorem sh_sortC:G.shared 19=true:=by decide
theorem sh_cloneC:G.shared 21=true:=by decide
theorem sh_compactC:G.shared 20=true:=by decide
theorem sh_idxF:G.shared 39=false:=by decide
theorem sh_delC:G.shared 22=true:=by decide
theorem doCall_own {n f:Nat} {H:Heap} {args:List AV} {ps:List PV} {r:PV} (hs:G.shared f=false) (ha:FrzL H true depthF args ps) (h:callP G n f ps=some r) (hc:r.cold=true) :
  doCall (calleeOf G n) H (.pure (.func f [])) args=some (.val (.pure r)):=by
 obtain ⟨ids,ha⟩:=ha;have hs':(calleeOf G n).shared f=false:=hs;have h':(calleeOf G n).pure f ps=some r:=h;simp only [doCall,List.map_nil,List.append_nil,hs',Bool.false_eq_true,if_false,ha,h',hc,Bool.or_true,if_true]
theorem doCall_clo {n f:Nat} {H:Heap} {args caps:List AV} {ps:List PV} {r:PV} (hs:G.shared f=false) (ha:FrzL H true depthF (args++caps) ps) (h:callP G n f ps=some r) (hc:r.cold=true) :
  doCall (calleeOf G n) H (.func f caps) args=some (.val (.pure r)):=by
 obtain ⟨ids,ha⟩:=ha;have hs':(calleeOf G n).shared f=false:=hs;have h':(calleeOf G n).pure f ps=some r:=h;simp only [doCall,hs',Bool.false_eq_true,if_false,ha,h',hc,Bool.or_true,if_true]
theorem FrzK.boxC {H:Heap} {k:Bool} {n id off:Nat} {cs:List AV} {ps:List PV} {own:Bool} (hg:H.get id=.cells own cs) (h:FrzL H k n cs ps):FrzK H k (n+1) (.box id off) (.ptr k ps off):=by
 obtain ⟨ids,h⟩:=h;exact ⟨id::ids,by simp only [freeze,hg,h]⟩
theorem FrzK.func {H:Heap} {k:Bool} {n f:Nat} {cs:List AV} {ps:List PV} (h:FrzL H k n cs ps):FrzK H k (n+1) (.func f cs) (.func f ps):=by
 obtain ⟨ids,h⟩:=h;exact ⟨ids,by simp only [freeze,h]⟩
def ansE (D:FoundD) (e:Int):Int:=if e≠0 then e else if D.empty=true then 9 else 0
structure CoreIn (p:Problem) (E0:Int) (E:List Int→Int):Prop where
 top:∃ D e,SolvedOut p D e∧E0=ansE D e
 sub:CheckOk p→∀ o,∃ D e,FindOut (pickP (onlyB o) p) D e∧E o=ansE D e
theorem check_ne9 (p:Problem):checkS p≠9:=by unfold checkS;split<;>(try split)<;>omega
theorem find_err {p:Problem} {D:FoundD} {e:Int} (h:FindOut p D e):e=0∨e=2:=by
 rcases h with ⟨_,_,rfl⟩|⟨_,_,_,_,⟨_,_,rfl⟩|⟨_,_,rfl⟩⟩<;>simp
theorem solved_ne9 {p:Problem} {D:FoundD} {e:Int} (h:SolvedOut p D e):e≠9:=by
 rcases h with ⟨_,_,rfl⟩|⟨_,h⟩
 ·exact check_ne9 p
 ·have:=find_err h;omega
theorem posIds_snoc {l:List Fact} {i:Nat} (h:i < l.length):posIds (l.take (i+1))=if 0 < l[i].id then posIds (l.take i)++[l[i].id] else posIds (l.take i):=by
 unfold posIds;rw [← take_succ' h,List.map_append,List.filter_append];simp only [List.map_cons,List.map_nil,List.filter_cons,List.filter_nil,decide_eq_true_eq]
 split<;>simp
theorem posIds_len (l:List Fact):(posIds l).length≤l.length:=by
 unfold posIds;exact Nat.le_trans (List.length_filter_le _ _) (by simp)
theorem HeadV.cells {l:List Int} {H:Heap} {v:AV} (h:HeadV intF 1 H v l):sliceCells H 1 v=some (rowOf intF l,l.length):=by
 obtain ⟨id,rest,rfl,hg⟩:=h;have hl:=rowOf_length (f:=intF) (sz:=1) (fun _=>rfl) l;rw [sliceCells_row,hg];simp only [rowCells];rw [if_pos (by rw [List.length_append];omega),Nat.zero_mul,List.drop_zero,← hl,List.take_left]
theorem idx_mid {x:Int}:∀ {k t:List Int} {j:Nat},(∀ a∈k,a≠x)→idxL (fun a=>decide (a=x)) (k++x::t) j=((j+k.length:Nat):Int)
 | [],t,j,_=>by simp [idxL]
 | a::k,t,j,h=>by
  have ha:=h a List.mem_cons_self;rw [List.cons_append,idxL,if_neg (by simpa using ha),idx_mid fun b hb=>h b (List.mem_cons_of_mem _ hb)];rw [List.length_cons];omega
theorem pick_cold (q:Int→Bool) (p:Problem):(PV.agg (pickP q p).cells).cold=true:=by
 obtain ⟨bs,fs⟩:=p;unfold pickP PV.cold;generalize pickL q fs.xs=l;have h1:∀ s:Sl Box,(s.cold.pv Box.cells 4).coldN 11=true:=fun s=>by
  cases s with
  | nil=>rfl
  | mk h l=>simp [Sl.cold,Sl.pv,PV.coldN,Box.cells,Span.cells]
 have h2:((Sl.of l).pv Fact.cells 9).coldN 11=true:=by
  cases l with
  | nil=>rfl
  | cons a l=>simp [Sl.pv,PV.coldN,Fact.cells,Span.cells]
 simp only [PV.coldN,Problem.cells,List.all_cons,List.all_nil,Bool.and_true,Bool.and_eq_true];exact ⟨h1 bs,h2⟩
def afterK (r:Option (List Int)):List Int×Int:=match r with
 | none=>([],2)
 | some l=>(l,0)
theorem sh6:G.shared 6=false:=by decide
theorem e6 (n:Nat) (p:Problem) (E0:Int) (E:List Int→Int) (h:CoreIn p E0 E):callP G (n+53) 6 [.agg p.cells]=some (.tup [(Sl.of (coreF E0 E (idsP p.facts.xs)).1).pv intF 1,.int .i64 (coreF E0 E (idsP p.facts.xs)).2]):=by
 refine callP_of (ext_none _) rfl g6 rfl ?_
 obtain ⟨⟨D,e,hs,hE0⟩,hsub⟩:=h;have hn:=fun H=>call_pureC (G:=G) (n:=n+52) (H:=H) (caps:=[]) (ps:=[.agg p.cells]) sh18 (e18 n p D e hs);have he9:=solved_ne9 hs;simp only [Problem.cells,FoundD.cells,List.map_cons,List.map_nil] at hn
 by_cases h1:e=0
 case neg =>
  have hr:coreF E0 E (idsP p.facts.xs)=([],e):=by rw [hE0];unfold coreF ansE;simp [h1,he9]
  rw [hr];simp only [Sl.of_nil,Sl.pv_nil];generalize Sl.of D.seens=sD at *;clear hr hs hE0 hsub he9;(repeat' first|simp [*,initEnv,c6,Problem.cells]|(apply wpIf_two<;>intro _ h<;>try simp [-Nat.le_zero_eq] at h)|(show wpE 0 (doAppend ..) ..;refine wpE_appW ?_)|(refine after_intro fun v2 H2 hv2 hnx2 hget2 hnew2 hone2 hcel2=>?_))
 case pos =>
  subst h1;have ok:CheckOk p:=by
   rcases hs with ⟨h,_,h'⟩|⟨h,_⟩
   ·exact absurd h'.symm h
   ·exact check_ok.1 h
  obtain ⟨sD,hsD⟩:∃ x,Sl.of D.seens=x:=⟨_,rfl⟩
  rw [hsD] at hn
  cases hD:D.empty with
  | false =>
   have hr:coreF E0 E (idsP p.facts.xs)=([],5):=by rw [hE0];unfold coreF ansE;simp [hD]
   rw [hr];simp only [Sl.of_nil,Sl.pv_nil];rw [hD] at hn;clear hr hs hE0 hsub he9 hD hsD;(repeat' first|simp [*,initEnv,c6,Problem.cells]|(apply wpIf_two<;>intro _ h<;>try simp [-Nat.le_zero_eq] at h)|(show wpE 0 (doAppend ..) ..;refine wpE_appW ?_)|(refine after_intro fun v2 H2 hv2 hnx2 hget2 hnew2 hone2 hcel2=>?_))
  | true =>
   have hr:coreF E0 E (idsP p.facts.xs)=afterK (coreK E [] (idsP p.facts.xs)):=by rw [hE0];unfold coreF ansE afterK;simp [hD];rfl
   rw [hr];rw [hD] at hn;have hsubH:=Hide.mk (hsub ok);have okH:=Hide.mk ok;have nf:=ok.nf;obtain ⟨ids,hids⟩:∃ ids,idsP p.facts.xs=ids:=⟨_,rfl⟩
   obtain ⟨R,hR⟩:∃ R,coreK E [] ids=R:=⟨_,rfl⟩
   rw [hids,hR];have hidsH:=Hide.mk hids;have hRH:=Hide.mk hR;obtain ⟨bs,fs⟩:=p;simp only at nf hidsH;clear hr hs hE0 hsub he9 hD hsD ok hids hR;(repeat' first|simp [*,initEnv,c6,Problem.cells]|(apply wpIf_two<;>intro _ h<;>try simp [-Nat.le_zero_eq] at h)|(show wpE 0 (doAppend ..) ..;refine wpE_appW ?_)|(refine after_intro fun v2 H2 hv2 hnx2 hget2 hnew2 hone2 hcel2=>?_))
   refine wp_loopF [(6,6),(8,8),(30,42)] (fun (i:Nat) env H=>env 30=.pure (.int .i64 i)∧i≤fs.xs.length∧GrowV intF 1 H (env 6) (posIds (fs.xs.take i))) (fun i=>fs.xs.length - i) 0 ?_ ?_ ?_ ?_
   ·decide
   ·exact ⟨by simp,by omega,by simpa [posIds] using GrowV.nil⟩
   ·simp only [loopFuel];omega
   rintro i env H ⟨g0,hi,hv1⟩;generalize g6:env 6=v at *
   by_cases hlt:i < fs.xs.length
   ·have w1:IntKind.i64.wrap ((i:Int)+1)=(i+1:Nat):=by rw [wrap64 (by omega) (by omega)];omega
    have hltI:(i:Int) < fs.xs.length:=by omega
    have hst:=posIds_snoc hlt;have hle:=posIds_len (fs.xs.take i);have hle2:(posIds (fs.xs.take i)).length < 1000:=by rw [List.length_take] at hle;omega
    clear hle;obtain ⟨F,hF⟩:∃ F,fs.xs[i]=F:=⟨_,rfl⟩
    rw [hF] at hst;obtain ⟨d1,d2,d3,da,db,dc,⟨d4,d5⟩,d6⟩:=F;simp only at hst
    by_cases h0:0 < d1
    ·rw [if_pos h0] at hst;have hstH:=Hide.mk hst;clear hst;generalize posIds (fs.xs.take i)=A at *;(repeat' first|simp [*,initEnv,Fact.cells,Span.cells]|(apply wpIf_two<;>intro _ h<;>try simp [-Nat.le_zero_eq] at h)|(show wpE 0 (doAppend ..) ..;refine wpE_appW ?_)|(refine after_intro fun v2 H2 hv2 hnx2 hget2 hnew2 hone2 hcel2=>?_));exact ⟨i+1,by omega,by omega,by omega,hv2.cast hstH.h.symm⟩
    ·rw [if_neg h0] at hst;have hstH:=Hide.mk hst;clear hst;generalize posIds (fs.xs.take i)=A at *;(repeat' first|simp [*,initEnv,Fact.cells,Span.cells]|(apply wpIf_two<;>intro _ h<;>try simp [-Nat.le_zero_eq] at h)|(show wpE 0 (doAppend ..) ..;refine wpE_appW ?_)|(refine after_intro fun v2 H2 hv2 hnx2 hget2 hnew2 hone2 hcel2=>?_));exact ⟨i+1,by omega,by omega,by omega,(hv1.setNew _ _).cast hstH.h.symm⟩
   have hil:i=fs.xs.length:=by omega
   subst hil;rw [List.take_length] at hv1;have hil2:Hide (ids=compactL (isort (posIds fs.xs))):=⟨hidsH.h.symm⟩
   have hpl:=posIds_len fs.xs;have hstr:Hide (ids.Pairwise (· < ·)):=⟨by rw [hil2.h];exact (compact_strict (isort_sorted _)).1⟩
   clear hidsH;generalize posIds fs.xs=P at *
   by_cases hP:P=[]
   ·subst hP;have hv0:=hv1.2 rfl;subst hv0;have hi0:ids=[]:=by rw [hil2.h];rfl
    subst hi0;have hR0:R=some []:=by rw [← hRH.h];rfl
    subst hR0;(repeat' first|simp [*,initEnv]|(apply wpIf_two<;>intro _ h<;>try simp [-Nat.le_zero_eq] at h)|(show wpE 0 (doAppend ..) ..;refine wpE_appW ?_)|(refine after_intro fun v2 H2 hv2 hnx2 hget2 hnew2 hone2 hcel2=>?_))
    refine wpE_run (n:=n+51) (caps:=[]) sh_sortC ⟨_,_,sort_nilC (n+42) _,?_⟩
    (repeat' first|simp [*,initEnv]|(apply wpIf_two<;>intro _ h<;>try simp [-Nat.le_zero_eq] at h)|(show wpE 0 (doAppend ..) ..;refine wpE_appW ?_)|(refine after_intro fun v2 H2 hv2 hnx2 hget2 hnew2 hone2 hcel2=>?_))
    refine wpE_run (n:=n+51) (caps:=[]) sh_compactC ⟨_,_,compact_nilC (n+42) _,?_⟩
    (repeat' first|simp [*,initEnv]|(apply wpIf_two<;>intro _ h<;>try simp [-Nat.le_zero_eq] at h)|(show wpE 0 (doAppend ..) ..;refine wpE_appW ?_)|(refine after_intro fun v2 H2 hv2 hnx2 hget2 hnew2 hone2 hcel2=>?_))
    refine wpE_run (n:=n+51) (caps:=[]) sh_cloneC ⟨_,_,clone_nilC (n+42) _,?_⟩
    (repeat' first|simp [*,initEnv]|(apply wpIf_two<;>intro _ h<;>try simp [-Nat.le_zero_eq] at h)|(show wpE 0 (doAppend ..) ..;refine wpE_appW ?_)|(refine after_intro fun v2 H2 hv2 hnx2 hget2 hnew2 hone2 hcel2=>?_))
    refine wp_loopF [(2,3),(6,6),(10,13),(50,71)] (fun (i:Nat) env H=>env 50=.pure (.int .i64 0)∧env 6=.pure .nils) (fun i=>0) 0 ?_ ?_ ?_ ?_
    ·decide
    ·exact ⟨by simp,by simp [*]⟩
    ·simp only [loopFuel];omega
    rintro i env H ⟨g0,g6⟩;(repeat' first|simp [*,initEnv,afterK]|(apply wpIf_two<;>intro _ h<;>try simp [-Nat.le_zero_eq] at h)|(show wpE 0 (doAppend ..) ..;refine wpE_appW ?_)|(refine after_intro fun v2 H2 hv2 hnx2 hget2 hnew2 hone2 hcel2=>?_))
   ·obtain ⟨id,rfl,hget⟩:=hv1.1.row hP;obtain ⟨H1,hs1,hs2,hs3,hs4,hs5⟩:=sortRun_own (v:=.row id 1 0 P.length) (l:=P) ⟨id,[],rfl,by rw [List.append_nil];exact hget⟩ (by simp [maxCells];omega);have hget1:=hs5 id rfl hget;have il:=isort_length P;have hidl:ids.length≤P.length:=by
     rw [hil2.h];unfold compactL;have:=goC_le (isort P) none;omega
    have hidn:ids≠[]:=fun h=>by
     have h2:=(compact_strict (isort_sorted P)).2;rw [← hil2.h,h] at h2
     cases P with
     | nil=>exact hP rfl
     | cons a P =>
      have:=(h2 a).2 ((isort_perm _).mem_iff.2 List.mem_cons_self);simp at this
    clear hs2 hs5 hs4 hs3 hget hv1;(repeat' first|simp [*,initEnv]|(apply wpIf_two<;>intro _ h<;>try simp [-Nat.le_zero_eq] at h)|(show wpE 0 (doAppend ..) ..;refine wpE_appW ?_)|(refine after_intro fun v2 H2 hv2 hnx2 hget2 hnew2 hone2 hcel2=>?_))
    refine wpE_run (n:=n+51) (caps:=[]) sh_sortC ⟨_,_,runSortC _ _ _ _ hs1,?_⟩
    clear hs1;(repeat' first|simp [*,initEnv]|(apply wpIf_two<;>intro _ h<;>try simp [-Nat.le_zero_eq] at h)|(show wpE 0 (doAppend ..) ..;refine wpE_appW ?_)|(refine after_intro fun v2 H2 hv2 hnx2 hget2 hnew2 hone2 hcel2=>?_))
    refine wpE_run (n:=n+51) (caps:=[]) sh_compactC ?_
    refine compact_call (fun _ _=>rfl) g20 hget1 (by omega) il.symm ?_
    intro v3 H3 hv3 hnx3 hoth3 hnam3;rw [← hil2.h] at hv3;have hsc:=hv3.cells;have hone3:AV.one v3=true∧AV.cells v3=[v3]:=by
     obtain ⟨_,_,rfl,_⟩:=hv3;exact ⟨rfl,rfl⟩
    have ho3a:=hone3.1;have ho3b:=hone3.2;have hv3H:=Hide.mk hv3;have hidlH:=Hide.mk hidl;have hidnH:=Hide.mk hidn;have hnil3:isNil .slice v3=some false:=by
     obtain ⟨_,_,rfl,_⟩:=hv3;rfl
    clear hnx3 hoth3 hnam3 hget1 hv3 hone3 hidl hidn il;(repeat' first|simp [*,initEnv]|(apply wpIf_two<;>intro _ h<;>try simp [-Nat.le_zero_eq] at h)|(show wpE 0 (doAppend ..) ..;refine wpE_appW ?_)|(refine after_intro fun v2 H2 hv2 hnx2 hget2 hnew2 hone2 hcel2=>?_))
    refine wpE_run (n:=n+51) (caps:=[]) sh_cloneC ?_
    refine clone_call (b:=false) (fun _=>rfl) g21 hsc hnil3 (fun h=>by cases h) (fun _=>rfl) (by decide) (fun _=>rfl) (by have:=hidlH.h;simp [maxCells];omega) ?_
    intro v4 H4 hv4 hnil4 hnx4 hget4 hnew4;obtain ⟨cid,rfl,hg4⟩:=hv4.row hidnH.h;have hv5:Hide (HeadV intF 1 H4 v3 ids):=⟨by
     obtain ⟨a,b,h1,h2⟩:=hv3H.h;exact ⟨a,b,h1,by rw [hget4 a (nx_of_get h2)];exact h2⟩⟩
    have hil60:ids.length≤60:=by have:=hidlH.h;omega
    clear hv4 hnil4 hnx4 hget4 hnew4 hv3H hsc hnil3 hP hil2 hidlH hidnH hpl;(repeat' first|simp [*,initEnv]|(apply wpIf_two<;>intro _ h<;>try simp [-Nat.le_zero_eq] at h)|(show wpE 0 (doAppend ..) ..;refine wpE_appW ?_)|(refine after_intro fun v2 H2 hv2 hnx2 hget2 hnew2 hone2 hcel2=>?_))
    refine wp_loopF [(2,3),(6,6),(10,13),(50,71)] (fun (i:Nat) env H=>env 50=.pure (.int .i64 i)∧i≤ids.length∧H.get cid=.cells true (rowOf intF ids)∧∃ k:List Int,Hide (HeadV intF 1 H (env 6) (k++ids.drop i)∧(k++ids.drop i).Pairwise (· < ·)∧coreK E k (ids.drop i)=R∧k.length≤i)) (fun i=>ids.length - i) 0 ?_ ?_ ?_ ?_
    ·decide
    ·exact ⟨by simp,by omega,hg4,[],⟨by simpa using hv5.h,by simpa using hstr.h,by simpa using hRH.h,Nat.le_refl _⟩⟩
    ·simp only [loopFuel];omega
    clear hv5 hg4 ho3a ho3b;rintro i env H5 ⟨g50,hi,hgc,k,hk⟩;generalize g6:env 6=V at *
    by_cases hlt:i < ids.length
    ·have w1:IntKind.i64.wrap ((i:Int)+1)=(i+1:Nat):=by rw [wrap64 (by omega) (by omega)];omega
     have hltI:(i:Int) < ids.length:=by omega
     have hdr:ids.drop i=ids[i]::ids.drop (i+1):=List.drop_eq_getElem_cons hlt;obtain ⟨x,hx⟩:∃ x,ids[i]=x:=⟨_,rfl⟩
     obtain ⟨t,ht⟩:∃ t,ids.drop (i+1)=t:=⟨_,rfl⟩
     have htl:t.length+(i+1)=ids.length:=by rw [← ht,List.length_drop];omega
     rw [hdr,hx,ht] at hk;obtain ⟨lid,rest,rfl,hgl⟩:=hk.h.1;obtain ⟨D',e',hf',hE'⟩:=hsubH.h (k++t);have hkl:=hk.h.2.2.2;have hpw:=hk.h.2.1;have hkK:=Hide.mk hk.h.2.2.1;have hpwH:=Hide.mk hpw;have hdf:(∀ a∈k,a≠x)∧∀ a∈t,a≠x:=by
      rw [List.pairwise_append,List.pairwise_cons] at hpw;exact ⟨fun a ha=>by have:=hpw.2.2 a ha x List.mem_cons_self;omega,fun a ha=>by have:=hpw.2.1.1 a ha;omega⟩
     have hlidn:=nx_of_get hgl;have hcidn:=nx_of_get hgc;have hglH:=Hide.mk hgl;have hgcH:=Hide.mk hgc;have htH:=Hide.mk ht;clear hk hpw hdr hgl ht;have hL:(k++x::t).length=k.length+t.length+1:=by simp;omega
     obtain ⟨L,hL0⟩:∃ L,(k++x::t).length=L:=⟨_,rfl⟩
     have hLk:L=k.length+t.length+1:=by omega
     have hL60:L < 1000:=by omega
     rw [hL0] at g6;have hneb:H5.nx≠lid:=by omega
     have hnec:H5.nx≠cid:=by omega
     have hL0H:=Hide.mk hL0;have hLkH:=Hide.mk hLk;clear hL hL0 hLk;(repeat' first|simp [*,initEnv,intF]|(apply wpIf_two<;>intro _ h<;>try simp [-Nat.le_zero_eq] at h)|(show wpE 0 (doAppend ..) ..;refine wpE_appW ?_)|(refine after_intro fun v2 H2 hv2 hnx2 hget2 hnew2 hone2 hcel2=>?_))
     refine wpE_run (n:=n+51) (caps:=[]) sh_cloneC ?_
     refine clone_call (b:=false) (f:=intF) (sz:=1) (l:=k++x::t) (fun _=>rfl) g21 ?_ rfl (fun h=>by cases h) (fun _=>rfl) (by decide) (fun _=>rfl) (by rw [hL0H.h];simp [maxCells];omega) ?_
     ·exact HeadV.cells ⟨lid,rest,by rw [hL0H.h],by rw [get_set_ne (Ne.symm hneb),get_alloc_lt hlidn];exact hglH.h⟩
     intro v6 H6 hv6 hnil6 hnx6 hget6 hnew6;obtain ⟨rid,rfl,hgr⟩:=hv6.row (by simp);rw [hL0H.h];have hrid:H5.nx+1≤rid:=by have:=hnew6 rid ⟨_,_,_,rfl⟩;simpa using this
     have hgb:H6.get H5.nx=.cells true [.pure (.int .i64 x)]:=by rw [hget6 _ (by simp),get_set_own (by simp)]
     have hlow:∀ c,c < H5.nx→H6.get c=H5.get c:=fun c hc=>by rw [hget6 _ (by simp;omega),get_set_ne (by omega),get_alloc_lt hc]
     have hridn:=nx_of_get hgr;have hlowH:=Hide.mk hlow;have hgrH:=Hide.mk hgr;clear hv6 hnil6 hnx6 hget6 hnew6 hlow hgr;(repeat' first|simp [*,initEnv,funcV,puresL]|(apply wpIf_two<;>intro _ h<;>try simp [-Nat.le_zero_eq] at h)|(show wpE 0 (doAppend ..) ..;refine wpE_appW ?_)|(refine after_intro fun v2 H2 hv2 hnx2 hget2 hnew2 hone2 hcel2=>?_));have hfrB:∀ (H2:Heap),H2.get H5.nx=H6.get H5.nx→FrzK H2 true 11 (.box H5.nx 0) (.ptr true [.int .i64 x] 0):=fun H2 h2=>.boxC (h2.trans hgb) (FrzL.pures (n:=9) [.int .i64 x]);have hne5:H5.nx≠rid:=by omega
     refine wpE_run (n:=n+51) (caps:=[]) sh_delC ?_
     refine delf_call (n:=n+51) (q:=fun a=>decide (a=x)) (ke:=k) (t:=t) (x:=x) hgrH.h hLkH.h hL60 (fun a ha=>by simpa using hdf.2 a ha) ?_ (fun H2 a h2=>?_) ?_
     ·have hidx:=indexFunc_call (n:=n+50) (f:=intF) (sz:=1) (g:=false) (p:=.func 23 [.ptr true [.int .i64 x] 0]) (q:=fun a=>decide (a=x)) (s:=Sl.mk true (k++x::t)) (ext_none 39) (fun _ _=>rfl) g39 (fun _=>rfl) (by simp;omega) (fun H a ha=>⟨.pure (.int .i64 a),rfl,call_pureC (G:=G) (n:=n+50) (H:=H) (caps:=[.ptr true [.int .i64 x] 0]) (ps:=[.int .i64 a]) sh23 (e23 (n+49) a x true)⟩);rw [Sl.xs_mk,idx_mid hdf.1,Nat.zero_add] at hidx
      refine doCall_own sh_idxF (.cons ?_ (.cons (.func (n:=11) (.cons (hfrB H6 rfl) .nil)) .nil)) hidx rfl
      have:=HeadV.frz (k:=true) (n:=10) (f:=intF) (sz:=1) (fun _=>rfl) (H:=H6) (v:=.row rid 1 0 L) (l:=k++x::t) ⟨rid,[],by rw [hL0H.h],by rw [List.append_nil];exact hgrH.h⟩;exact this
     ·exact doCall_clo sh23 (.cons (.pure (n:=11) _) (.cons (.boxC (n:=11) ((h2 _ hne5).trans hgb) (FrzL.pures (n:=10) [.int .i64 x])) .nil)) (e23 (n+50) a x true) rfl
     intro H7 hv7 hnx7 hoth7;have hv7H:=Hide.mk hv7;have hothH:=Hide.mk hoth7;obtain ⟨M,hM⟩:∃ M,L - 1=M:=⟨_,rfl⟩
     have hMl:(k++t).length=M:=by rw [← hM,hLkH.h,List.length_append];omega
     have hM60:M < 1000:=by omega
     have h7r:∃ rest7,H7.get rid=.cells true (rowOf intF (k++t)++rest7):=by
      obtain ⟨r',rest7,h8,h9⟩:=hv7;simp only [AV.row.injEq] at h8;obtain ⟨rfl,_⟩:=h8;exact ⟨rest7,h9⟩
     obtain ⟨rest7,h7g⟩:=h7r;have h7gH:=Hide.mk h7g;have hMlH:=Hide.mk hMl;have hrid7:rid < H7.nx:=nx_of_get h7g;have hlow7:Hide (∀ c,c < H5.nx→H7.get c=H5.get c):=⟨fun c hc=>by rw [hoth7 c (by omega)];exact hlowH.h c hc⟩
     have hnx57:H5.nx < H7.nx:=by omega
     have hq:=fun H=>call_pureC (G:=G) (n:=n+52) (H:=H) (caps:=[]) (ps:=[.agg (pickP (onlyB (k++t)) ⟨bs,fs⟩).cells]) sh24 (e24 (n+1) (pickP (onlyB (k++t)) ⟨bs,fs⟩) (pickP_ok okH.h) D' e' hf');have hpk:=e25 (n+48) ⟨bs,fs⟩ (.func 26 [.ptr true [(Sl.mk true (k++t)).pv intF 1] 0]) (onlyB (k++t)) (keep_core (n:=n+48) (by rw [Sl.xs_mk,hMl];exact hM60)) (by have:=okH.h.nb;simp only at this ⊢;omega) (by simp only;omega);have hfz:Hide (∀ Hy:Heap,Hy.get rid=H7.get rid→FrzK Hy true 10 (.row rid 1 0 M) ((Sl.mk true (k++t)).pv intF 1)):=⟨fun Hy h=>by
      have:=HeadV.frz (k:=true) (n:=8) (f:=intF) (sz:=1) (fun _=>rfl) (H:=Hy) (v:=.row rid 1 0 M) (l:=k++t) ⟨rid,rest7,by rw [hMl],by rw [h];exact h7g⟩;exact this⟩
     have hcold:=pick_cold (onlyB (k++t)) ⟨bs,fs⟩;obtain ⟨⟨qb,qf⟩,hqq⟩:∃ q,pickP (onlyB (k++t)) ⟨bs,fs⟩=q:=⟨_,rfl⟩
     rw [hqq] at hq hpk hcold;have hpkH:=Hide.mk hpk;have hcoldH:=Hide.mk hcold;simp only [Problem.cells,FoundD.cells,List.map_cons,List.map_nil] at hq;obtain ⟨dE,dS⟩:=D';simp only at hq;obtain ⟨sD',hsD'⟩:∃ x,Sl.of dS=x:=⟨_,rfl⟩
     rw [hsD'] at hq;rw [hM];have herr:=find_err hf';have hfin:Hide (∀ c,c < H7.nx→∀ o1 o2 o3 o4,((((H7.alloc o1).set H7.nx o2).alloc o3).set (H7.nx+1) o4).get c=H7.get c):=⟨fun c hc o1 o2 o3 o4=>by rw [get_set_ne (by omega),get_alloc_lt (by rw [nx_set,nx_alloc];omega),get_set_ne (by omega),get_alloc_lt hc]⟩
     have hEH:=Hide.mk hE';clear hv7 hoth7 hfrB hgb hLkH hrid hridn hlowH hgrH hne5 hnx7 hM hMl h7g hqq hpk hcold hsD';(repeat' first|simp [*,initEnv,funcV,puresL]|(apply wpIf_two<;>intro _ h<;>try simp [-Nat.le_zero_eq] at h)|(show wpE 0 (doAppend ..) ..;refine wpE_appW ?_)|(refine after_intro fun v2 H2 hv2 hnx2 hget2 hnew2 hone2 hcel2=>?_))
     refine wpE_own (n:=n+52) (caps:=[]) (ps:=[.agg (⟨bs,fs⟩:Problem).cells,.func 26 [.ptr true [(Sl.mk true (k++t)).pv intF 1] 0]]) (r:=.agg (⟨qb,qf⟩:Problem).cells) sh25 ?_ hpkH.h hcoldH.h ?_
     ·exact .cons (.pure (n:=11) _) (.cons (.func (n:=11) (.cons (.boxC (n:=10) (own:=true) (cs:=[.row rid 1 0 M]) (by rw [get_set_own (by simp)]) (.cons (hfz.h _ (by rw [get_set_ne (by omega),get_alloc_lt hrid7])) .nil)) .nil)) .nil)
     have hkK2:=hkK.h;simp only [coreK] at hkK2;clear hkK hfz hpkH hcoldH;rcases herr with rfl|rfl
     ·cases dE with
      | true =>
       have h9:E (k++t)=9:=hEH.h;rw [h9,if_neg (by decide),if_pos rfl] at hkK2;have hkK3:=Hide.mk hkK2;clear hkK2 h9 hEH;(repeat' first|simp [*,initEnv]|(apply wpIf_two<;>intro _ h<;>try simp [-Nat.le_zero_eq] at h)|(show wpE 0 (doAppend ..) ..;refine wpE_appW ?_)|(refine after_intro fun v2 H2 hv2 hnx2 hget2 hnew2 hone2 hcel2=>?_))
       refine ⟨i+1,by omega,by omega,by omega,?_,k,⟨⟨rid,rest7,by rw [htH.h,hMlH.h],?_⟩,?_,?_,by omega⟩⟩
       ·rw [hfin.h cid (by omega),hlow7.h cid hcidn];exact hgcH.h
       ·rw [hfin.h rid hrid7,htH.h];exact h7gH.h
       ·rw [htH.h];exact hpwH.h.sublist (List.Sublist.append_left (List.sublist_cons_self _ _) _)
       ·rw [htH.h];exact hkK3.h
      | false =>
       have h9:E (k++t)=0:=hEH.h;rw [h9,if_neg (by decide),if_neg (by decide)] at hkK2;have hkK3:=Hide.mk hkK2;have happ:Hide ((k++[x])++t=k++x::t):=⟨by simp⟩
       clear hkK2 h9 hEH;(repeat' first|simp [*,initEnv]|(apply wpIf_two<;>intro _ h<;>try simp [-Nat.le_zero_eq] at h)|(show wpE 0 (doAppend ..) ..;refine wpE_appW ?_)|(refine after_intro fun v2 H2 hv2 hnx2 hget2 hnew2 hone2 hcel2=>?_))
       refine ⟨i+1,by omega,by omega,by omega,?_,k++[x],⟨⟨lid,rest,by rw [htH.h,happ.h,hL0H.h],?_⟩,?_,?_,by rw [List.length_append];simp;omega⟩⟩
       ·rw [hfin.h cid (by omega),hlow7.h cid hcidn];exact hgcH.h
       ·rw [hfin.h lid (by omega),hlow7.h lid hlidn,htH.h,happ.h];exact hglH.h
       ·rw [htH.h,happ.h];exact hpwH.h
       ·rw [htH.h];exact hkK3.h
     ·have h9:E (k++t)=2:=hEH.h;rw [h9,if_pos rfl] at hkK2;subst hkK2;clear h9 hEH;(repeat' first|simp [*,initEnv,afterK]|(apply wpIf_two<;>intro _ h<;>try simp [-Nat.le_zero_eq] at h)|(show wpE 0 (doAppend ..) ..;refine wpE_appW ?_)|(refine after_intro fun v2 H2 hv2 hnx2 hget2 hnew2 hone2 hcel2=>?_))
    ·have hil:i=ids.length:=by omega
     subst hil;rw [List.drop_length,List.append_nil] at hk;have hRk:R=some k:=by rw [← hk.h.2.2.1];rfl
     subst hRk;obtain ⟨lid,rest,rfl,hgl⟩:=hk.h.1;have hz:=HeadV.frz (k:=false) (n:=9) (f:=intF) (sz:=1) (fun _=>rfl) hk.h.1;have hz2:=Hide.mk hz;clear hk hz
     cases k with
     | nil=>(repeat' first|simp [*,initEnv,afterK]|(apply wpIf_two<;>intro _ h<;>try simp [-Nat.le_zero_eq] at h)|(show wpE 0 (doAppend ..) ..;refine wpE_appW ?_)|(refine after_intro fun v2 H2 hv2 hnx2 hget2 hnew2 hone2 hcel2=>?_))
     | cons a k =>
      obtain ⟨m,hm⟩:∃ m,(a::k).length=m:=⟨_,rfl⟩
      rw [hm] at g6;have hne:¬ (m:Int)=0:=by rw [← hm,List.length_cons];omega
      obtain ⟨ids',hz3⟩:=hz2.h;obtain ⟨sl,hsl⟩:∃ sl,PV.slice false 1 ((a::k).map intF)=sl:=⟨_,rfl⟩
      have hslH:Hide (sl=(Sl.mk false (a::k)).pv intF 1):=⟨hsl.symm⟩
      have hneN:¬ m=0:=by omega
      unfold afterK;rw [hm,hsl] at hz3;clear hm hz2 hgl hsl;(repeat' first|simp [*,initEnv]|(apply wpIf_two<;>intro _ h<;>try simp [-Nat.le_zero_eq] at h)|(show wpE 0 (doAppend ..) ..;refine wpE_appW ?_)|(refine after_intro fun v2 H2 hv2 hnx2 hget2 hnew2 hone2 hcel2=>?_));exact hslH.h
@[simp] theorem d6 (n:Nat) (H:Heap) (p_boxes:Sl Box) (p_facts:Sl Fact) (E0:Int) (E:List Int→Int) (h:(fun (p:Problem)=>CoreIn p E0 E) (⟨p_boxes,p_facts⟩:Problem)):doCall (calleeOf G (n+53)) H (.pure (.func 6 [])) [.pure (.agg [(p_boxes).pv Box.cells 4,(p_facts).pv Fact.cells 9])]=some (.val (.pure ((fun (p:Problem)=>.tup [(Sl.of (coreF E0 E (idsP p.facts.xs)).1).pv intF 1,.int .i64 (coreF E0 E (idsP p.facts.xs)).2]) (⟨p_boxes,p_facts⟩:Problem)))) :=
 call_pureC (ps:=[_]) (caps:=[]) sh6 (e6 n (⟨p_boxes,p_facts⟩:Problem) E0 E h)
end Go.Proofs.Ytmmhnfghklppiaa.Vm
