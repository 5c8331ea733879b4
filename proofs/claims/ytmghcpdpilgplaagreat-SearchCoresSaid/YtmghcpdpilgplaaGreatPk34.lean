/- slices.DeleteFunc of one element of numbers of one's own. search.Core: walked. Core: the specification's, walked. -/
import Derived.Test.YtmghcpdpilgplaaGreatPk25
import Derived.Test.YtmghcpdpilgplaaGreatPk26
import Derived.KernelRfl
import Derived.Test.YtmghcpdpilgplaaGreatPk33
namespace Go.Proofs.YtmghcpdpilgplaaGreat.Vm
open Go
set_option maxHeartbeats 4000000
set_option maxRecDepth 4000
theorem sh76:G.shared 76=false:=by decide
theorem e76 (n:Nat) (x y:Int) (b:Bool):callP G (n+1) 76 [.int .i64 x,.ptr b [.int .i64 y] 0]=some (.bool (decide (x=y))):=by
 refine callP_of (ext_none _) rfl g76 rfl ?_
 (repeat' first|simp [*,initEnv,c76]|(apply wpIf_two<;>intro _ h<;>try simp [-Nat.le_zero_eq] at h))
theorem shift_step {k t:List Int} {x:Int} {c:Nat} (h:c < t.length):(k++t.take c++(x::t).drop c).set (k.length+c) t[c]=k++t.take (c+1)++(x::t).drop (c+1):=by
 have e1:(x::t).drop c=(x::t)[c]'(by simp;omega)::t.drop c:=by
  rw [List.drop_eq_getElem_cons (by simp;omega),List.drop_succ_cons]
 have e2:(k++t.take c).length=k.length+c:=by simp;omega
 rw [e1,List.set_append_right _ _ (by omega),e2,Nat.sub_self,List.set_cons_zero,List.take_add_one,List.getElem?_eq_getElem h,List.drop_succ_cons];simp only [Option.toList_some,List.append_assoc,List.singleton_append]
theorem shift_get {k t:List Int} {x:Int} {c:Nat} (h:c < t.length) (h':k.length+1+c < (k++t.take c++(x::t).drop c).length):(k++t.take c++(x::t).drop c)[k.length+1+c]=t[c]:=by
 have e2:(k++t.take c).length=k.length+c:=by simp;omega
 rw [List.getElem_append_right (by omega),List.getElem_drop];have e3:c+(k.length+1+c - (k++t.take c).length)=c+1:=by omega
 simp only [e3,List.getElem_cons_succ]
theorem shift_len {k t:List Int} {x:Int} {c:Nat} (h:c≤t.length):(k++t.take c++(x::t).drop c).length=k.length+t.length+1:=by simp;omega
theorem shift_end {k t:List Int} {x:Int}:k++t.take t.length++(x::t).drop t.length=k++t++[(x::t)[t.length]'(by simp)]:=by
 rw [List.take_length,List.drop_eq_getElem_cons (by simp),List.drop_of_length_le (by simp)]
theorem delf_call {n id L:Nat} {H:Heap} {Q:AV} {q:Int→Bool} {ke t:List Int} {x:Int} {k:AV→Heap→Prop} (hv:H.get id=.cells true (rowOf intF (ke++x::t))) (hL:L=ke.length+t.length+1) (hlen:L < 1000)
  (hx:∀ a∈t,q a=false)
  (hi:doCall (calleeOf G n) H (.pure (.func 125 [])) [.row id 1 0 L,Q]=some (.val (.pure (.int .i64 ke.length))))
  (hq:∀ H2 a,(∀ j,j≠id→H2.get j=H.get j)→doCall (calleeOf G n) H2 Q [.pure (.int .i64 a)]=some (.val (.pure (.bool (q a)))))
  (hk:∀ H',HeadV intF 1 H' (.row id 1 0 (L - 1)) (ke++t)→H'.nx=H.nx→(∀ j,j≠id→H'.get j=H.get j)→k (.row id 1 0 (L - 1)) H') :
  ∃ v' H',Vm.call G (n+1) (.fn 75) [.row id 1 0 L,Q] H=some (v',H')∧k v' H':=by
 have hqH:=Hide.mk hq;have hxH:=Hide.mk hx;have hkH:=Hide.mk hk;have hLH:=Hide.mk hL;have hid:=nx_of_get hv;have hne:¬ (ke.length:Int)=-1:=by omega
 have w0:IntKind.i64.wrap ((ke.length:Int)+1)=(ke.length+1:Nat):=by rw [wrap64 (by omega) (by omega)];omega
 have hv0:Hide (H.get id=.cells true (rowOf intF (ke++t.take 0++(x::t).drop 0))):=⟨by simpa using hv⟩
 clear hq hx hk hL hv
 refine call_of rfl g75 rfl ?_
 (repeat' first|simp [*,initEnv,c75]|(apply wpIf_two<;>intro _ h<;>try simp [-Nat.le_zero_eq] at h))
 refine wp_loopF [(5,7),(16,35)] (fun (c:Nat) env H'=>env 6=.pure (.int .i64 (ke.length+1+c:Nat))∧env 5=.pure (.int .i64 (ke.length+c:Nat))∧c≤t.length∧H'.nx=H.nx∧Hide (H'.get id=.cells true (rowOf intF (ke++t.take c++(x::t).drop c))∧∀ j,j≠id→H'.get j=H.get j)) (fun c=>t.length - c) 0 ?_ ?_ ?_ ?_
 ·decide
 ·exact ⟨by simp,by simp [*],by omega,rfl,⟨hv0.h,fun _ _=>rfl⟩⟩
 ·simp only [loopFuel];have:=hLH.h;omega
 rintro c env H' ⟨g6,g5,hc,hnx,hh⟩;have hg:=hh.h.1;have hid':=nx_of_get hg;have hsl:=shift_len (k:=ke) (x:=x) hc;have hml:(ke++t.take c++(x::t).drop c).length=L:=by rw [hsl,hLH.h]
 have hLv:=hLH.h;clear hsl
 by_cases hlt:c < t.length
 ·have w1:IntKind.i64.wrap ((ke.length+1+c:Nat)+1:Int)=(ke.length+1+(c+1):Nat):=by rw [wrap64 (by omega) (by omega)];omega
  have w2:IntKind.i64.wrap ((ke.length+c:Nat)+1:Int)=(ke.length+(c+1):Nat):=by rw [wrap64 (by omega) (by omega)];omega
  have hltI:((ke.length+1+c:Nat):Int) < L:=by omega
  have hjl:ke.length+1+c < (ke++t.take c++(x::t).drop c).length:=by omega
  have hjL:ke.length+1+c < L:=by omega
  have hil:ke.length+c < (ke++t.take c++(x::t).drop c).length:=by omega
  have hiL:ke.length+c < L:=by omega
  have hgt:=shift_get (k:=ke) (x:=x) hlt hjl;have hst:=shift_step (k:=ke) (x:=x) hlt;have hq1:=hqH.h H' t[c] hh.h.2;rw [hxH.h t[c] (List.getElem_mem hlt)] at hq1;obtain ⟨v,hv1⟩:∃ v,t[c]=v:=⟨_,rfl⟩
  rw [hv1] at hgt hst hq1;have hoth:=Hide.mk hh.h.2;have hjjH:=Hide.mk (show ∃ z,z=ke.length+1+c from ⟨_,rfl⟩);clear hh;have hst:=Hide.mk hst;obtain ⟨w3,w4⟩:∃ z:Nat,z=ke.length+1+(c+1):=⟨_,rfl⟩
  obtain ⟨w5,w6⟩:∃ z:Nat,z=ke.length+(c+1):=⟨_,rfl⟩
  rw [← w4] at w1;rw [← w6] at w2;have w4:=Hide.mk w4;have w6:=Hide.mk w6;clear hLv;generalize ke++t.take c++(x::t).drop c=M at *;generalize ke.length+1+c=jj at *;generalize ke.length+c=ii at *;(repeat' first|simp [*,initEnv]|(apply wpIf_two<;>intro _ h<;>try simp [-Nat.le_zero_eq] at h));exact ⟨c+1,by omega,by omega,by omega,⟨rfl,fun j hj=>by rw [get_set_ne hj];exact hoth.h j hj⟩⟩
 ·have hcl:c=t.length:=by omega
  subst hcl;rw [shift_end] at hg;have hLI:((ke.length+1+t.length:Nat):Int)=L:=by omega
  rw [hLI] at g6;obtain ⟨ii,hii⟩:∃ z,z=ke.length+t.length:=⟨_,rfl⟩
  have e1:ii < L:=by omega
  have e2:ii≤L:=by omega
  have e3:¬ L=ii:=by omega
  have e4:ii+(L - ii)=L:=by omega
  have e5:L - ii=1:=by omega
  have hlm:(ke++t).length=ii:=by rw [List.length_append];omega
  have hml2:(ke++t++[(x::t)[t.length]'(by simp)]).length=L:=by rw [List.length_append,hlm];simp;omega
  have hoth:=Hide.mk hh.h.2;rw [← hii] at g5;clear hh hml hLv hLI hc;have hiiH:=Hide.mk hii;clear hii hml2;generalize (x::t)[t.length]'(by simp)=z at *;have hk2:=hkH.h;rw [show L - 1=ii by omega] at hk2;have hk2H:=Hide.mk hk2;clear hk2;generalize ke++t=M at *;(repeat' first|simp [*,initEnv]|(apply wpIf_two<;>intro _ h<;>try simp [-Nat.le_zero_eq] at h));exact hk2H.h _ ⟨id,rowOf intF [0],by rw [hlm],by rw [get_set_own hid']⟩ (by simpa using hnx) (fun j hj=>by rw [get_set_ne hj];exact hoth.h j hj)
theorem sort_nilC (n:Nat) (H:Heap):Vm.call G (n+10) (.fn 72) [.pure .nils] H=some (.tup [],H):=by kernel_rfl
theorem compact_nilC (n:Nat) (H:Heap):Vm.call G (n+10) (.fn 73) [.pure .nils] H=some (.pure .nils,H):=by kernel_rfl
theorem clone_nilC (n:Nat) (H:Heap):Vm.call G (n+10) (.fn 74) [.pure .nils] H=some (.pure .nils,H):=by kernel_rfl
theorem runSortC (n:Nat) (args:List AV) (H:Heap) (r:AV×Heap) (h:sortRun args H=some r):Vm.call G (n+1) (.fn 72) args H=some r:=by
 rw [call_fn];have:G.extRun 72 args H=sortRun args H:=rfl;rw [this,h]
theorem sh_sortC:G.shared 72=true:=by decide
theorem sh_cloneC:G.shared 74=true:=by decide
theorem sh_compactC:G.shared 73=true:=by decide
theorem sh_idxF:G.shared 125=false:=by decide
theorem sh_delC:G.shared 75=true:=by decide
theorem doCall_own {n f:Nat} {H:Heap} {args:List AV} {ps:List PV} {r:PV} (hs:G.shared f=false) (ha:FrzL H true depthF args ps) (h:callP G n f ps=some r) (hc:r.cold=true) :
  doCall (calleeOf G n) H (.pure (.func f [])) args=some (.val (.pure r)):=by
 obtain ⟨ids,ha⟩:=ha;have hs':(calleeOf G n).shared f=false:=hs;have h':(calleeOf G n).pure f ps=some r:=h;simp only [doCall,List.map_nil,List.append_nil,hs',Bool.false_eq_true,if_false,ha,h',hc,Bool.or_true,if_true]
theorem doCall_clo {n f:Nat} {H:Heap} {args caps:List AV} {ps:List PV} {r:PV} (hs:G.shared f=false) (ha:FrzL H true depthF (args++caps) ps) (h:callP G n f ps=some r) (hc:r.cold=true) :
  doCall (calleeOf G n) H (.func f caps) args=some (.val (.pure r)):=by
 obtain ⟨ids,ha⟩:=ha;have hs':(calleeOf G n).shared f=false:=hs;have h':(calleeOf G n).pure f ps=some r:=h;simp only [doCall,hs',Bool.false_eq_true,if_false,ha,h',hc,Bool.or_true,if_true]
theorem FrzK.boxC {H:Heap} {k:Bool} {n id off:Nat} {cs:List AV} {ps:List PV} {own:Bool} (hg:H.get id=.cells own cs) (h:FrzL H k n cs ps):FrzK H k (n+1) (.box id off) (.ptr k ps off):=by
 obtain ⟨ids,h⟩:=h;exact ⟨id::ids,by simp only [freeze,hg,h]⟩
theorem FrzK.func {H:Heap} {k:Bool} {n f:Nat} {cs:List AV} {ps:List PV} (h:FrzL H k n cs ps):FrzK H k (n+1) (.func f cs) (.func f ps):=by
 obtain ⟨ids,h⟩:=h;exact ⟨ids,by simp only [freeze,h]⟩
def ansE (D:FoundD) (e:Int):Int:=if e≠0 then e else if D.empty=true then 9 else 0
structure CoreIn (p:Problem) (E0:Int) (E:List Int→Int):Prop where
 top:∃ D e,SolvedOut p D e∧E0=ansE D e
 sub:CheckOk p→∀ o,∃ D e,FindOut (pickP (onlyB o) p) D e∧E o=ansE D e
theorem check_ne9 (p:Problem):checkS p≠9:=by unfold checkS;split<;>(try split)<;>omega
theorem find_err {p:Problem} {D:FoundD} {e:Int} (h:FindOut p D e):e=0∨e=2:=by
 rcases h with ⟨_,_,rfl⟩|⟨_,_,_,_,⟨_,_,rfl⟩|⟨_,_,rfl⟩⟩<;>simp
theorem solved_ne9 {p:Problem} {D:FoundD} {e:Int} (h:SolvedOut p D e):e≠9:=by
 rcases h with ⟨_,_,rfl⟩|⟨_,h⟩
 ·exact check_ne9 p
 ·have:=find_err h;omega
theorem posIds_snoc {l:List Fact} {i:Nat} (h:i < l.length):posIds (l.take (i+1))=if 0 < l[i].id then posIds (l.take i)++[l[i].id] else posIds (l.take i):=by
 unfold posIds;rw [← take_succ' h,List.map_append,List.filter_append];simp only [List.map_cons,List.map_nil,List.filter_cons,List.filter_nil,decide_eq_true_eq]
 split<;>simp
theorem posIds_len (l:List Fact):(posIds l).length≤l.length:=by
 unfold posIds;exact Nat.le_trans (List.length_filter_le _ _) (by simp)
theorem HeadV.cells {l:List Int} {H:Heap} {v:AV} (h:HeadV intF 1 H v l):sliceCells H 1 v=some (rowOf intF l,l.length):=by
 obtain ⟨id,rest,rfl,hg⟩:=h;have hl:=rowOf_length (f:=intF) (sz:=1) (fun _=>rfl) l;rw [sliceCells_row,hg];simp only [rowCells];rw [if_pos (by rw [List.length_append];omega),Nat.zero_mul,List.drop_zero,← hl,List.take_left]
theorem idx_mid {x:Int}:∀ {k t:List Int} {j:Nat},(∀ a∈k,a≠x)→idxL (fun a=>decide (a=x)) (k++x::t) j=((j+k.length:Nat):Int)
 | [],t,j,_=>by simp [idxL]
 | a::k,t,j,h=>by
  have ha:=h a List.mem_cons_self;rw [List.cons_append,idxL,if_neg (by simpa using ha),idx_mid fun b hb=>h b (List.mem_cons_of_mem _ hb)];rw [List.length_cons];omega
theorem pick_cold (q:Int→Bool) (p:Problem):(PV.agg (pickP q p).cells).cold=true:=by
 obtain ⟨bs,fs⟩:=p;unfold pickP PV.cold;generalize pickL q fs.xs=l;have h1:∀ s:Sl Box,(s.cold.pv Box.cells 4).coldN 11=true:=fun s=>by
  cases s with
  | nil=>rfl
  | mk h l=>simp [Sl.cold,Sl.pv,PV.coldN,Box.cells,Span.cells]
 have h2:((Sl.of l).pv Fact.cells 9).coldN 11=true:=by
  cases l with
  | nil=>rfl
  | cons a l=>simp [Sl.pv,PV.coldN,Fact.cells,Span.cells]
 simp only [PV.coldN,Problem.cells,List.all_cons,List.all_nil,Bool.and_true,Bool.and_eq_true];exact ⟨h1 bs,h2⟩
def afterK (r:Option (List Int)):List Int×Int:=match r with
 | none=>([],2)
 | some l=>(l,0)
theorem sh35:G.shared 35=false:=by decide
theorem e35 (n:Nat) (p:Problem) (E0:Int) (E:List Int→Int) (h:CoreIn p E0 E):callP G (n+53) 35 [.agg p.cells]=some (.tup [(Sl.of (coreF E0 E (idsP p.facts.xs)).1).pv intF 1,.int .i64 (coreF E0 E (idsP p.facts.xs)).2]):=by
 refine callP_of (ext_none _) rfl g35 rfl ?_
 obtain ⟨⟨D,e,hs,hE0⟩,hsub⟩:=h;have hn:=fun H=>call_pureC (G:=G) (n:=n+52) (H:=H) (caps:=[]) (ps:=[.agg p.cells]) sh69 (e69 n p D e hs);have he9:=solved_ne9 hs;simp only [Problem.cells,FoundD.cells,List.map_cons,List.map_nil] at hn
 by_cases h1:e=0
 case neg =>
  have hr:coreF E0 E (idsP p.facts.xs)=([],e):=by rw [hE0];unfold coreF ansE;simp [h1,he9]
  rw [hr];simp only [Sl.of_nil,Sl.pv_nil];generalize Sl.of D.seens=sD at *;clear hr hs hE0 hsub he9;(repeat' first|simp [*,initEnv,c35,Problem.cells]|(apply wpIf_two<;>intro _ h<;>try simp [-Nat.le_zero_eq] at h)|(show wpE 0 (doAppend ..) ..;refine wpE_appW ?_)|(refine after_intro fun v2 H2 hv2 hnx2 hget2 hnew2 hone2 hcel2=>?_))
 case pos =>
  subst h1;have ok:CheckOk p:=by
   rcases hs with ⟨h,_,h'⟩|⟨h,_⟩
   ·exact absurd h'.symm h
   ·exact check_ok.1 h
  obtain ⟨sD,hsD⟩:∃ x,Sl.of D.seens=x:=⟨_,rfl⟩
  rw [hsD] at hn
  cases hD:D.empty with
  | false =>
   have hr:coreF E0 E (idsP p.facts.xs)=([],5):=by rw [hE0];unfold coreF ansE;simp [hD]
   rw [hr];simp only [Sl.of_nil,Sl.pv_nil];rw [hD] at hn;clear hr hs hE0 hsub he9 hD hsD;(repeat' first|simp [*,initEnv,c35,Problem.cells]|(apply wpIf_two<;>intro _ h<;>try simp [-Nat.le_zero_eq] at h)|(show wpE 0 (doAppend ..) ..;refine wpE_appW ?_)|(refine after_intro fun v2 H2 hv2 hnx2 hget2 hnew2 hone2 hcel2=>?_))
  | true =>
   have hr:coreF E0 E (idsP p.facts.xs)=afterK (coreK E [] (idsP p.facts.xs)):=by rw [hE0];unfold coreF ansE afterK;simp [hD];rfl
   rw [hr];rw [hD] at hn;have hsubH:=Hide.mk (hsub ok);have okH:=Hide.mk ok;have nf:=ok.nf;obtain ⟨ids,hids⟩:∃ ids,idsP p.facts.xs=ids:=⟨_,rfl⟩
   obtain ⟨R,hR⟩:∃ R,coreK E [] ids=R:=⟨_,rfl⟩
   rw [hids,hR];have hidsH:=Hide.mk hids;have hRH:=Hide.mk hR;obtain ⟨bs,fs⟩:=p;simp only at nf hidsH;clear hr hs hE0 hsub he9 hD hsD ok hids hR;(repeat' first|simp [*,initEnv,c35,Problem.cells]|(apply wpIf_two<;>intro _ h<;>try simp [-Nat.le_zero_eq] at h)|(show wpE 0 (doAppend ..) ..;refine wpE_appW ?_)|(refine after_intro fun v2 H2 hv2 hnx2 hget2 hnew2 hone2 hcel2=>?_))
   refine wp_loopF [(6,6),(8,8),(30,42)] (fun (i:Nat) env H=>env 30=.pure (.int .i64 i)∧i≤fs.xs.length∧GrowV intF 1 H (env 6) (posIds (fs.xs.take i))) (fun i=>fs.xs.length - i) 0 ?_ ?_ ?_ ?_
   ·decide
   ·exact ⟨by simp,by omega,by simpa [posIds] using GrowV.nil⟩
   ·simp only [loopFuel];omega
   rintro i env H ⟨g0,hi,hv1⟩;generalize g6:env 6=v at *
   by_cases hlt:i < fs.xs.length
   ·have w1:IntKind.i64.wrap ((i:Int)+1)=(i+1:Nat):=by rw [wrap64 (by omega) (by omega)];omega
    have hltI:(i:Int) < fs.xs.length:=by omega
    have hst:=posIds_snoc hlt;have hle:=posIds_len (fs.xs.take i);have hle2:(posIds (fs.xs.take i)).length < 1000:=by rw [List.length_take] at hle;omega
    clear hle;obtain ⟨F,hF⟩:∃ F,fs.xs[i]=F:=⟨_,rfl⟩
    rw [hF] at hst;obtain ⟨d1,d2,d3,da,db,dc,⟨d4,d5⟩,d6⟩:=F;simp only at hst
    by_cases h0:0 < d1
    ·rw [if_pos h0] at hst;have hstH:=Hide.mk hst;clear hst;generalize posIds (fs.xs.take i)=A at *;(repeat' first|simp [*,initEnv,Fact.cells,Span.cells]|(apply wpIf_two<;>intro _ h<;>try simp [-Nat.le_zero_eq] at h)|(show wpE 0 (doAppend ..) ..;refine wpE_appW ?_)|(refine after_intro fun v2 H2 hv2 hnx2 hget2 hnew2 hone2 hcel2=>?_));exact ⟨i+1,by omega,by omega,by omega,hv2.cast hstH.h.symm⟩
    ·rw [if_neg h0] at hst;have hstH:=Hide.mk hst;clear hst;generalize posIds (fs.xs.take i)=A at *;(repeat' first|simp [*,initEnv,Fact.cells,Span.cells]|(apply wpIf_two<;>intro _ h<;>try simp [-Nat.le_zero_eq] at h)|(show wpE 0 (doAppend ..) ..;refine wpE_appW ?_)|(refine after_intro fun v2 H2 hv2 hnx2 hget2 hnew2 hone2 hcel2=>?_));exact ⟨i+1,by omega,by omega,by omega,(hv1.setNew _ _).cast hstH.h.symm⟩
   have hil:i=fs.xs.length:=by omega
   subst hil;rw [List.take_length] at hv1;have hil2:Hide (ids=compactL (isort (posIds fs.xs))):=⟨hidsH.h.symm⟩
   have hpl:=posIds_len fs.xs;have hstr:Hide (ids.Pairwise (· < ·)):=⟨by rw [hil2.h];exact (compact_strict (isort_sorted _)).1⟩
   clear hidsH;generalize posIds fs.xs=P at *
   by_cases hP:P=[]
   ·subst hP;have hv0:=hv1.2 rfl;subst hv0;have hi0:ids=[]:=by rw [hil2.h];rfl
    subst hi0;have hR0:R=some []:=by rw [← hRH.h];rfl
    subst hR0;(repeat' first|simp [*,initEnv]|(apply wpIf_two<;>intro _ h<;>try simp [-Nat.le_zero_eq] at h)|(show wpE 0 (doAppend ..) ..;refine wpE_appW ?_)|(refine after_intro fun v2 H2 hv2 hnx2 hget2 hnew2 hone2 hcel2=>?_))
    refine wpE_run (n:=n+51) (caps:=[]) sh_sortC ⟨_,_,sort_nilC (n+42) _,?_⟩
    (repeat' first|simp [*,initEnv]|(apply wpIf_two<;>intro _ h<;>try simp [-Nat.le_zero_eq] at h)|(show wpE 0 (doAppend ..) ..;refine wpE_appW ?_)|(refine after_intro fun v2 H2 hv2 hnx2 hget2 hnew2 hone2 hcel2=>?_))
    refine wpE_run (n:=n+51) (caps:=[]) sh_compactC ⟨_,_,compact_nilC (n+42) _,?_⟩
    (repeat' first|simp [*,initEnv]|(apply wpIf_two<;>intro _ h<;>try simp [-Nat.le_zero_eq] at h)|(show wpE 0 (doAppend ..) ..;refine wpE_appW ?_)|(refine after_intro fun v2 H2 hv2 hnx2 hget2 hnew2 hone2 hcel2=>?_))
    refine wpE_run (n:=n+51) (caps:=[]) sh_cloneC ⟨_,_,clone_nilC (n+42) _,?_⟩
    (repeat' first|simp [*,initEnv]|(apply wpIf_two<;>intro _ h<;>try simp [-Nat.le_zero_eq] at h)|(show wpE 0 (doAppend ..) ..;refine wpE_appW ?_)|(refine after_intro fun v2 H2 hv2 hnx2 hget2 hnew2 hone2 hcel2=>?_))
    refine wp_loopF [(2,3),(6,6),(10,13),(50,71)] (fun (i:Nat) env H=>env 50=.pure (.int .i64 0)∧env 6=.pure .nils) (fun i=>0) 0 ?_ ?_ ?_ ?_
    ·decide
    ·exact ⟨by simp,by simp [*]⟩
    ·simp only [loopFuel];omega
    rintro i env H ⟨g0,g6⟩;(repeat' first|simp [*,initEnv,afterK]|(apply wpIf_two<;>intro _ h<;>try simp [-Nat.le_zero_eq] at h)|(show wpE 0 (doAppend ..) ..;refine wpE_appW ?_)|(refine after_intro fun v2 H2 hv2 hnx2 hget2 hnew2 hone2 hcel2=>?_))
   ·obtain ⟨id,rfl,hget⟩:=hv1.1.row hP;obtain ⟨H1,hs1,hs2,hs3,hs4,hs5⟩:=sortRun_own (v:=.row id 1 0 P.length) (l:=P) ⟨id,[],rfl,by rw [List.append_nil];exact hget⟩ (by simp [maxCells];omega);have hget1:=hs5 id rfl hget;have il:=isort_length P;have hidl:ids.length≤P.length:=by
     rw [hil2.h];unfold compactL;have:=goC_le (isort P) none;omega
    have hidn:ids≠[]:=fun h=>by
     have h2:=(compact_strict (isort_sorted P)).2;rw [← hil2.h,h] at h2
     cases P with
     | nil=>exact hP rfl
     | cons a P =>
      have:=(h2 a).2 ((isort_perm _).mem_iff.2 List.mem_cons_self);simp at this
    clear hs2 hs5 hs4 hs3 hget hv1;(repeat' first|simp [*,initEnv]|(apply wpIf_two<;>intro _ h<;>try simp [-Nat.le_zero_eq] at h)|(show wpE 0 (doAppend ..) ..;refine wpE_appW ?_)|(refine after_intro fun v2 H2 hv2 hnx2 hget2 hnew2 hone2 hcel2=>?_))
    refine wpE_run (n:=n+51) (caps:=[]) sh_sortC ⟨_,_,runSortC _ _ _ _ hs1,?_⟩
    clear hs1;(repeat' first|simp [*,initEnv]|(apply wpIf_two<;>intro _ h<;>try simp [-Nat.le_zero_eq] at h)|(show wpE 0 (doAppend ..) ..;refine wpE_appW ?_)|(refine after_intro fun v2 H2 hv2 hnx2 hget2 hnew2 hone2 hcel2=>?_))
    refine wpE_run (n:=n+51) (caps:=[]) sh_compactC ?_
    refine compact_call (fun _ _=>rfl) g73 hget1 (by omega) il.symm ?_
    intro v3 H3 hv3 hnx3 hoth3 hnam3;rw [← hil2.h] at hv3;have hsc:=hv3.cells;have hone3:AV.one v3=true∧AV.cells v3=[v3]:=by
     obtain ⟨_,_,rfl,_⟩:=hv3;exact ⟨rfl,rfl⟩
    have ho3a:=hone3.1;have ho3b:=hone3.2;have hv3H:=Hide.mk hv3;have hidlH:=Hide.mk hidl;have hidnH:=Hide.mk hidn;have hnil3:isNil .slice v3=some false:=by
     obtain ⟨_,_,rfl,_⟩:=hv3;rfl
    clear hnx3 hoth3 hnam3 hget1 hv3 hone3 hidl hidn il;(repeat' first|simp [*,initEnv]|(apply wpIf_two<;>intro _ h<;>try simp [-Nat.le_zero_eq] at h)|(show wpE 0 (doAppend ..) ..;refine wpE_appW ?_)|(refine after_intro fun v2 H2 hv2 hnx2 hget2 hnew2 hone2 hcel2=>?_))
    refine wpE_run (n:=n+51) (caps:=[]) sh_cloneC ?_
    refine clone_call (b:=false) (fun _=>rfl) g74 hsc hnil3 (fun h=>by cases h) (fun _=>rfl) (by decide) (fun _=>rfl) (by have:=hidlH.h;simp [maxCells];omega) ?_
    intro v4 H4 hv4 hnil4 hnx4 hget4 hnew4;obtain ⟨cid,rfl,hg4⟩:=hv4.row hidnH.h;have hv5:Hide (HeadV intF 1 H4 v3 ids):=⟨by
     obtain ⟨a,b,h1,h2⟩:=hv3H.h;exact ⟨a,b,h1,by rw [hget4 a (nx_of_get h2)];exact h2⟩⟩
    have hil60:ids.length≤60:=by have:=hidlH.h;omega
    clear hv4 hnil4 hnx4 hget4 hnew4 hv3H hsc hnil3 hP hil2 hidlH hidnH hpl;(repeat' first|simp [*,initEnv]|(apply wpIf_two<;>intro _ h<;>try simp [-Nat.le_zero_eq] at h)|(show wpE 0 (doAppend ..) ..;refine wpE_appW ?_)|(refine after_intro fun v2 H2 hv2 hnx2 hget2 hnew2 hone2 hcel2=>?_))
    refine wp_loopF [(2,3),(6,6),(10,13),(50,71)] (fun (i:Nat) env H=>env 50=.pure (.int .i64 i)∧i≤ids.length∧H.get cid=.cells true (rowOf intF ids)∧∃ k:List Int,Hide (HeadV intF 1 H (env 6) (k++ids.drop i)∧(k++ids.drop i).Pairwise (· < ·)∧coreK E k (ids.drop i)=R∧k.length≤i)) (fun i=>ids.length - i) 0 ?_ ?_ ?_ ?_
    ·decide
    ·exact ⟨by simp,by omega,hg4,[],⟨by simpa using hv5.h,by simpa using hstr.h,by simpa using hRH.h,Nat.le_refl _⟩⟩
    ·simp only [loopFuel];omega
    clear hv5 hg4 ho3a ho3b;rintro i env H5 ⟨g50,hi,hgc,k,hk⟩;generalize g6:env 6=V at *
    by_cases hlt:i < ids.length
    ·have w1:IntKind.i64.wrap ((i:Int)+1)=(i+1:Nat):=by rw [wrap64 (by omega) (by omega)];omega
     have hltI:(i:Int) < ids.length:=by omega
     have hdr:ids.drop i=ids[i]::ids.drop (i+1):=List.drop_eq_getElem_cons hlt;obtain ⟨x,hx⟩:∃ x,ids[i]=x:=⟨_,rfl⟩
     obtain ⟨t,ht⟩:∃ t,ids.drop (i+1)=t:=⟨_,rfl⟩
     have htl:t.length+(i+1)=ids.length:=by rw [← ht,List.length_drop];omega
     rw [hdr,hx,ht] at hk;obtain ⟨lid,rest,rfl,hgl⟩:=hk.h.1;obtain ⟨D',e',hf',hE'⟩:=hsubH.h (k++t);have hkl:=hk.h.2.2.2;have hpw:=hk.h.2.1;have hkK:=Hide.mk hk.h.2.2.1;have hpwH:=Hide.mk hpw;have hdf:(∀ a∈k,a≠x)∧∀ a∈t,a≠x:=by
      rw [List.pairwise_append,List.pairwise_cons] at hpw;exact ⟨fun a ha=>by have:=hpw.2.2 a ha x List.mem_cons_self;omega,fun a ha=>by have:=hpw.2.1.1 a ha;omega⟩
     have hlidn:=nx_of_get hgl;have hcidn:=nx_of_get hgc;have hglH:=Hide.mk hgl;have hgcH:=Hide.mk hgc;have htH:=Hide.mk ht;clear hk hpw hdr hgl ht;have hL:(k++x::t).length=k.length+t.length+1:=by simp;omega
     obtain ⟨L,hL0⟩:∃ L,(k++x::t).length=L:=⟨_,rfl⟩
     have hLk:L=k.length+t.length+1:=by omega
     have hL60:L < 1000:=by omega
     rw [hL0] at g6;have hneb:H5.nx≠lid:=by omega
     have hnec:H5.nx≠cid:=by omega
     have hL0H:=Hide.mk hL0;have hLkH:=Hide.mk hLk;clear hL hL0 hLk;(repeat' first|simp [*,initEnv,intF]|(apply wpIf_two<;>intro _ h<;>try simp [-Nat.le_zero_eq] at h)|(show wpE 0 (doAppend ..) ..;refine wpE_appW ?_)|(refine after_intro fun v2 H2 hv2 hnx2 hget2 hnew2 hone2 hcel2=>?_))
     refine wpE_run (n:=n+51) (caps:=[]) sh_cloneC ?_
     refine clone_call (b:=false) (f:=intF) (sz:=1) (l:=k++x::t) (fun _=>rfl) g74 ?_ rfl (fun h=>by cases h) (fun _=>rfl) (by decide) (fun _=>rfl) (by rw [hL0H.h];simp [maxCells];omega) ?_
     ·exact HeadV.cells ⟨lid,rest,by rw [hL0H.h],by rw [get_set_ne (Ne.symm hneb),get_alloc_lt hlidn];exact hglH.h⟩
     intro v6 H6 hv6 hnil6 hnx6 hget6 hnew6;obtain ⟨rid,rfl,hgr⟩:=hv6.row (by simp);rw [hL0H.h];have hrid:H5.nx+1≤rid:=by have:=hnew6 rid ⟨_,_,_,rfl⟩;simpa using this
     have hgb:H6.get H5.nx=.cells true [.pure (.int .i64 x)]:=by rw [hget6 _ (by simp),get_set_own (by simp)]
     have hlow:∀ c,c < H5.nx→H6.get c=H5.get c:=fun c hc=>by rw [hget6 _ (by simp;omega),get_set_ne (by omega),get_alloc_lt hc]
     have hridn:=nx_of_get hgr;have hlowH:=Hide.mk hlow;have hgrH:=Hide.mk hgr;clear hv6 hnil6 hnx6 hget6 hnew6 hlow hgr;(repeat' first|simp [*,initEnv,funcV,puresL]|(apply wpIf_two<;>intro _ h<;>try simp [-Nat.le_zero_eq] at h)|(show wpE 0 (doAppend ..) ..;refine wpE_appW ?_)|(refine after_intro fun v2 H2 hv2 hnx2 hget2 hnew2 hone2 hcel2=>?_));have hfrB:∀ (H2:Heap),H2.get H5.nx=H6.get H5.nx→FrzK H2 true 11 (.box H5.nx 0) (.ptr true [.int .i64 x] 0):=fun H2 h2=>.boxC (h2.trans hgb) (FrzL.pures (n:=9) [.int .i64 x]);have hne5:H5.nx≠rid:=by omega
     refine wpE_run (n:=n+51) (caps:=[]) sh_delC ?_
     refine delf_call (n:=n+51) (q:=fun a=>decide (a=x)) (ke:=k) (t:=t) (x:=x) hgrH.h hLkH.h hL60 (fun a ha=>by simpa using hdf.2 a ha) ?_ (fun H2 a h2=>?_) ?_
     ·have hidx:=indexFunc_call (n:=n+50) (f:=intF) (sz:=1) (g:=false) (p:=.func 76 [.ptr true [.int .i64 x] 0]) (q:=fun a=>decide (a=x)) (s:=Sl.mk true (k++x::t)) (ext_none 125) (fun _ _=>rfl) g125 (fun _=>rfl) (by simp;omega) (fun H a ha=>⟨.pure (.int .i64 a),rfl,call_pureC (G:=G) (n:=n+50) (H:=H) (caps:=[.ptr true [.int .i64 x] 0]) (ps:=[.int .i64 a]) sh76 (e76 (n+49) a x true)⟩);rw [Sl.xs_mk,idx_mid hdf.1,Nat.zero_add] at hidx
      refine doCall_own sh_idxF (.cons ?_ (.cons (.func (n:=11) (.cons (hfrB H6 rfl) .nil)) .nil)) hidx rfl
      have:=HeadV.frz (k:=true) (n:=10) (f:=intF) (sz:=1) (fun _=>rfl) (H:=H6) (v:=.row rid 1 0 L) (l:=k++x::t) ⟨rid,[],by rw [hL0H.h],by rw [List.append_nil];exact hgrH.h⟩;exact this
     ·exact doCall_clo sh76 (.cons (.pure (n:=11) _) (.cons (.boxC (n:=11) ((h2 _ hne5).trans hgb) (FrzL.pures (n:=10) [.int .i64 x])) .nil)) (e76 (n+50) a x true) rfl
     intro H7 hv7 hnx7 hoth7;have hv7H:=Hide.mk hv7;have hothH:=Hide.mk hoth7;obtain ⟨M,hM⟩:∃ M,L - 1=M:=⟨_,rfl⟩
     have hMl:(k++t).length=M:=by rw [← hM,hLkH.h,List.length_append];omega
     have hM60:M < 1000:=by omega
     have h7r:∃ rest7,H7.get rid=.cells true (rowOf intF (k++t)++rest7):=by
      obtain ⟨r',rest7,h8,h9⟩:=hv7;simp only [AV.row.injEq] at h8;obtain ⟨rfl,_⟩:=h8;exact ⟨rest7,h9⟩
     obtain ⟨rest7,h7g⟩:=h7r;have h7gH:=Hide.mk h7g;have hMlH:=Hide.mk hMl;have hrid7:rid < H7.nx:=nx_of_get h7g;have hlow7:Hide (∀ c,c < H5.nx→H7.get c=H5.get c):=⟨fun c hc=>by rw [hoth7 c (by omega)];exact hlowH.h c hc⟩
     have hnx57:H5.nx < H7.nx:=by omega
     have hq:=fun H=>call_pureC (G:=G) (n:=n+52) (H:=H) (caps:=[]) (ps:=[.agg (pickP (onlyB (k++t)) ⟨bs,fs⟩).cells]) sh77 (e77 (n+1) (pickP (onlyB (k++t)) ⟨bs,fs⟩) (pickP_ok okH.h) D' e' hf');have hpk:=e78 (n+48) ⟨bs,fs⟩ (.func 79 [.ptr true [(Sl.mk true (k++t)).pv intF 1] 0]) (onlyB (k++t)) (keep_core (n:=n+48) (by rw [Sl.xs_mk,hMl];exact hM60)) (by have:=okH.h.nb;simp only at this ⊢;omega) (by simp only;omega);have hfz:Hide (∀ Hy:Heap,Hy.get rid=H7.get rid→FrzK Hy true 10 (.row rid 1 0 M) ((Sl.mk true (k++t)).pv intF 1)):=⟨fun Hy h=>by
      have:=HeadV.frz (k:=true) (n:=8) (f:=intF) (sz:=1) (fun _=>rfl) (H:=Hy) (v:=.row rid 1 0 M) (l:=k++t) ⟨rid,rest7,by rw [hMl],by rw [h];exact h7g⟩;exact this⟩
     have hcold:=pick_cold (onlyB (k++t)) ⟨bs,fs⟩;obtain ⟨⟨qb,qf⟩,hqq⟩:∃ q,pickP (onlyB (k++t)) ⟨bs,fs⟩=q:=⟨_,rfl⟩
     rw [hqq] at hq hpk hcold;have hpkH:=Hide.mk hpk;have hcoldH:=Hide.mk hcold;simp only [Problem.cells,FoundD.cells,List.map_cons,List.map_nil] at hq;obtain ⟨dE,dS⟩:=D';simp only at hq;obtain ⟨sD',hsD'⟩:∃ x,Sl.of dS=x:=⟨_,rfl⟩
     rw [hsD'] at hq;rw [hM];have herr:=find_err hf';have hfin:Hide (∀ c,c < H7.nx→∀ o1 o2 o3 o4,((((H7.alloc o1).set H7.nx o2).alloc o3).set (H7.nx+1) o4).get c=H7.get c):=⟨fun c hc o1 o2 o3 o4=>by rw [get_set_ne (by omega),get_alloc_lt (by rw [nx_set,nx_alloc];omega),get_set_ne (by omega),get_alloc_lt hc]⟩
     have hEH:=Hide.mk hE';clear hv7 hoth7 hfrB hgb hLkH hrid hridn hlowH hgrH hne5 hnx7 hM hMl h7g hqq hpk hcold hsD';(repeat' first|simp [*,initEnv,funcV,puresL]|(apply wpIf_two<;>intro _ h<;>try simp [-Nat.le_zero_eq] at h)|(show wpE 0 (doAppend ..) ..;refine wpE_appW ?_)|(refine after_intro fun v2 H2 hv2 hnx2 hget2 hnew2 hone2 hcel2=>?_))
     refine wpE_own (n:=n+52) (caps:=[]) (ps:=[.agg (⟨bs,fs⟩:Problem).cells,.func 79 [.ptr true [(Sl.mk true (k++t)).pv intF 1] 0]]) (r:=.agg (⟨qb,qf⟩:Problem).cells) sh78 ?_ hpkH.h hcoldH.h ?_
     ·exact .cons (.pure (n:=11) _) (.cons (.func (n:=11) (.cons (.boxC (n:=10) (own:=true) (cs:=[.row rid 1 0 M]) (by rw [get_set_own (by simp)]) (.cons (hfz.h _ (by rw [get_set_ne (by omega),get_alloc_lt hrid7])) .nil)) .nil)) .nil)
     have hkK2:=hkK.h;simp only [coreK] at hkK2;clear hkK hfz hpkH hcoldH;rcases herr with rfl|rfl
     ·cases dE with
      | true =>
       have h9:E (k++t)=9:=hEH.h;rw [h9,if_neg (by decide),if_pos rfl] at hkK2;have hkK3:=Hide.mk hkK2;clear hkK2 h9 hEH;(repeat' first|simp [*,initEnv]|(apply wpIf_two<;>intro _ h<;>try simp [-Nat.le_zero_eq] at h)|(show wpE 0 (doAppend ..) ..;refine wpE_appW ?_)|(refine after_intro fun v2 H2 hv2 hnx2 hget2 hnew2 hone2 hcel2=>?_))
       refine ⟨i+1,by omega,by omega,by omega,?_,k,⟨⟨rid,rest7,by rw [htH.h,hMlH.h],?_⟩,?_,?_,by omega⟩⟩
       ·rw [hfin.h cid (by omega),hlow7.h cid hcidn];exact hgcH.h
       ·rw [hfin.h rid hrid7,htH.h];exact h7gH.h
       ·rw [htH.h];exact hpwH.h.sublist (List.Sublist.append_left (List.sublist_cons_self _ _) _)
       ·rw [htH.h];exact hkK3.h
      | false =>
       have h9:E (k++t)=0:=hEH.h;rw [h9,if_neg (by decide),if_neg (by decide)] at hkK2;have hkK3:=Hide.mk hkK2;have happ:Hide ((k++[x])++t=k++x::t):=⟨by simp⟩
       clear hkK2 h9 hEH;(repeat' first|simp [*,initEnv]|(apply wpIf_two<;>intro _ h<;>try simp [-Nat.le_zero_eq] at h)|(show wpE 0 (doAppend ..) ..;refine wpE_appW ?_)|(refine after_intro fun v2 H2 hv2 hnx2 hget2 hnew2 hone2 hcel2=>?_))
       refine ⟨i+1,by omega,by omega,by omega,?_,k++[x],⟨⟨lid,rest,by rw [htH.h,happ.h,hL0H.h],?_⟩,?_,?_,by rw [List.length_append];simp;omega⟩⟩
       ·rw [hfin.h cid (by omega),hlow7.h cid hcidn];exact hgcH.h
       ·rw [hfin.h lid (by omega),hlow7.h lid hlidn,htH.h,happ.h];exact hglH.h
       ·rw [htH.h,happ.h];exact hpwH.h
       ·rw [htH.h];exact hkK3.h
     ·have h9:E (k++t)=2:=hEH.h;rw [h9,if_pos rfl] at hkK2;subst hkK2;clear h9 hEH;(repeat' first|simp [*,initEnv,afterK]|(apply wpIf_two<;>intro _ h<;>try simp [-Nat.le_zero_eq] at h)|(show wpE 0 (doAppend ..) ..;refine wpE_appW ?_)|(refine after_intro fun v2 H2 hv2 hnx2 hget2 hnew2 hone2 hcel2=>?_))
    ·have hil:i=ids.length:=by omega
     subst hil;rw [List.drop_length,List.append_nil] at hk;have hRk:R=some k:=by rw [← hk.h.2.2.1];rfl
     subst hRk;obtain ⟨lid,rest,rfl,hgl⟩:=hk.h.1;have hz:=HeadV.frz (k:=false) (n:=9) (f:=intF) (sz:=1) (fun _=>rfl) hk.h.1;have hz2:=Hide.mk hz;clear hk hz
     cases k with
     | nil=>(repeat' first|simp [*,initEnv,afterK]|(apply wpIf_two<;>intro _ h<;>try simp [-Nat.le_zero_eq] at h)|(show wpE 0 (doAppend ..) ..;refine wpE_appW ?_)|(refine after_intro fun v2 H2 hv2 hnx2 hget2 hnew2 hone2 hcel2=>?_))
     | cons a k =>
      obtain ⟨m,hm⟩:∃ m,(a::k).length=m:=⟨_,rfl⟩
      rw [hm] at g6;have hne:¬ (m:Int)=0:=by rw [← hm,List.length_cons];omega
      obtain ⟨ids',hz3⟩:=hz2.h;obtain ⟨sl,hsl⟩:∃ sl,PV.slice false 1 ((a::k).map intF)=sl:=⟨_,rfl⟩
      have hslH:Hide (sl=(Sl.mk false (a::k)).pv intF 1):=⟨hsl.symm⟩
      have hneN:¬ m=0:=by omega
      unfold afterK;rw [hm,hsl] at hz3;clear hm hz2 hgl hsl;(repeat' first|simp [*,initEnv]|(apply wpIf_two<;>intro _ h<;>try simp [-Nat.le_zero_eq] at h)|(show wpE 0 (doAppend ..) ..;refine wpE_appW ?_)|(refine after_intro fun v2 H2 hv2 hnx2 hget2 hnew2 hone2 hcel2=>?_));exact hslH.h
section
variable {α:Type} {f:α→List PV} {sz:Nat} {H:Heap} {l:List α}
theorem wpE_appendEr {bytes pre id:Nat} {b:AV} {k:AV→Heap→Prop} {u} (hb:sliceCells H sz b=some (rowOf f l,l.length)) (hid:H.get id=.cells true []) (hone:∀ a,(f a).all PV.one=true)
  (hm:l.length*sz≤maxCells∧l.length*bytes≤maxCells)
  (hk:∀ j H',H'.get j=.cells true (rowOf f l)→H.nx≤H'.nx→(∀ i,i < H.nx→H'.get i=H.get i)→(j=id∨H.nx≤j)→k (.row j sz 0 l.length) H'):wpE pre (doAppendE H sz bytes (.void id sz) b) H k u:=by
 have ho:=rowOf_one' hone l;simp only [doAppendE,hb,ho];simp only [Bool.not_true,Bool.false_eq_true,if_false,if_true]
 by_cases h0:l.length=0
 ·have hl:l=[]:=List.eq_nil_of_length_eq_zero h0;subst hl;rw [if_pos (show ([]:List α).length=0 from rfl),wpE_val];exact hk id _ (by rw [hid];rfl) (Nat.le_refl _) (fun _ _=>rfl) (.inl rfl)
 ·rw [if_neg h0,if_pos hm,wpE_new];exact hk H.nx _ (get_alloc_nx _) (Nat.le_succ _) (fun i hi=>get_alloc_lt hi) (.inr (Nat.le_refl _))
theorem wpE_appendR {bytes id n:Nat} {b:AV} {m:List α} {k:AV→Heap→Prop} {u} (hid:H.get id=.cells true (rowOf f l)) (hn:n=l.length) (hf:∀ a,(f a).length=sz) (h0:0 < sz) (hone:∀ a,(f a).all PV.one=true)
  (hb:sliceCells H sz b=some (rowOf f m,m.length)) (hm:(l.length+m.length)*sz≤maxCells∧(l.length+m.length)*bytes≤maxCells)
  (hk:∀ j H',H'.get j=.cells true (rowOf f (l++m))→H.nx≤H'.nx→(∀ i,i < H.nx→i≠id→H'.get i=H.get i)→(j=id∨H.nx≤j)→k (.row j sz 0 (l++m).length) H'):wpE 0 (doAppend H sz bytes (.row id sz 0 n) b) H k u:=by
 subst hn;have ho:=rowOf_one' hone m;have hlen:=rowOf_length hf l;have hidn:=nx_of_get hid
 by_cases hm0:m.length=0
 ·have hl:m=[]:=List.eq_nil_of_length_eq_zero hm0;subst hl;have:doAppend H sz bytes (.row id sz 0 l.length) b=some (.upd (.row id sz 0 l.length) (H.set id (.cells true (rowOf f l)))):=by
   simp only [doAppend,hb,ho,hid,rowOf_nil];simp only [Bool.not_true,Bool.false_eq_true,if_false,if_true,List.all_nil,List.length_nil,Nat.add_zero,Nat.zero_mul,Nat.zero_add,List.append_nil];rw [if_pos (by rw [hlen];exact Nat.le_refl _),List.take_of_length_le (by rw [hlen];exact Nat.le_refl _),List.drop_eq_nil_of_le (by rw [hlen];exact Nat.le_refl _),List.append_nil]
  rw [this,wpE_upd];have hk':=hk id (H.set id (.cells true (rowOf f l))) (by rw [get_set_own hidn,List.append_nil]) (Nat.le_refl _) (fun i hi hn=>get_set_ne hn) (.inl rfl);rw [List.append_nil] at hk';exact hk'
 ·have hnot:¬ (0*sz+(l.length+m.length)*sz≤(rowOf f l).length):=by
   rw [hlen,Nat.add_mul];have:=Nat.mul_pos (Nat.pos_of_ne_zero hm0) h0;omega
  have:doAppend H sz bytes (.row id sz 0 l.length) b=some (.upd (.row H.nx sz 0 (l.length+m.length)) ((H.set id .dead).alloc (.cells true (rowOf f l++rowOf f m)))):=by
   simp only [doAppend,hb,ho,hid];simp only [Bool.not_true,Bool.false_eq_true,if_false,if_true];rw [if_neg hnot];simp only [true_and];rw [if_pos ⟨hlen.symm,hm⟩]
  rw [this,wpE_upd];have hnx:(H.set id .dead).nx=H.nx:=rfl;have hk':=hk H.nx ((H.set id .dead).alloc (.cells true (rowOf f l++rowOf f m))) (by rw [← hnx,get_alloc_nx,rowOf_append]) (Nat.le_succ _) (fun i hi hn=>by rw [get_alloc_lt (by exact hi),get_set_ne hn]) (.inr (Nat.le_refl _));rw [List.length_append] at hk';exact hk'
end
theorem sub_hi {s:Sl Int} {k:Nat}:(s.sub 0 k).xs=s.xs.take k:=by
 cases s<;>simp [Sl.sub]
theorem sub_lo {s:Sl Int} {k:Nat}:(s.sub k s.xs.length).xs=s.xs.drop k:=by
 cases s with
 | nil=>simp [Sl.sub]
 | mk b l =>
  simp only [Sl.sub,Sl.xs_mk];rw [List.take_length]
structure LeftV (H:Heap) (V:AV) (l:List Int) (S:Sl Int):Prop where
 len:lenSlV V=some (.val (.pure (.int .i64 l.length)))
 hi:∀ H' k,(∀ id,Names V id→H'.get id=H.get id)→k≤l.length→∃ b,sliceV H' 1 V none (some (.pure (.int .i64 (k:Nat))))=some (.val b)∧sliceCells H' 1 b=some (rowOf intF (l.take k),(l.take k).length)
 lo:∀ H' k,(∀ id,Names V id→H'.get id=H.get id)→k≤l.length→∃ b,sliceV H' 1 V (some (.pure (.int .i64 (k:Nat)))) none=some (.val b)∧sliceCells H' 1 b=some (rowOf intF (l.drop k),(l.drop k).length)
 lt:∀ id,Names V id→id < H.nx
 frz:∀ H',(∀ id,Names V id→H'.get id=H.get id)→FrzK H' false 11 V (S.pv intF 1)
theorem LeftV.keep {H H':Heap} {V:AV} {l:List Int} {S:Sl Int} (h:LeftV H V l S) (hs:∀ id,Names V id→H'.get id=H.get id) (hn:H.nx≤H'.nx):LeftV H' V l S :=
 ⟨h.len,fun H2 k h2=>h.hi H2 k fun id hi=>(h2 id hi).trans (hs id hi),fun H2 k h2=>h.lo H2 k fun id hi=>(h2 id hi).trans (hs id hi),fun id hi=>Nat.lt_of_lt_of_le (h.lt id hi) hn,fun H2 h2=>h.frz H2 fun id hi=>(h2 id hi).trans (hs id hi)⟩
theorem LeftV.pure {H:Heap} (s:Sl Int):LeftV H (.pure (s.pv intF 1)) s.xs s:=by
 refine ⟨by cases s<;>simp,fun H' k _ hk=>⟨_,sliceV_sl_hi hk,?_⟩,fun H' k _ hk=>⟨_,sliceV_sl_lo hk,?_⟩,fun id ⟨_,_,_,h⟩=>by simp at h,fun _ _=>.pure _⟩
 ·rw [sliceCells_sl' (f:=intF) (sz:=1) (fun _=>rfl),sub_hi]
 ·rw [sliceCells_sl' (f:=intF) (sz:=1) (fun _=>rfl),sub_lo]
theorem LeftV.row {H:Heap} {id m:Nat} {l:List Int} (hg:H.get id=.cells true (rowOf intF l)) (hm:m=l.length):LeftV H (.row id 1 0 m) l (.mk false l):=by
 subst hm;have hN:Names (.row id 1 0 l.length) id:=⟨_,_,_,rfl⟩
 refine ⟨rfl,fun H' k hs hk=>⟨_,sliceV_row_hi (by rw [hs id hN,hg];rfl) hk,row_take ((hs id hN).trans hg) hk⟩,fun H' k hs hk=>⟨_,sliceV_row_lo (by rw [hs id hN,hg];rfl) hk,?_⟩,fun j ⟨_,_,_,h⟩=>by simp at h;rw [← h.1];exact nx_of_get hg,fun H' hs=>row_res (n:=9) (fun _=>rfl) ((hs id hN).trans hg) rfl⟩
 by_cases hz:k≠0∧l.length=k
 ·rw [if_pos hz,List.drop_eq_nil_of_le (by omega)];rfl
 ·rw [if_neg hz,Nat.zero_add];exact row_drop ((hs id hN).trans hg) hk rfl
structure CoreRIn (p:Problem) (E0:Int) (E:List Int→Int):Prop where
 top:∃ nS hS oS,SolveOut p E0 nS hS oS
 sub:CheckOk p→∀ o,∃ nS hS oS,SolveOut (pickR (onlyB o) p) (E o) nS hS oS
def leftS (ids l:List Int):Sl Int:=if l.length < ids.length then .mk false l else .of l
def resS (ids:List Int) (R:Option (List Int)):Sl Int:=match R with
 | none=>.nil
 | some l=>leftS ids l
def resE (R:Option (List Int)):Int:=match R with
 | none=>2
 | some l=>0
def coreRS (E0:Int) (E:List Int→Int) (ids:List Int):Sl Int:=if E0=9 then resS ids (coreK E [] ids) else .nil
theorem coreRS_xs (E0:Int) (E:List Int→Int) (ids:List Int):(coreRS E0 E ids).xs=(coreF E0 E ids).1:=by
 unfold coreRS coreF resS leftS
 by_cases h9:E0=9
 ·subst h9;rw [if_pos rfl,if_neg (by decide),if_neg (by decide)]
  cases coreK E [] ids with
  | none=>rfl
  | some l=>simp only;split<;>simp
 ·rw [if_neg h9]
  by_cases h0:E0=0
  ·rw [if_pos h0];rfl
  ·rw [if_neg h0,if_pos h9];rfl
theorem solve9_ok {p:Problem} {nS:Sl Int} {hS:Sl Box} {oS:Sl Pt} (h:SolveOut p 9 nS hS oS):CheckOk p:=by
 rcases h with ⟨_,h9,_⟩|⟨h0,_⟩|⟨h0,_⟩|⟨h0,_⟩
 ·exact absurd h9.symm (check_ne9 p)
 all_goals exact check_ok.1 h0
theorem pickR_cold {p:Problem} (hb:p.boxes.cold=p.boxes) (q:Int→Bool):(PV.agg (pickR q p).cells).cold=true:=by
 have:pickR q p=pickP q p:=by unfold pickR pickP;rw [hb]
 rw [this];exact pick_cold q p
theorem sh36:G.shared 36=false:=by decide
theorem e36 (n:Nat) (p:Problem) (E0:Int) (E:List Int→Int) (h:CoreRIn p E0 E) (hb:p.boxes.cold=p.boxes):callP G (n+11) 36 [.agg p.cells]=some (.tup [(coreRS E0 E (idsP p.facts.xs)).pv intF 1,.int .i64 (coreF E0 E (idsP p.facts.xs)).2]):=by
 refine callP_of (ext_none _) rfl g36 rfl ?_
 obtain ⟨⟨nS,hS,oS,hs⟩,hsub⟩:=h;have hn:=fun H=>call_pureC (G:=G) (n:=n+10) (H:=H) (caps:=[]) (ps:=[.agg p.cells]) sh33 (e33 n p E0 nS hS oS hs);simp only [Problem.cells,List.map_cons,List.map_nil] at hn
 by_cases h0:E0=0
 ·subst h0;have hr1:coreRS 0 E (idsP p.facts.xs)=.nil:=rfl;have hr2:(coreF 0 E (idsP p.facts.xs)).2=5:=rfl;rw [hr1,hr2];clear hr1 hr2 hs hsub hb;(repeat' first|simp [*,initEnv,c36,Problem.cells]|(apply wpIf_two<;>intro _ h<;>try simp [-Nat.le_zero_eq] at h))
 by_cases h9:E0=9
 case neg =>
  have hr1:coreRS E0 E (idsP p.facts.xs)=.nil:=by unfold coreRS;rw [if_neg h9]
  have hr2:(coreF E0 E (idsP p.facts.xs)).2=E0:=by unfold coreF;rw [if_neg h0,if_pos h9]
  rw [hr1,hr2];clear hr1 hr2 hs hsub hb;(repeat' first|simp [*,initEnv,c36,Problem.cells]|(apply wpIf_two<;>intro _ h<;>try simp [-Nat.le_zero_eq] at h))
 case pos =>
  subst h9;have ok:=solve9_ok hs;have hi:=fun H=>call_pureC (G:=G) (n:=n+10) (H:=H) (caps:=[]) (ps:=[.agg p.cells]) sh81 (e81 (n+8) p (fun f hf=>((formedB_iff f _).1 (ok.fact f hf)).1.1) (by have:=ok.nf;omega));simp only [Problem.cells,List.map_cons,List.map_nil] at hi;have hl60:=Nat.le_trans (idsP_len p.facts.xs) ok.nf;obtain ⟨ids,hids⟩:∃ ids,idsP p.facts.xs=ids:=⟨_,rfl⟩
  obtain ⟨R,hR⟩:∃ R,coreK E [] ids=R:=⟨_,rfl⟩
  have hr1:coreRS 9 E ids=resS ids R:=by rw [← hR];rfl
  have hr2:(coreF 9 E ids).2=resE R:=by
   rw [← hR];unfold coreF resE;rw [if_neg (by decide),if_neg (by decide)]
   cases coreK E [] ids<;>rfl
  rw [hids] at hi hl60;rw [hids,hr1,hr2];have hRH:=Hide.mk hR;have hsubH:=Hide.mk (hsub ok);have okH:=Hide.mk ok;have hbH:=Hide.mk hb;have nf:=ok.nf;obtain ⟨bs,fs⟩:=p;simp only at nf;obtain ⟨S0,hS0⟩:∃ S0,Sl.of ids=S0:=⟨_,rfl⟩
  have hS0x:S0.xs=ids:=by rw [← hS0,Sl.xs_of]
  rw [hS0] at hi;have hlv:Hide (∀ H,LeftV H (.pure (S0.pv intF 1)) ids (leftS ids ids)):=⟨fun H=>by
   have:=LeftV.pure (H:=H) S0;rw [hS0x] at this;have e:leftS ids ids=S0:=by unfold leftS;rw [if_neg (Nat.lt_irrefl _),hS0]
   rw [e];exact this⟩
  clear hs hsub ok hids hR hr1 hr2 hb hS0 hS0x h0;(repeat' first|simp [*,initEnv,c36,Problem.cells]|(apply wpIf_two<;>intro _ h<;>try simp [-Nat.le_zero_eq] at h))
  refine wp_loopF [(2,3),(5,8),(21,47)] (fun (s:List Int×List Int) env H=>env 6=.pure (.int .i64 (s.1.length:Nat))∧Hide (LeftV H (env 5) (s.1++s.2) (leftS ids (s.1++s.2))∧coreK E s.1 s.2=R∧s.1.length+s.2.length≤ids.length)) (fun s=>s.2.length) ([],ids) ?_ ?_ ?_ ?_
  ·decide
  ·exact ⟨by simp,⟨by simpa using hlv.h _,hRH.h,by simp⟩⟩
  ·simp only [loopFuel];omega
  rintro ⟨k,t⟩ env H ⟨g6,hk⟩;simp only at g6 hk;generalize g5:env 5=V at *;have hlen:=hk.h.1.len;have hkt:=hk.h.2.2
  cases t with
  | nil =>
   rw [List.append_nil] at hlen hk;have hRk:R=some k:=by rw [← hk.h.2.1];rfl
   subst hRk;obtain ⟨ids',hz⟩:=hk.h.1.frz H fun _ _=>rfl;clear hk;have hrs:resS ids (some k)=leftS ids k:=rfl;have hre:resE (some k)=0:=rfl;rw [hrs,hre];clear hrs hre;generalize leftS ids k=S at *;(repeat' first|simp [*,initEnv]|(apply wpIf_two<;>intro _ h<;>try simp [-Nat.le_zero_eq] at h))
  | cons x t =>
   have hLV:=Hide.mk hk.h.1;have hkK:=hk.h.2.1;have htk:(k++x::t).take k.length=k:=by simp
   have htd:(k++x::t).drop (k.length+1)=t:=by simp
   obtain ⟨N,hN⟩:∃ N,(k++x::t).length=N:=⟨_,rfl⟩
   have hN2:N=k.length+t.length+1:=by rw [← hN];simp;omega
   rw [hN] at hlen;have hkt2:k.length+t.length+1≤ids.length:=by simpa [Nat.add_assoc] using hkt
   have hltI:(k.length:Int) < N:=by omega
   have hltN:k.length < N:=by omega
   have w1:IntKind.i64.wrap ((k.length:Int)+1)=(k.length+1:Nat):=by rw [wrap64 (by omega) (by omega)];omega
   obtain ⟨b1,hb1,hb1c⟩:=hLV.h.hi (H.alloc (.cells true [])) k.length (fun id hn=>get_alloc_lt (hLV.h.lt id hn)) (by omega);rw [htk] at hb1c;have hb1cH:=Hide.mk hb1c;obtain ⟨nS2,hS2,oS2,hs2⟩:=hsubH.h (k++t);have hsol:=fun H=>call_pureC (G:=G) (n:=n+10) (H:=H) (caps:=[]) (ps:=[.agg (pickR (onlyB (k++t)) ⟨bs,fs⟩).cells]) sh33 (e33 n (pickR (onlyB (k++t)) ⟨bs,fs⟩) (E (k++t)) nS2 hS2 oS2 hs2);have honly:=e41 (n+8) ⟨bs,fs⟩ (Sl.mk true (k++t)) (by rw [Sl.xs_mk,List.length_append];omega) (by simp only;omega);rw [Sl.xs_mk] at honly;have hcold:=pickR_cold (p:=⟨bs,fs⟩) hbH.h (onlyB (k++t));obtain ⟨⟨qb,qf⟩,hqq⟩:∃ q,pickR (onlyB (k++t)) ⟨bs,fs⟩=q:=⟨_,rfl⟩
   rw [hqq] at hsol honly hcold;simp only [Problem.cells,List.map_cons,List.map_nil] at hsol;have honlyH:=Hide.mk honly;have hcoldH:=Hide.mk hcold;have hNH:=Hide.mk hN;have hlvt:=Hide.mk hLV.h.lt;clear hk hb1c htk hN hN2 hkt hs2 hqq honly hcold hn hi hlv;(repeat' first|simp [*,initEnv]|(apply wpIf_two<;>intro _ h<;>try simp [-Nat.le_zero_eq] at h))
   refine wpE_appendEr (f:=intF) (sz:=1) (l:=k) hb1cH.h (get_alloc_nx _) (fun _=>rfl) (by simp [maxCells];omega) ?_
   intro j4 H4 hj4 hnx4 hs4 hjj4;have hV4:Hide (∀ id,Names V id→H4.get id=H.get id):=⟨fun id hn=>by
    have h1:=hlvt.h id hn;rw [hs4 id (by rw [nx_alloc];omega),get_alloc_lt h1]⟩
   obtain ⟨b2,hb2,hb2c⟩:=hLV.h.lo H4 (k.length+1) hV4.h (by rw [hNH.h];omega);rw [htd] at hb2c;rw [show ((k.length+1:Nat):Int)=(k.length:Int)+1 from by omega] at hb2;have hb2cH:=Hide.mk hb2c;have hj4n:H.nx≤j4:=by
    rcases hjj4 with h|h
    ·omega
    ·rw [nx_alloc] at h;omega
   have hj4H:=Hide.mk hj4;have hnx4':H.nx+1≤H4.nx:=by rw [nx_alloc] at hnx4;exact hnx4
   clear hs4 hjj4 hb2c hj4 hnx4 hb1 htd;(repeat' first|simp [*,initEnv]|(apply wpIf_two<;>intro _ h<;>try simp [-Nat.le_zero_eq] at h))
   refine wpE_appendR (f:=intF) (sz:=1) (l:=k) (m:=t) hj4H.h rfl (fun _=>rfl) (by decide) (fun _=>rfl) hb2cH.h (by simp [maxCells];omega) ?_
   intro j5 H5 hj5 hnx5 hs5 hjj5;have hV5:Hide (∀ id,Names V id→H5.get id=H.get id):=⟨fun id hn=>by
    have h1:=hlvt.h id hn;rw [hs5 id (by omega) (by omega)];exact hV4.h id hn⟩
   obtain ⟨M,hM⟩:∃ M,(k++t).length=M:=⟨_,rfl⟩
   have hM2:M < ids.length:=by rw [← hM,List.length_append];omega
   rw [hM];have hj5n:=nx_of_get hj5;have hj5H:=Hide.mk hj5;have hMH:=Hide.mk hM;have hnx5':H.nx≤H5.nx:=by omega
   clear hs5 hjj5 hj5 hnx5 hb2 hM hnx4';(repeat' first|simp [*,initEnv]|(apply wpIf_two<;>intro _ h<;>try simp [-Nat.le_zero_eq] at h))
   refine wpE_own (n:=n+10) (caps:=[]) (ps:=[.agg (⟨bs,fs⟩:Problem).cells,(Sl.mk true (k++t)).pv intF 1]) (r:=.agg (⟨qb,qf⟩:Problem).cells) sh41 ?_ honlyH.h hcoldH.h ?_
   ·refine .cons (.pure (n:=11) _) (.cons ?_ .nil)
    have:=HeadV.frz (k:=true) (n:=10) (f:=intF) (sz:=1) (fun _=>rfl) (H:=H5) (v:=.row j5 1 0 M) (l:=k++t) ⟨j5,[],by rw [hMH.h],by rw [List.append_nil];exact hj5H.h⟩;exact this
   have hfin:Hide (∀ c,c < H5.nx→∀ o1 o2,((H5.alloc o1).set H5.nx o2).get c=H5.get c):=⟨fun c hc o1 o2=>by rw [get_set_ne (by omega),get_alloc_lt hc]⟩
   simp only [coreK] at hkK;obtain ⟨EE,hEE⟩:∃ EE,E (k++t)=EE:=⟨_,rfl⟩
   rw [hEE] at hkK hsol;have hltH:=Hide.mk hkt2;clear honlyH hcoldH hEE hkt2
   by_cases e2:EE=2
   ·subst e2;rw [if_pos rfl] at hkK;subst hkK;have hrs:resS ids none=.nil:=rfl;have hre:resE none=2:=rfl;rw [hrs,hre];clear hrs hre;(repeat' first|simp [*,initEnv]|(apply wpIf_two<;>intro _ h<;>try simp [-Nat.le_zero_eq] at h))
   ·rw [if_neg e2] at hkK
    by_cases e9:EE=9
    ·subst e9;rw [if_pos rfl] at hkK;have hkKH:=Hide.mk hkK;clear hkK;(repeat' first|simp [*,initEnv]|(apply wpIf_two<;>intro _ h<;>try simp [-Nat.le_zero_eq] at h))
     refine ⟨k,t,by simp,rfl,⟨?_,hkKH.h,by have:=hltH.h;omega⟩⟩
     have:=LeftV.row (H:=(H5.alloc (.cells true [.pure (.int .i64 0),.pure .nils,.pure .nils,.pure .nils])).set H5.nx (.cells true [.pure (.int .i64 9),.pure (nS2.pv intF 1),.pure (hS2.pv Box.cells 4),.pure (oS2.pv Pt.cells 2)])) (l:=k++t) ((hfin.h j5 hj5n _ _).trans hj5H.h) hMH.h.symm;have el:leftS ids (k++t)=.mk false (k++t):=by unfold leftS;rw [if_pos (by rw [hMH.h];exact hM2)]
     rw [el];exact this
    ·rw [if_neg e9] at hkK;have hkKH:=Hide.mk hkK;have happ:Hide ((k++[x])++t=k++x::t):=⟨by simp⟩
     clear hkK;(repeat' first|simp [*,initEnv]|(apply wpIf_two<;>intro _ h<;>try simp [-Nat.le_zero_eq] at h))
     refine ⟨k++[x],t,by simp,by rw [List.length_append];simp,⟨?_,hkKH.h,by rw [List.length_append];have:=hltH.h;simp;omega⟩⟩
     rw [happ.h];exact hLV.h.keep (fun id hn=>(hfin.h id (by have:=hlvt.h id hn;omega) _ _).trans (hV5.h id hn)) (by rw [nx_set,nx_alloc];omega)
end Go.Proofs.YtmghcpdpilgplaaGreat.Vm
