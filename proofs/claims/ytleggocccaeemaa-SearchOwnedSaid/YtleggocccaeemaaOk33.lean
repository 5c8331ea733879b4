/- The chapter's examples: head() returns true, by the machine's own runs in the kernel. The law SearchOwned, on the machine. -/
import Derived.Test.YtleggocccaeemaaOk14
import Derived.Test.YtleggocccaeemaaOk32
import Derived.Test.YtleggocccaeemaaOk9
import Derived.KernelRfl
import Derived.Test.YtleggocccaeemaaOk27
import Derived.Test.YtleggocccaeemaaOk28
import Derived.Test.YtleggocccaeemaaOk30
import Derived.Test.YtleggocccaeemaaOk31
namespace Go.Proofs.Ytleggocccaeemaa.Vm
open Go
set_option linter.unusedSimpArgs false
set_option linter.unusedVariables false
set_option maxHeartbeats 4000000
def iP (n:Int):PV:=.int .i64 n
def pP (a b c d:Int):PV:=.slice false 2 [[iP a,iP b],[iP c,iP d]]
def exB (a b c d:Int):List PV:=[.int .i64 a,.int .i64 b,.int .i64 c,.int .i64 d]
def exF (id kind lo hi:Int):List PV:=[.int .i64 id,.int .i64 kind,.bool false,.int .i64 0,.int .i64 1,.int .i64 0,.int .i64 lo,.int .i64 hi,.int .i64 0]
def exN:List PV:=[.int .i64 0,.int .i64 6,.bool true,.int .i64 0,.int .i64 1,.int .i64 0,.int .i64 1,.int .i64 5,.int .i64 0]
def exPr (fs:List (List PV)):PV:=.agg [.slice false 4 [exB 0 0 0 0,exB (-5) 5 (-5) 5],.slice false 9 fs]
def exP:PV:=exPr [exF 4 1 25 25,exF 7 3 0 0]
def exQ:PV:=exPr [exF 4 1 25 25,exF 7 3 0 0,exF 9 5 2 2]
theorem zpS:zI G 59 13 []=some exP:=by kernel_rfl
theorem zkv:zI G 59 7 [exP]=some (.tup [.slice false 4 [exB 0 0 0 0,exB 3 5 (-4) 4],.int .i64 0]):=by kernel_rfl
theorem zmc:zI G 59 14 [exP]=some (.tup [.int .i64 3,.int .i64 0]):=by kernel_rfl
theorem zn8:zI G 59 8 [exP]=some (.tup [.slice false 4 [exB 0 0 0 0,exB 4 5 (-3) 3],.int .i64 0]):=by kernel_rfl
theorem znm:zI G 59 15 [exP,.agg (exF 0 1 20 30)]=some (.tup [.int .i64 2,.int .i64 0]):=by kernel_rfl
theorem zog:zI G 59 17 [exP,.agg (exF 9 5 2 2)]=some exQ:=by kernel_rfl
def fr0:PV:=(.tup [(.agg [(.bool false),(.slice false 1 [[(.ptr false [(.slice false 1 [[(iP 0)],[(iP 1)]]),(iP 3),(.slice false 4 [[(pP 0 0 4 (-3)),(pP 0 0 4 (-3)),(pP 0 0 4 (-3)),(pP 0 0 4 (-3))],[(pP 0 0 4 (-3)),(pP 0 0 5 0),(pP 0 0 4 (-3)),(pP 0 0 4 3)]]),(pP 0 0 4 (-3))] 0)]])]),(iP 0)])
theorem zmQ:zI G 58 35 [exP]=some fr0:=by kernel_rfl
def fr1:PV:=(.tup [(.agg [(.bool false),(.slice false 1 [[(.ptr false [(.slice false 1 [[(iP 0)],[(iP 1)]]),(iP 1),(.slice false 4 [[(pP 0 0 4 3),(pP 0 0 4 3),(pP 0 0 4 3),(pP 0 0 4 3)],[(pP 0 0 4 3),(pP 0 0 4 3),(pP 0 0 4 3),(pP 0 0 4 3)]]),(pP 0 0 4 3)] 0)]])]),(iP 0)])
theorem zl7:zI G 58 35 [exPr [exF 4 1 25 25,exF 7 3 0 0,exF 0 6 1 5]]=some fr1:=by kernel_rfl
def fr2:PV:=(.tup [(.agg [(.bool false),(.slice false 1 [[(.ptr false [(.slice false 1 [[(iP 0)],[(iP 1)]]),(iP 2),(.slice false 4 [[(pP 0 0 4 (-3)),(pP 0 0 4 (-3)),(pP 0 0 4 (-3)),(pP 0 0 4 (-3))],[(pP 0 0 4 (-3)),(pP 0 0 5 0),(pP 0 0 4 (-3)),(pP 0 0 5 0)]]),(pP 0 0 4 (-3))] 0)]])]),(iP 0)])
theorem zl5:zI G 58 35 [exPr [exF 4 1 25 25,exF 7 3 0 0,exN]]=some fr2:=by kernel_rfl
def fr3:PV:=(.tup [(.agg [(.bool true),.nils]),(iP 0)])
theorem zmj:zI G 58 24 [exQ]=some fr3:=by kernel_rfl
def fr4:PV:=(.tup [(.agg [(.bool false),(.slice false 1 [[(.ptr false [(.slice false 1 [[(iP 0)],[(iP 1)]]),(iP 5),(.slice false 4 [[(pP 0 0 2 (-2)),(pP 0 0 2 (-2)),(pP 0 0 2 (-2)),(pP 0 0 2 (-2))],[(pP 0 0 2 (-2)),(pP 0 0 2 (-2)),(pP 0 0 2 (-2)),(pP 0 0 2 2)]]),(pP 0 0 2 (-2))] 0)]])]),(iP 0)])
theorem zmY:zI G 58 35 [exPr [exF 7 3 0 0,exF 9 5 2 2]]=some fr4:=by kernel_rfl
def fr5:PV:=(.tup [(.agg [(.bool true),.nils]),(iP 0)])
theorem zmD:zI G 58 35 [exPr [exF 4 1 25 25,exF 9 5 2 2]]=some fr5:=by kernel_rfl
def fr6:PV:=(.tup [(.agg [(.bool false),(.slice false 1 [[(.ptr false [(.slice false 1 [[(iP 0)],[(iP 1)]]),(iP 12),(.slice false 4 [[(pP 0 0 (-5) 0),(pP 0 0 (-5) 0),(pP 0 0 (-5) 0),(pP 0 0 (-5) 0)],[(pP 0 0 (-5) 0),(pP 0 0 5 0),(pP 0 0 0 (-5)),(pP 0 0 0 5)]]),(pP 0 0 (-5) 0)] 0)]])]),(iP 0)])
theorem zmC:zI G 58 35 [exPr [exF 4 1 25 25]]=some fr6:=by kernel_rfl
def tabD:Tab:=[(35,[exP],fr0),(35,[exPr [exF 4 1 25 25,exF 7 3 0 0,exF 0 6 1 5]],fr1),(35,[exPr [exF 4 1 25 25,exF 7 3 0 0,exN]],fr2)]
theorem zoW:∀ e∈tabD,zI G 58 e.1 e.2.1=some e.2.2:=all_cons zmQ <| all_cons zl7 <| all_cons zl5 all_nil
theorem znY:zI G 59 15 [exP,.agg (exF 0 6 1 5)]=some (.tup [.int .i64 3,.int .i64 0]):=zfG (n:=58) (fs:=[35]) rfl rfl zoW (by kernel_rfl)
def tabC:Tab:=[(24,[exQ],fr3),(35,[exPr [exF 7 3 0 0,exF 9 5 2 2]],fr4),(35,[exPr [exF 4 1 25 25,exF 9 5 2 2]],fr5),(35,[exPr [exF 4 1 25 25]],fr6)]
theorem zoC:∀ e∈tabC,zI G 58 e.1 e.2.1=some e.2.2:=all_cons zmj <| all_cons zmY <| all_cons zmD <| all_cons zmC all_nil
theorem znX:zI G 59 16 [exQ]=some (.tup [.slice false 1 [[.int .i64 4],[.int .i64 9]],.int .i64 0]):=zfG (n:=58) (fs:=[35,24]) rfl rfl zoC (by kernel_rfl)
def tabH:Tab:=[(13,[],exP),(7,[exP],.tup [.slice false 4 [exB 0 0 0 0,exB 3 5 (-4) 4],.int .i64 0]),(14,[exP],.tup [.int .i64 3,.int .i64 0]),(8,[exP],.tup [.slice false 4 [exB 0 0 0 0,exB 4 5 (-3) 3],.int .i64 0]),
 (15,[exP,.agg (exF 0 6 1 5)],.tup [.int .i64 3,.int .i64 0]),(15,[exP,.agg (exF 0 1 20 30)],.tup [.int .i64 2,.int .i64 0]),(17,[exP,.agg (exF 9 5 2 2)],exQ),(16,[exQ],.tup [.slice false 1 [[.int .i64 4],[.int .i64 9]],.int .i64 0])]
theorem zpg:∀ e∈tabH,zI G 59 e.1 e.2.1=some e.2.2:=all_cons zpS <| all_cons zkv <| all_cons zmc <| all_cons zn8 <| all_cons znY <| all_cons znm <| all_cons zog <| all_cons znX all_nil
theorem znO:zI G 60 4 []=some (.bool true):=zfG (n:=59) (fs:=[13,7,14,8,15,17,16]) rfl rfl zpg (by kernel_rfl)
set_option maxRecDepth 4000
theorem sh30:G.shared 30=false:=by decide
theorem e30 (n:Nat) (a b:Sl Box) (h:a.xs=b.xs) (hl:a.xs.length<=100):zI G (n+1) 30 [a.pv Box.cells 4,b.pv Box.cells 4]=some (.bool true):=by
 refine zA (zB _) rfl g30 rfl ?_
 have hlb:b.xs.length=a.xs.length:=by rw [h]
 have hg:Hide (∀ i (h1:i < a.xs.length) (h2:i < b.xs.length),b.xs[i]=a.xs[i]):=⟨fun i h1 h2=>by simp only [h]⟩
 clear h;(repeat' first|simp [*,zb,c30]|(apply za<;>intro _ h<;>try simp [-Nat.le_zero_eq] at h))
 refine zz [(4,5),(11,25)] (fun (i:Nat) env H=>env 5=.pure (.int .i64 i)/\i<=a.xs.length) (fun i=>a.xs.length - i) 0 ?_ ?_ ?_ ?_
 ·decide
 ·exact ⟨by simp,by omega⟩
 ·simp only [zx];omega
 rintro i env H ⟨g5,hi⟩
 by_cases hlt:i < a.xs.length
 ·have w1:IntKind.i64.wrap ((i:Int)+1)=(i+1:Nat):=by rw [wrap64 (by omega) (by omega)];omega
  have hltI:(i:Int) < a.xs.length:=by omega
  have hlt2:i < b.xs.length:=by omega
  have ge:=hg.h i hlt hlt2;(repeat' first|simp [*,zb,Box.cells,Span.cells,zgK,zaC,zbE]|(apply za<;>intro _ h<;>try simp [-Nat.le_zero_eq] at h));exact ⟨i+1,by omega,by omega,by omega⟩
 ·have hiN:i=a.xs.length:=by omega
  subst hiN;(repeat' first|simp [*,zb]|(apply za<;>intro _ h<;>try simp [-Nat.le_zero_eq] at h))
theorem e11 (n:Nat) (p q:Problem) (hb:p.boxes.xs=q.boxes.xs) (hf:p.facts.xs=q.facts.xs) (hl:p.boxes.xs.length<=100) (hn:p.facts.xs.length<=100):zI G (n+2) 11 [.agg p.cells,.agg q.cells]=some (.bool true):=by
 refine zA (zB _) rfl g11 rfl ?_
 obtain ⟨pb,pf⟩:=p;obtain ⟨qb,qf⟩:=q;simp only at hb hf hl hn;have hc:=fun H=>zh (G:=G) (n:=n+1) (H:=H) (caps:=[]) (ps:=[pb.pv Box.cells 4,qb.pv Box.cells 4]) sh30 (e30 n pb qb hb hl);simp only [List.map_cons,List.map_nil] at hc;have hlb:qf.xs.length=pf.xs.length:=by rw [hf]
 have hg:Hide (∀ i (h1:i < pf.xs.length) (h2:i < qf.xs.length),qf.xs[i]=pf.xs[i]):=⟨fun i h1 h2=>by simp only [hf]⟩
 clear hb hf hl;(repeat' first|simp [*,zb,c11,Problem.cells]|(apply za<;>intro _ h<;>try simp [-Nat.le_zero_eq] at h))
 refine zz [(4,4),(6,6),(23,40)] (fun (i:Nat) env H=>env 6=.pure (.int .i64 i)/\i<=pf.xs.length) (fun i=>pf.xs.length - i) 0 ?_ ?_ ?_ ?_
 ·decide
 ·exact ⟨by simp,by omega⟩
 ·simp only [zx];omega
 rintro i env H ⟨g6,hi⟩
 by_cases hlt:i < pf.xs.length
 ·have w1:IntKind.i64.wrap ((i:Int)+1)=(i+1:Nat):=by rw [wrap64 (by omega) (by omega)];omega
  have hltI:(i:Int) < pf.xs.length:=by omega
  have hlt2:i < qf.xs.length:=by omega
  have ge:=hg.h i hlt hlt2;(repeat' first|simp [*,zb,Fact.cells,Span.cells,zgK,zaC,zbE]|(apply za<;>intro _ h<;>try simp [-Nat.le_zero_eq] at h));exact ⟨i+1,by omega,by omega,by omega⟩
 ·have hiN:i=pf.xs.length:=by omega
  subst hiN;(repeat' first|simp [*,zb]|(apply za<;>intro _ h<;>try simp [-Nat.le_zero_eq] at h))
theorem znP:G.shared 4=false:=by decide
theorem zox (H:Heap):zM (zq G 60) H (.pure (.func 4 [])) []=some (.val (.pure (.bool true))):=zl9 (ps:=[]) znP znO
section
variable {α:Type}
def FrzO (p:Problem) (j1 j2:Nat):Prop:=∀ H:Heap,H.get j1=.cells true (zm Box.cells p.boxes.xs)->H.get j2=.cells true (zm Fact.cells p.facts.xs)->FrzK H true 12 (aggV [.row j1 4 0 p.boxes.xs.length,.row j2 9 0 p.facts.xs.length]) (.agg (hotP p).cells)
theorem zpa (p:Problem) (j1 j2:Nat):FrzO p j1 j2:=fun H h1 h2=>by
 refine FrzK.aggV (n:=11) (.cons ?_ (.cons ?_ .nil))
 ·exact HeadV.frz (n:=9) (fun _=>rfl) ⟨j1,[],rfl,by rw [List.append_nil];exact h1⟩
 ·exact HeadV.frz (n:=9) (fun _=>rfl) ⟨j2,[],rfl,by rw [List.append_nil];exact h2⟩
theorem zlX {α:Type} {f:α->List PV} {sz:Nat} {H:Heap} {v:AV} {l l':List α} (h:OwnV f sz H v l) (h0:0 < l.length) (hl:l'.length=l.length):OwnV f sz (H.set (idOf v) (.cells true (zm f l'))) v l'/\∀ k,¬ Names v k->(H.set (idOf v) (.cells true (zm f l'))).get k=H.get k:=by
 obtain ⟨id,rfl,hg⟩:=h.row (by intro e;subst e;simp at h0)
 refine ⟨.inr ⟨id,by rw [hl],zaS (zC hg)⟩,fun k hk=>zg fun e=>hk ⟨sz,0,l.length,by rw [e];rfl⟩⟩
def Run (f:α->List PV) (sz:Nat) (H0:Heap) (v:AV) (n:Nat) (H:Heap):Prop:=H.nx=H0.nx/\(∀ k,¬ Names v k->H.get k=H0.get k)/\∃ l,l.length=n/\OwnV f sz H v l
theorem Run.start {f:α->List PV} {sz:Nat} {H:Heap} {v:AV} {l:List α} (h:OwnV f sz H v l):Run f sz H v l.length H:=⟨rfl,fun _ _=>rfl,l,rfl,h⟩
theorem Run.next {f:α->List PV} {sz:Nat} {H0 H:Heap} {v:AV} {n:Nat} {l l':List α} (h:Run f sz H0 v n H) (ho:OwnV f sz H v l) (h0:0 < l.length) (hl:l.length=n) (hl':l'.length=l.length):Run f sz H0 v n (H.set (idOf v) (.cells true (zm f l'))) :=
 ⟨h.1,fun k hk=>((zlX ho h0 hl').2 k hk).trans (h.2.1 k hk),l',hl'.trans hl,(zlX ho h0 hl').1⟩
theorem Run.keep {β:Type} {f:α->List PV} {g:β->List PV} {sz tz:Nat} {H0 H:Heap} {v w:AV} {n:Nat} {m:List β} (h:Run f sz H0 v n H) (hw:OwnV g tz H0 w m) (hd:∀ id,Names v id->¬ Names w id):OwnV g tz H w m :=
 hw.keep fun id ⟨q,hq⟩=>h.2.1 id fun hv=>hd id hv ⟨_,_,_,hq⟩
end
theorem zmF (p:Problem):zI G 61 3 [.agg p.cells]=some (.bool true):=by
 refine zA (n:=60) (zB _) rfl g3 rfl ?_
 have hh:=zox;have hs:=fun H=>zh (G:=G) (n:=60) (H:=H) (caps:=[]) (ps:=[.agg p.cells]) sh5 (e5 57 p);have hc:=fun H=>zh (G:=G) (n:=60) (H:=H) (caps:=[]) (ps:=[.agg p.cells]) sh6 (e6 57 p);simp only [Problem.cells,List.map_cons,List.map_nil] at hs hc
 cases hsp:fewB p with
 | false =>
  rw [hsp] at hs;clear hsp hc;(repeat' first|simp [*,zb,c3,Problem.cells]|(apply za<;>intro _ h<;>try simp [-Nat.le_zero_eq] at h))
 | true =>
  rw [hsp] at hs;clear hsp
  by_cases h0:zaZ p=0
  case neg =>
   generalize zaZ p=z at *;(repeat' first|simp [*,zb,c3,Problem.cells]|(apply za<;>intro _ h<;>try simp [-Nat.le_zero_eq] at h))
  rw [h0] at hc;have ok:=check_ok.1 h0;have nb:=ok.nb;have nf:=ok.nf;have okH:=Hide.mk ok;have okh:=ziB ok;have hNar:=Hide.mk (zla 52 (hotP p) okh);have hWit:=Hide.mk (zjU 55 (hotP p) okh);obtain ⟨D,e,cs,hS,hcs,hal,hl1,hhot⟩:=zmr ok;have s1:=ziN hS;have hHul:=Hide.mk (zn4 7 (hotP p) D e hS (.inl nb) s1.1 (fun h s hs=>(s1.2 h s hs).2));have hSol:=e10 7 (hotP p) D e hS cs hcs;obtain ⟨⟨S,E⟩,hSE⟩:∃ X,zbu (hotP p) D e cs=X:=⟨_,rfl⟩
  rw [hSE] at hSol hal hl1 hhot;simp only at hSol hal hl1 hhot;have hAl:=fun H=>zh (G:=G) (n:=60) (H:=H) (caps:=[]) (ps:=[.agg p.cells,S.pv Pt.cells 2]) sh12 (e12 53 p S hl1);have hPr:=(e11 58 (hotP p) p rfl rfl (show p.boxes.xs.length<=100 by omega) (show p.facts.xs.length<=100 by omega))
  have hcold:(PV.tup [S.pv Pt.cells 2,.int .i64 E]).cold=true:=by
   cases S with
   | nil=>rfl
   | mk h l =>
    have:h=false:=hhot;subst this;simp [Sl.pv,PV.cold,PV.coldN,Pt.cells]
  have hFr:=Hide.mk (zpa p);have hAlH:=Hide.mk hAl;have hPrH:=Hide.mk hPr;have hSolH:=Hide.mk hSol;have hcoldH:=Hide.mk hcold;have halH:=Hide.mk hal;obtain ⟨bs,fs⟩:=p;simp only at nb nf;clear ok okh hS hcs hal hl1 hhot s1 hSol hSE hAl hPr hcold h0;(repeat' first|simp [*,zb,c3,Problem.cells]|(apply za<;>intro _ h<;>try simp [-Nat.le_zero_eq] at h))
  refine zes (f:=Box.cells) (sz:=4) (l:=bs.xs) (zbU (f:=Box.cells) (sz:=4) (fun _=>rfl) _) (by simp) (fun _=>rfl) (by simp only [zn];omega) ?_
  intro j1 H1 hj1 hx1 ho1 hjj1;have hl1:=zC hj1;clear ho1 hjj1 hx1;(repeat' first|simp [*,zb]|(apply za<;>intro _ h<;>try simp [-Nat.le_zero_eq] at h))
  refine zes (f:=Fact.cells) (sz:=9) (l:=fs.xs) (zbU (f:=Fact.cells) (sz:=9) (fun _=>rfl) _) (zaf _) (fun _=>rfl) (by simp only [zn];omega) ?_
  intro j2 H2 hj2 hx2 ho2 hjj2;have hl2:=zC hj2;rw [zaj] at hx2 ho2 hjj2;have hk1:H2.get j1=.cells true (zm Box.cells bs.xs):=by rw [ho2 j1 (by omega),zf hl1];exact hj1
  have h12:j1 < j2:=by omega
  have hl12:=zC hk1;clear ho2 hjj2 hx2 hj1 hl1;(repeat' first|simp [*,zb]|(apply za<;>intro _ h<;>try simp [-Nat.le_zero_eq] at h));have m0:((H2.alloc (.cells true [.pure .nils,.pure .nils])).set H2.nx (.cells true [.row j1 4 0 bs.xs.length,.row j2 9 0 fs.xs.length])).get H2.nx=.cells true [.row j1 4 0 bs.xs.length,.row j2 9 0 fs.xs.length]:=zP (by simp);have m1:((H2.alloc (.cells true [.pure .nils,.pure .nils])).set H2.nx (.cells true [.row j1 4 0 bs.xs.length,.row j2 9 0 fs.xs.length])).get j1=.cells true (zm Box.cells bs.xs):=by rw [zg (by omega),zf hl12];exact hk1
  have m2:((H2.alloc (.cells true [.pure .nils,.pure .nils])).set H2.nx (.cells true [.row j1 4 0 bs.xs.length,.row j2 9 0 fs.xs.length])).get j2=.cells true (zm Fact.cells fs.xs):=by rw [zg (by omega),zf hl2];exact hj2
  generalize hH3:(H2.alloc (.cells true [.pure .nils,.pure .nils])).set H2.nx (.cells true [.row j1 4 0 bs.xs.length,.row j2 9 0 fs.xs.length])=H3 at *;obtain ⟨B,hB⟩:∃ B,H2.nx=B:=⟨_,rfl⟩
  rw [hB] at m0 hl2 hl12;have hB3:=zC m0;rw [hB];clear hH3 hj2 hk1 hB
  refine zol (P:=fun l e=>l.length<=12) zdg (FrzL.cons (hFr.h j1 j2 _ m1 m2) .nil) hNar.h ?_
  intro x1 e1 l1 H4 hP1 hO1 hn1 hx1 hs1;have p0:H4.get B=.cells true [.row j1 4 0 bs.xs.length,.row j2 9 0 fs.xs.length]:=by rw [hs1 B hB3];exact m0
  have p1:H4.get j1=.cells true (zm Box.cells bs.xs):=by rw [hs1 j1 (by omega)];exact m1
  have p2:H4.get j2=.cells true (zm Fact.cells fs.xs):=by rw [hs1 j2 (by omega)];exact m2
  have hB4:=zC p0;have n1H:Hide (∀ id,Names x1 id->B < id):=⟨fun id h=>by have:=hn1 id h;omega⟩
  have hO1H:=Hide.mk hO1;have hP1H:=Hide.mk hP1;clear m0 m1 m2 hs1 hn1 hO1 hNar hP1;(repeat' first|simp [*,zb]|(apply za<;>intro _ h<;>try simp [-Nat.le_zero_eq] at h))
  refine zol (P:=fun l e=>l.length<=12) zdg (FrzL.cons (hFr.h j1 j2 _ p1 p2) .nil) hHul.h ?_
  intro x2 e2 l2 H5 hP2 hO2 hn2 hx2 hs2;have q0:H5.get B=.cells true [.row j1 4 0 bs.xs.length,.row j2 9 0 fs.xs.length]:=by rw [hs2 B hB4];exact p0
  have q1:H5.get j1=.cells true (zm Box.cells bs.xs):=by rw [hs2 j1 (by omega)];exact p1
  have q2:H5.get j2=.cells true (zm Fact.cells fs.xs):=by rw [hs2 j2 (by omega)];exact p2
  have hB5:=zC q0;have hO1H:Hide (OwnV Box.cells 4 H5 x1 l1/\∀ id,Names x1 id->B < id/\¬ Names x2 id):=⟨hO1H.h.keep fun id ⟨m,hm⟩=>hs2 id (hO1H.h.names_lt ⟨_,_,_,hm⟩),fun id h=>⟨n1H.h id h,fun h2=>by have:=hn2 id h2;have:=hO1H.h.names_lt h;omega⟩⟩
  have n2H:Hide (∀ id,Names x2 id->B < id):=⟨fun id h=>by have:=hn2 id h;omega⟩
  have hO2H:=Hide.mk hO2;have hP2H:=Hide.mk hP2;clear p0 p1 p2 hs2 hn2 hO2 hHul hP2 n1H;(repeat' first|simp [*,zb]|(apply za<;>intro _ h<;>try simp [-Nat.le_zero_eq] at h))
  refine zp6 (P:=fun l m e=>l.length<=12/\m.length<=60) zdg zgM (FrzL.cons (hFr.h j1 j2 _ q1 q2) (.cons (.pure _) .nil)) hWit.h ?_
  rintro y z e3 ly lz H6 ⟨hP3,hP4⟩ hOy hOz hny hnz hx3 hs3;have r0:H6.get B=.cells true [.row j1 4 0 bs.xs.length,.row j2 9 0 fs.xs.length]:=by rw [hs3 B hB5];exact q0
  have r1:H6.get j1=.cells true (zm Box.cells bs.xs):=by rw [hs3 j1 (by omega)];exact q1
  have r2:H6.get j2=.cells true (zm Fact.cells fs.xs):=by rw [hs3 j2 (by omega)];exact q2
  have hB6:=zC r0;have hxH:Hide (OwnV Box.cells 4 H6 x1 l1/\OwnV Box.cells 4 H6 x2 l2/\OwnV Box.cells 4 H6 y ly/\OwnV Fact.cells 9 H6 z lz/\(∀ id,Names x1 id->B < id/\¬ Names x2 id/\¬ Names y id/\¬ Names z id)/\(∀ id,Names x2 id->B < id/\¬ Names y id/\¬ Names z id)/\(∀ id,Names y id->B < id/\¬ Names z id)/\∀ id,Names z id->B < id) :=
   ⟨hO1H.h.1.keep fun id ⟨m,hm⟩=>hs3 id (hO1H.h.1.names_lt ⟨_,_,_,hm⟩),hO2H.h.keep fun id ⟨m,hm⟩=>hs3 id (hO2H.h.names_lt ⟨_,_,_,hm⟩),hOy,hOz,
    fun id h=>⟨(hO1H.h.2 id h).1,(hO1H.h.2 id h).2,fun h2=>by have:=(hny id h2).1;have:=hO1H.h.1.names_lt h;omega,fun h2=>by have:=hnz id h2;have:=hO1H.h.1.names_lt h;omega⟩,
    fun id h=>⟨n2H.h id h,fun h2=>by have:=(hny id h2).1;have:=hO2H.h.names_lt h;omega,fun h2=>by have:=hnz id h2;have:=hO2H.h.names_lt h;omega⟩,
    fun id h=>⟨by have:=(hny id h).1;omega,(hny id h).2⟩,fun id h=>by have:=hnz id h;omega⟩
  have hP3H:=Hide.mk hP3;have hP4H:=Hide.mk hP4;have oy:=hOy.one;have oz:=hOz.one;have oy1:=oy.1;have oy2:=oy.2;have oz1:=oz.1;have oz2:=oz.2;have hBne:B≠H6.nx:=by omega
  clear q0 q1 q2 hs3 hny hnz hOy hOz hWit hP3 hP4 n2H hO1H hO2H oy oz;(repeat' first|simp [*,zb]|(apply za<;>intro _ h<;>try simp [-Nat.le_zero_eq] at h));have m0:((H6.alloc (.cells true [.pure .nils,.pure .nils])).set H6.nx (.cells true [y,z])).get B=.cells true [.row j1 4 0 bs.xs.length,.row j2 9 0 fs.xs.length]:=by rw [zg (by omega),zf hB6];exact r0
  have m1:((H6.alloc (.cells true [.pure .nils,.pure .nils])).set H6.nx (.cells true [y,z])).get j1=.cells true (zm Box.cells bs.xs):=by rw [zg (by omega),zf (by omega)];exact r1
  have m2:((H6.alloc (.cells true [.pure .nils,.pure .nils])).set H6.nx (.cells true [y,z])).get j2=.cells true (zm Fact.cells fs.xs):=by rw [zg (by omega),zf (by omega)];exact r2
  have m3:((H6.alloc (.cells true [.pure .nils,.pure .nils])).set H6.nx (.cells true [y,z])).get H6.nx=.cells true [y,z]:=zP (by simp);have hkp:∀ k,k < H6.nx->((H6.alloc (.cells true [.pure .nils,.pure .nils])).set H6.nx (.cells true [y,z])).get k=H6.get k:=fun k hk=>by rw [zg (by omega),zf hk]
  generalize hH7:(H6.alloc (.cells true [.pure .nils,.pure .nils])).set H6.nx (.cells true [y,z])=H7 at *;obtain ⟨Q,hQ⟩:∃ Q,H6.nx=Q:=⟨_,rfl⟩
  have hx:Hide (OwnV Box.cells 4 H7 x1 l1/\OwnV Box.cells 4 H7 x2 l2/\OwnV Box.cells 4 H7 y ly/\OwnV Fact.cells 9 H7 z lz/\(∀ id,Names x1 id->B < id/\id≠Q/\¬ Names x2 id/\¬ Names y id/\¬ Names z id)/\(∀ id,Names x2 id->B < id/\id≠Q/\¬ Names y id/\¬ Names z id)/\(∀ id,Names y id->B < id/\id≠Q/\¬ Names z id)/\∀ id,Names z id->B < id/\id≠Q):=by
   obtain ⟨a1,a2,a3,a4,a5,a6,a7,a8⟩:=hxH.h;have b1:∀ id,Names x1 id->id < Q:=fun id h=>hQ ▸ a1.names_lt h;have b2:∀ id,Names x2 id->id < Q:=fun id h=>hQ ▸ a2.names_lt h;have b3:∀ id,Names y id->id < Q:=fun id h=>hQ ▸ a3.names_lt h;have b4:∀ id,Names z id->id < Q:=fun id h=>hQ ▸ a4.names_lt h;exact ⟨a1.keep fun id ⟨m,hm⟩=>hkp id (a1.names_lt ⟨_,_,_,hm⟩),a2.keep fun id ⟨m,hm⟩=>hkp id (a2.names_lt ⟨_,_,_,hm⟩),a3.keep fun id ⟨m,hm⟩=>hkp id (a3.names_lt ⟨_,_,_,hm⟩),a4.keep fun id ⟨m,hm⟩=>hkp id (a4.names_lt ⟨_,_,_,hm⟩),
    fun id h=>⟨(a5 id h).1,by have:=b1 id h;omega,(a5 id h).2⟩,fun id h=>⟨(a6 id h).1,by have:=b2 id h;omega,(a6 id h).2⟩,fun id h=>⟨(a7 id h).1,by have:=b3 id h;omega,(a7 id h).2⟩,fun id h=>⟨a8 id h,by have:=b4 id h;omega⟩⟩
  rw [hQ] at m3 hBne;rw [hQ];clear hH7 hkp r0 r1 r2 hQ hxH
  refine zbA (caps:=[]) (ps:=[_]) (by decide) (.cons (hFr.h j1 j2 _ m1 m2) .nil) hSolH.h hcoldH.h ?_
  have e1:=hx.h.1.len;have e2:=hx.h.2.1.len;have e3:=hx.h.2.2.1.len;have e4:=hx.h.2.2.2.1.len;have hP1:=hP1H.h;have hP2:=hP2H.h;have hP3:=hP3H.h;have hP4:=hP4H.h;have hx5:=Hide.mk hx.h.2.2.2.2;obtain ⟨ho1,ho2,ho3,ho4,_⟩:=hx.h;have ho2:=Hide.mk ho2;have ho3:=Hide.mk ho3;have ho4:=Hide.mk ho4;have hst1:=Hide.mk (Run.start ho1);clear hx ho1 hcoldH;(repeat' first|simp [*,zb]|(apply za<;>intro _ h<;>try simp [-Nat.le_zero_eq] at h))
  refine zz [(13,13),(59,68)] (fun (i:Nat) env H=>env 13=.pure (.int .i64 i)/\i<=l1.length/\Hide (Run Box.cells 4 H7 x1 l1.length H)) (fun i=>l1.length - i) 0 ?_ ?_ ?_ ?_
  ·decide
  ·exact ⟨by simp,by omega,hst1⟩
  ·simp only [zx];omega
  rintro i env H ⟨g13,hi,hR⟩;clear hst1
  by_cases hlt:i < l1.length
  ·have w1:IntKind.i64.wrap ((i:Int)+1)=(i+1:Nat):=by rw [wrap64 (by omega) (by omega)];omega
   have hltI:(i:Int) < l1.length:=by omega
   obtain ⟨_,_,l',hl',ho⟩:=hR.h;have haddr:=ho.addr (k:=.i64) (i:=i) (by omega);have hobj:=ho.objI (by omega);have hput:zbK (.cells true (zm Box.cells l')) 4 (i*4) [.pure (.int .i64 0),.pure (.int .i64 0),.pure (.int .i64 0),.pure (.int .i64 0)]=some (.cells true (zm Box.cells (l'.set i ⟨⟨0,0⟩,⟨0,0⟩⟩))):=zbm (f:=Box.cells) (sz:=4) (l:=l') (i:=i) (a:=(⟨⟨0,0⟩,⟨0,0⟩⟩:Box)) (fun _=>rfl) (fun _=>rfl) (by decide) (by omega);have hnext:=Hide.mk (hR.h.next (l':=l'.set i ⟨⟨0,0⟩,⟨0,0⟩⟩) ho (by omega) hl' (by simp));clear hR ho;(repeat' first|simp [*,zb]|(apply za<;>intro _ h<;>try simp [-Nat.le_zero_eq] at h));exact ⟨i+1,by omega,by omega,by omega⟩
  have hiN:i=l1.length:=by omega
  subst hiN;have f1:=hR.h;have d1:=hx5.h.1;have m0:H.get B=.cells true [.row j1 4 0 bs.xs.length,.row j2 9 0 fs.xs.length]:=by rw [f1.2.1 B (fun h=>by have:=(d1 B h).1;omega)];exact m0
  have m1:H.get j1=.cells true (zm Box.cells bs.xs):=by rw [f1.2.1 j1 (fun h=>by have:=(d1 j1 h).1;omega)];exact m1
  have m2:H.get j2=.cells true (zm Fact.cells fs.xs):=by rw [f1.2.1 j2 (fun h=>by have:=(d1 j2 h).1;omega)];exact m2
  have m3:H.get Q=.cells true [y,z]:=by rw [f1.2.1 Q (fun h=>(d1 Q h).2.1 rfl)];exact m3
  have ho2:=f1.keep ho2.h (fun id h=>(d1 id h).2.2.1);have ho3:=Hide.mk (f1.keep ho3.h (fun id h=>(d1 id h).2.2.2.1));have ho4:=Hide.mk (f1.keep ho4.h (fun id h=>(d1 id h).2.2.2.2));have hst2:=Hide.mk (Run.start ho2);have hx6:=Hide.mk hx5.h.2;clear hR f1 d1 ho2 hx5 hi;(repeat' first|simp [*,zb]|(apply za<;>intro _ h<;>try simp [-Nat.le_zero_eq] at h))
  refine zz [(14,14),(69,86)] (fun (i:Nat) env H'=>env 14=.pure (.int .i64 i)/\i<=l2.length/\Hide (Run Box.cells 4 H x2 l2.length H')) (fun i=>l2.length - i) 0 ?_ ?_ ?_ ?_
  ·decide
  ·exact ⟨by simp,by omega,hst2⟩
  ·simp only [zx];omega
  rintro i env2 H8 ⟨g14,hi,hR⟩;clear hst2
  by_cases hlt:i < l2.length
  ·have w1:IntKind.i64.wrap ((i:Int)+1)=(i+1:Nat):=by rw [wrap64 (by omega) (by omega)];omega
   have hltI:(i:Int) < l2.length:=by omega
   obtain ⟨_,_,l',hl',ho⟩:=hR.h;have his:i < l'.length:=by omega
   have haddr:=ho.addr (k:=.i64) (i:=i) his;have hobj:=ho.objI (by omega);have hput:=zdt his;have hld:=zcf (own:=true) (f:=Box.cells) (sz:=4) (l:=l') (i:=i) (size:=1) (off:=1) (fun _=>rfl) his (by decide);have hnext:Hide (∀ v,Run Box.cells 4 H x2 l2.length (H8.set (idOf x2) (.cells true (zm Box.cells (l'.set i ⟨⟨v,l'[i].x.hi⟩,l'[i].y⟩))))):=⟨fun v=>hR.h.next ho (by omega) hl' (by simp)⟩
   clear hR ho;(repeat' first|simp [*,zb]|(apply za<;>intro _ h<;>try simp [-Nat.le_zero_eq] at h));exact ⟨i+1,by omega,by omega,by omega,⟨hnext.h _⟩⟩
  have hiN:i=l2.length:=by omega
  subst hiN;have f1:=hR.h;have d1:=hx6.h.1;have m0:H8.get B=.cells true [.row j1 4 0 bs.xs.length,.row j2 9 0 fs.xs.length]:=by rw [f1.2.1 B (fun h=>by have:=(d1 B h).1;omega)];exact m0
  have m1:H8.get j1=.cells true (zm Box.cells bs.xs):=by rw [f1.2.1 j1 (fun h=>by have:=(d1 j1 h).1;omega)];exact m1
  have m2:H8.get j2=.cells true (zm Fact.cells fs.xs):=by rw [f1.2.1 j2 (fun h=>by have:=(d1 j2 h).1;omega)];exact m2
  have m3:H8.get Q=.cells true [y,z]:=by rw [f1.2.1 Q (fun h=>(d1 Q h).2.1 rfl)];exact m3
  have ho3:=f1.keep ho3.h (fun id h=>(d1 id h).2.2.1);have ho4:=Hide.mk (f1.keep ho4.h (fun id h=>(d1 id h).2.2.2));have hst3:=Hide.mk (Run.start ho3);have hx7:=Hide.mk hx6.h.2;clear hR f1 d1 ho3 hx6 hi;(repeat' first|simp [*,zb]|(apply za<;>intro _ h<;>try simp [-Nat.le_zero_eq] at h))
  refine zz [(15,15),(87,107)] (fun (i:Nat) env H'=>env 15=.pure (.int .i64 i)/\i<=ly.length/\Hide (Run Box.cells 4 H8 y ly.length H')) (fun i=>ly.length - i) 0 ?_ ?_ ?_ ?_
  ·decide
  ·exact ⟨by simp,by omega,hst3⟩
  ·simp only [zx];omega
  rintro i env3 H9 ⟨g15,hi,hR⟩;clear hst3;have m3':H9.get Q=.cells true [y,z]:=by rw [hR.h.2.1 Q (fun h=>(hx7.h.1 Q h).2.1 rfl)];exact m3
  by_cases hlt:i < ly.length
  ·have w1:IntKind.i64.wrap ((i:Int)+1)=(i+1:Nat):=by rw [wrap64 (by omega) (by omega)];omega
   have hltI:(i:Int) < ly.length:=by omega
   obtain ⟨_,_,l',hl',ho⟩:=hR.h;have his:i < l'.length:=by omega
   have haddr:=ho.addr (k:=.i64) (i:=i) his;have hobj:=ho.objI (by omega);have hput:=zdt his;have hld:=zcf (own:=true) (f:=Box.cells) (sz:=4) (l:=l') (i:=i) (size:=1) (off:=1) (fun _=>rfl) his (by decide);have hnext:Hide (∀ v,Run Box.cells 4 H8 y ly.length (H9.set (idOf y) (.cells true (zm Box.cells (l'.set i ⟨⟨v,l'[i].x.hi⟩,l'[i].y⟩))))):=⟨fun v=>hR.h.next ho (by omega) hl' (by simp)⟩
   clear hR ho;(repeat' first|simp [*,zb]|(apply za<;>intro _ h<;>try simp [-Nat.le_zero_eq] at h));exact ⟨i+1,by omega,by omega,by omega,⟨hnext.h _⟩⟩
  have hiN:i=ly.length:=by omega
  subst hiN;have f1:=hR.h;have d1:=hx7.h.1;have m0:H9.get B=.cells true [.row j1 4 0 bs.xs.length,.row j2 9 0 fs.xs.length]:=by rw [f1.2.1 B (fun h=>by have:=(d1 B h).1;omega)];exact m0
  have m1:H9.get j1=.cells true (zm Box.cells bs.xs):=by rw [f1.2.1 j1 (fun h=>by have:=(d1 j1 h).1;omega)];exact m1
  have m2:H9.get j2=.cells true (zm Fact.cells fs.xs):=by rw [f1.2.1 j2 (fun h=>by have:=(d1 j2 h).1;omega)];exact m2
  have ho4:=f1.keep ho4.h (fun id h=>(d1 id h).2.2);have hst4:=Hide.mk (Run.start ho4);have hx8:=Hide.mk hx7.h.2;clear hR f1 d1 ho4 hx7 hi;(repeat' first|simp [*,zb]|(apply za<;>intro _ h<;>try simp [-Nat.le_zero_eq] at h))
  refine zz [(16,16),(108,119)] (fun (i:Nat) env H'=>env 16=.pure (.int .i64 i)/\i<=lz.length/\Hide (Run Fact.cells 9 H9 z lz.length H')) (fun i=>lz.length - i) 0 ?_ ?_ ?_ ?_
  ·decide
  ·exact ⟨by simp,by omega,hst4⟩
  ·simp only [zx];omega
  rintro i env4 HA ⟨g16,hi,hR⟩;clear hst4;have m3'':HA.get Q=.cells true [y,z]:=by rw [hR.h.2.1 Q (fun h=>(hx8.h Q h).2 rfl)];exact m3'
  by_cases hlt:i < lz.length
  ·have w1:IntKind.i64.wrap ((i:Int)+1)=(i+1:Nat):=by rw [wrap64 (by omega) (by omega)];omega
   have hltI:(i:Int) < lz.length:=by omega
   obtain ⟨_,_,l',hl',ho⟩:=hR.h;have his:i < l'.length:=by omega
   have haddr:=ho.addr (k:=.i64) (i:=i) his;have hobj:=ho.objI (by omega);have hput:zbK (.cells true (zm Fact.cells l')) 1 (i*9+1) [.pure (.int .i64 0)]=some (.cells true (zm Fact.cells (l'.set i { l'[i] with kind:=0 }))):=zcM (off:=1) (f:=Fact.cells) (sz:=9) (vs:=[.int .i64 0]) (b:={ l'[i] with kind:=0 }) (fun _=>rfl) rfl (by decide) his (by decide) rfl rfl;have hnext:=Hide.mk (hR.h.next (l':=l'.set i { l'[i] with kind:=0 }) ho (by omega) hl' (by simp));clear hR ho;(repeat' first|simp [*,zb]|(apply za<;>intro _ h<;>try simp [-Nat.le_zero_eq] at h));exact ⟨i+1,by omega,by omega,by omega⟩
  have hiN:i=lz.length:=by omega
  subst hiN;have f1:=hR.h;have d1:=hx8.h;have m0:HA.get B=.cells true [.row j1 4 0 bs.xs.length,.row j2 9 0 fs.xs.length]:=by rw [f1.2.1 B (fun h=>by have:=(d1 B h).1;omega)];exact m0
  have m1:HA.get j1=.cells true (zm Box.cells bs.xs):=by rw [f1.2.1 j1 (fun h=>by have:=(d1 j1 h).1;omega)];exact m1
  have m2:HA.get j2=.cells true (zm Fact.cells fs.xs):=by rw [f1.2.1 j2 (fun h=>by have:=(d1 j2 h).1;omega)];exact m2
  have hAl:=hAlH.h;have hAc:=halH.h;simp only [Problem.cells,List.map_cons,List.map_nil] at hAl;clear hR f1 d1 hx8 hi;(repeat' first|simp [*,zb]|(apply za<;>intro _ h<;>try simp [-Nat.le_zero_eq] at h))
  refine zbA (caps:=[]) (ps:=[_,_]) (by decide) (.cons (hFr.h j1 j2 _ m1 m2) (.cons (.pure _) .nil)) hPrH.h rfl ?_
  by_cases hE:E=0
  ·have h9:=hAc hE;rw [h9] at hAl;subst hE;clear hAc h9;(repeat' first|simp [*,zb]|(apply za<;>intro _ h<;>try simp [-Nat.le_zero_eq] at h))
  ·clear hAc;(repeat' first|simp [*,zb]|(apply za<;>intro _ h<;>try simp [-Nat.le_zero_eq] at h))
end Go.Proofs.Ytleggocccaeemaa.Vm
