/- search.cut: boxes one of which is cut. search.loose and search.wide: walked. search.refute's closure grow: the tree of a part, walked. -/
import Derived.Test.YtmmhnfghklppiaaGreatQk20
import Derived.Test.YtmmhnfghklppiaaGreatQk9
import Derived.Test.YtmmhnfghklppiaaGreatQk26
import Derived.Test.YtmmhnfghklppiaaGreatQk25
import Derived.Test.YtmmhnfghklppiaaGreatQk23
import Derived.Test.YtmmhnfghklppiaaGreatQk28
import Derived.Test.YtmmhnfghklppiaaGreatQk30
import Derived.Test.YtmmhnfghklppiaaGreatQk31
namespace Go.Proofs.YtmmhnfghklppiaaGreat.Vm
open Go
set_option linter.unusedSimpArgs false
set_option linter.unusedVariables false
set_option maxHeartbeats 4000000
set_option maxRecDepth 4000
def okN (t:Int):Prop:=-1048576<=t/\t<=1048576
def cutH (l:List Box) (i ax:Nat) (t:Int) (above:Bool):List Box:=if above then za2 l i ax t else lowL l i ax t
theorem zr2 {l:List Box} {i:Nat} (hi:i < l.length) (ax:Nat) (t:Int) (above:Bool):cutH l i ax t above=l.set i (if above then zdA l[i] ax t else lowS l[i] ax t):=by
 unfold cutH
 cases above
 ·simp [zcH hi]
 ·simp [zbS hi]
theorem sh78:G.shared 78=false:=by decide
theorem e78 (n:Nat) (l:Sl Box) (i ax:Nat) (t:Int) (above:Bool) (hi:i < l.xs.length) (hx:ax < 2) (hl:l.xs.length < 1000) (ht:okN t):zH G (n+2) 78 [l.pv Box.cells 4,.int .i64 i,.int .i64 ax,.int .i64 t,.bool above]=some ((Sl.mk false (cutH l.xs i ax t above)).pv Box.cells 4):=by
 refine zy (zw _) rfl g78 rfl ?_
 have ho:=zdE n;have hst:=Hide.mk (zr2 hi ax t above);have p1:=ze5 hi;have p2:=ze3 hi;have p3:=ze0 hi;have p4:=ze8 hi;have e3:i*4+2+1=i*4+3:=rfl;have hlen:∀ b,(l.xs.set i b).length=l.xs.length:=fun b=>by simp
 have ht1:=ht.1;have ht2:=ht.2;have w1:IntKind.i64.wrap (t+1)=t+1:=wrap64 (by omega) (by omega);have hxx:ax=0\/ax=1:=by omega
 clear hx;rcases hxx with rfl|rfl<;>cases above
 all_goals
  (repeat' first|simp [*,za,c78]|(apply zb<;>intro _ h<;>try simp [-Nat.le_zero_eq] at h))
  refine zaO hl ?_
  intro v' H' hv hn hnx hsame hnew;obtain ⟨id,rfl,hg⟩:=hv.row (by intro e;rw [e] at hi;simp at hi);have hid:=zt hg;clear hv hn hsame hnew;have hres:=fun (H2:Heap) b (hg2:H2.get id=.cells true (zq Box.cells (l.xs.set i b)))=>za6 (n:=10) (f:=Box.cells) (sz:=4) (fun _=>rfl) hg2 (hlen b);have hres:=Hide.mk hres;(repeat' first|simp [*,za]|(apply zb<;>intro _ h<;>try simp [-Nat.le_zero_eq] at h));rw [hst.h];exact hres.h _ _ (zu hid)
def boxO (b:Box):Prop:=(okN b.x.lo/\okN b.x.hi)/\okN b.y.lo/\okN b.y.hi
theorem zcC (n:Nat) (H:Heap) (hot:Bool) (cs:List PV) (off:Nat) (a:Int):zG (zm G (n+1)) H (.pure (.func 76 [])) [.pure (.ptr hot cs off),.pure (.int .i64 a)]=some (.upd (.pure (.ptr hot cs (off+if a=0 then 0 else 2))) H):=by
 have h:∃ v H',Vm.call G (n+1) (.fn 76) [.pure (.ptr hot cs off),.pure (.int .i64 a)] H=some (v,H')/\(v=.pure (.ptr hot cs (off+if a=0 then 0 else 2))/\H'=H):=by
  refine zc4 (k:=fun v H'=>v=.pure (.ptr hot cs (off+if a=0 then 0 else 2))/\H'=H) rfl g76 rfl ?_
  by_cases ha:a=0
  ·(repeat' first|simp [*,za,c76]|(apply zb<;>intro _ h<;>try simp [-Nat.le_zero_eq] at h))
  ·(repeat' first|simp [*,za,c76]|(apply zb<;>intro _ h<;>try simp [-Nat.le_zero_eq] at h))
 obtain ⟨v,H',h1,rfl,rfl⟩:=h;have h2:(zm G (n+1)).shared 76=true:=zsV;have h3:(zm G (n+1)).run 76 [.pure (.ptr hot cs off),.pure (.int .i64 a)] H'=some (.pure (.ptr hot cs (off+if a=0 then 0 else 2)),H'):=h1;simp only [zG,List.map_nil,List.append_nil,h2,if_true,h3]
theorem zmP {g:List Nat} {a:Nat} (h:a < g.length):zeJ (g.drop a)=((List.range 4).drop 0).map (fun k=>(g[a],k))++zeJ (g.drop (a+1)):=by
 rw [List.drop_eq_getElem_cons h];rfl
theorem zpr {i k:Nat} (h:k < 4) (r:List (Nat×Nat)):((List.range 4).drop k).map (fun k=>(i,k))++r=(i,k)::(((List.range 4).drop (k+1)).map (fun k=>(i,k))++r):=by
 rw [List.drop_eq_getElem_cons (by simpa using h)];simp
theorem zkX {g:List Nat} {a:Nat} (h:a < (zT g).length):(zT g)[a]=((g[a]'(by simpa [zT] using h):Nat):Int):=by simp [zT]
def zhT (fs:List Fact) (l:List Box) (g:List Nat) (a:Nat) (R:Option (Nat×Nat)):Prop:=R=(zeJ (g.drop a)).find? (zec fs l)
def zeb (fs:List Fact) (l:List Box) (g:List Nat) (a q k:Nat) (R:Option (Nat×Nat)):Prop:=R=(((List.range 4).drop k).map (fun k=>(q,k))++zeJ (g.drop (a+1))).find? (zec fs l)
def zl7 (l:List Box) (g:List Nat) (a:Nat) (s R:Int×(Nat×Nat)):Prop:=(zfj (g.drop a)).foldl (zb1 l) s=R
def ziA (l:List Box) (g:List Nat) (a q k:Nat) (s R:Int×(Nat×Nat)):Prop:=(((List.range 2).drop k).map (fun k=>(q,k))++zfj (g.drop (a+1))).foldl (zb1 l) s=R
def zfV:Option (Nat×Nat)->Side
 | none=>⟨0,0,false⟩
 | some s=>zdx s.1 s.2
theorem sh75:G.shared 75=false:=by decide
theorem e75 (n:Nat) (p:Problem) (ok:CheckOk p) (l:Sl Box) (g:List Nat) (hs:SubL l.xs p.boxes.xs) (hw:Wf l.xs) (hg:∀ i∈g,i < l.xs.length) (hgl:g.length<=12):zH G (n+7) 75 [.agg p.cells,l.pv Box.cells 4,z8 g]=some (.tup [.agg (zfV (zcy p.facts.xs g l.xs)).cells,.bool (zcy p.facts.xs g l.xs).isSome]):=by
 refine zy (zw _) rfl g75 rfl ?_
 rw [zbv];obtain ⟨bs,fs⟩:=p;have nb:bs.xs.length<=12:=ok.nb;have nf:fs.xs.length<=60:=ok.nf;have hll:l.xs.length=bs.xs.length:=hs.1;have hAll:=fun H=>ze (G:=G) (n:=n+6) (H:=H) (caps:=[]) (ps:=[fs.pv Fact.cells 9]) zta (e105 (n+5) fs (by omega));simp only [List.map_cons,List.map_nil] at hAll;have hAbH:Hide (∀ (i:Int) H,zG (zm G (n+6)) H (.pure (.func 106 [])) [.pure (fs.pv Fact.cells 9),.pure ((Sl.mk false (zam fs.xs.length)).pv intF 1),.pure (.int .i64 i)]=some (.val (.pure ((Sl.of (zaP fs.xs (zam fs.xs.length) i)).pv intF 1)))) :=
  ⟨fun i H=>ze (G:=G) (n:=n+6) (H:=H) (caps:=[]) (ps:=[fs.pv Fact.cells 9,(Sl.mk false (zam fs.xs.length)).pv intF 1,.int .i64 i]) zsJ (e106 (n+4) fs (Sl.mk false (zam fs.xs.length)) i (zdy _) (by simp [zaR];omega))⟩
 have hSt:Hide (∀ (i k:Nat),i < l.xs.length->k < 4->∀ H,zG (zm G (n+6)) H (.pure (.func 107 [])) [.pure (l.pv Box.cells 4),.pure (.agg (zdx i k).cells)]=some (.val (.pure ((Sl.mk false (zZ l.xs i k)).pv Box.cells 4)))) :=
  ⟨fun i k h1 h2 H=>ze (G:=G) (n:=n+6) (H:=H) (caps:=[]) (ps:=[l.pv Box.cells 4,.agg (zdx i k).cells]) zuX (e107 (n+4) l i k h1 h2 (by omega))⟩
 have hBd:Hide (∀ (i k:Nat),i < l.xs.length->k < 4->∀ H,zG (zm G (n+6)) H (.pure (.func 74 [])) [.pure (fs.pv Fact.cells 9),.pure ((Sl.of (zaP fs.xs (zam fs.xs.length) (i:Int))).pv intF 1),.pure ((Sl.mk false (zZ l.xs i k)).pv Box.cells 4)]=some (.val (.pure (.int .i64 (badI fs.xs (zZ l.xs i k) (zaP fs.xs (zam fs.xs.length) (i:Int))))))) :=
  ⟨fun i k h1 h2 H=>by
   have hal:=zj5 fs.xs (i:Int);have:=ze (G:=G) (n:=n+6) (H:=H) (caps:=[]) (ps:=[fs.pv Fact.cells 9,(Sl.of (zaP fs.xs (zam fs.xs.length) (i:Int))).pv intF 1,(Sl.mk false (zZ l.xs i k)).pv Box.cells 4]) sh74 (e74 n fs (Sl.of (zaP fs.xs (zam fs.xs.length) (i:Int))) (Sl.mk false (zZ l.xs i k)) (by rw [Sl.xs_of];exact zhC _ _) (by rw [Sl.xs_of];omega) (fun f hf=>zfH ok ((zfz hw h1 k).trans hs) (zgH hw h1 k) hf));rw [Sl.xs_of,Sl.xs_mk] at this;exact this⟩
 have ho:=zcC (n+5);have wz:IntKind.i64.wrap 0=0:=by decide
 have wo:IntKind.i64.wrap 1=1:=by decide
 have hgH:=Hide.mk hg;have hil:(zT g).length=g.length:=zaq g;generalize hR:zcy fs.xs g l.xs=R;have hR0:Hide (zhT fs.xs l.xs g 0 R):=⟨hR.symm⟩
 clear hR hg ok hs hw;(repeat' first|simp [*,za,c75,Problem.cells]|(apply zb<;>intro _ h<;>try simp [-Nat.le_zero_eq] at h))
 refine zF [(7,7),(10,14),(20,66)] (fun (a:Nat) env H=>env 20=.pure (.int .i64 a)/\a<=g.length/\0 < H.nx/\H.get 0=.cells true [.pure (.int .i64 0),.pure (.int .i64 0),.pure (.bool false)]/\Hide (zhT fs.xs l.xs g a R)) (fun a=>g.length - a) 0 ?_ ?_ ?_ ?_
 ·decide
 ·exact ⟨by simp,by omega,by simp,by simp,hR0⟩
 ·simp only [zA];omega
 clear hR0;rintro a env H ⟨g20,ha,hnx,hg0,hR⟩
 by_cases hlt:a < g.length
 ·have w0:IntKind.i64.wrap ((a:Int)+1)=(a+1:Nat):=by rw [wrap64 (by omega) (by omega)];omega
  have hltI:(a:Int) < g.length:=by omega
  have hai:a < (zT g).length:=by omega
  have hga:=zkX hai;have hq:=hgH.h g[a] (List.getElem_mem hlt);have hsn:=zmP hlt;obtain ⟨q,hqq⟩:∃ q,q=g[a]:=⟨_,rfl⟩
  rw [<- hqq] at hga hq hsn;have hqI:(q:Int) < l.xs.length:=by omega
  have had:=zax (k:=.i64) (f:=Box.cells) (sz:=4) (s:=l) hq;have hAb:=hAbH.h (q:Int);have hR1:Hide (zeb fs.xs l.xs g a q 0 R):=⟨by have:=hR.h;unfold zhT at this;rw [hsn] at this;exact this⟩
  clear hR hsn hqq;(repeat' first|simp [*,za]|(apply zb<;>intro _ h<;>try simp [-Nat.le_zero_eq] at h))
  refine zF [(7,7),(12,14),(29,65)] (fun (k:Nat) env H=>env 29=.pure (.int .i64 k)/\k<=4/\0 < H.nx/\H.get 0=.cells true [.pure (.int .i64 0),.pure (.int .i64 0),.pure (.bool false)]/\Hide (zeb fs.xs l.xs g a q k R)) (fun k=>4 - k) 0 ?_ ?_ ?_ ?_
  ·decide
  ·exact ⟨by simp,by omega,hnx,hg0,hR1⟩
  ·simp only [zA];omega
  clear hR1 hnx hg0;rintro k env H ⟨g29,hk,hnx,hg0,hR⟩
  by_cases hk4:k < 4
  ·have w1:IntKind.i64.wrap ((k:Int)+1)=(k+1:Nat):=by rw [wrap64 (by omega) (by omega)];omega
   have hkI:(k:Int) < 4:=by omega
   have q1:=zol k;have q2:=zob k;have u1:IntKind.i64.wrap ((k / 2:Nat):Int)=(k / 2:Nat):=wrap64 (by omega) (by omega);obtain ⟨ax,hax⟩:∃ ax:Nat,ax=k / 2:=⟨_,rfl⟩
   obtain ⟨hg2,hhg⟩:∃ m:Nat,m=k % 2:=⟨_,rfl⟩
   rw [<- hax] at q1 u1;rw [<- hhg] at q2;have hst:=hSt.h q k hq hk4;have hbd:=hBd.h q k hq hk4;have hsk:(zdx q k).cells=[.int .i64 q,.int .i64 ax,.bool (decide (hg2=1))]:=by simp [zdx,Side.cells,hax,hhg]
   rw [hsk] at hst;have hax2:ax=0\/ax=1:=by omega
   have hdec:decide ((hg2:Int)=1)=decide (hg2=1):=by rw [decide_eq_decide];omega
   have hP:Hide (zec fs.xs l.xs (q,k)=(decide ((axS l.xs[q] ax).lo < (axS l.xs[q] ax).hi)&&decide (0<=badI fs.xs (zZ l.xs q k) (zaP fs.xs (zam fs.xs.length) (q:Int))))):=⟨by
    unfold zec;simp only;rw [getElem!_pos l.xs q hq,<- hax]⟩
   have hRs:Hide (R=((q,k)::(((List.range 4).drop (k+1)).map (fun k=>(q,k))++zeJ (g.drop (a+1)))).find? (zec fs.xs l.xs)):=⟨by have:=hR.h;unfold zeb at this;rw [zpr hk4] at this;exact this⟩
   have hskH:Hide ((zfV (some (q,k))).point=(q:Int)/\(zfV (some (q,k))).axis=(ax:Int)/\(zfV (some (q,k))).high=decide (hg2=1)):=⟨rfl,by rw [hax];rfl,by rw [hhg];rfl⟩
   clear hR hhg hax hsk;generalize badI fs.xs (zZ l.xs q k) (zaP fs.xs (zam fs.xs.length) (q:Int))=B at *;generalize hhb:decide (hg2=1)=hb at *;clear hhb;have hne0:(0:Nat)≠H.nx:=by omega
   by_cases hb0:0<=B
   ·rcases hax2 with rfl|rfl<;>push_cast at hst
    ·by_cases hlo:l.xs[q].x.lo < l.xs[q].x.hi
     ·have hRk:R=some (q,k):=by
       rw [hRs.h,List.find?_cons_of_pos (by rw [hP.h];simp [axS,hlo,hb0])]
      subst hRk;obtain ⟨e1,e2,e3⟩:=hskH.h
      push_cast at e2
      clear hRs hP hskH;(repeat' first|simp [*,za,Box.cells,Span.cells]|(apply zb<;>intro _ h<;>try simp [-Nat.le_zero_eq] at h))
     ·have hR2:Hide (zeb fs.xs l.xs g a q (k+1) R):=⟨by
       unfold zeb;rw [hRs.h,List.find?_cons_of_neg (by rw [hP.h];simp [axS,hlo])]⟩
      clear hRs hP hskH;(repeat' first|simp [*,za,Box.cells,Span.cells]|(apply zb<;>intro _ h<;>try simp [-Nat.le_zero_eq] at h));exact ⟨k+1,by omega,by omega,by omega,hR2⟩
    ·by_cases hlo:l.xs[q].y.lo < l.xs[q].y.hi
     ·have hRk:R=some (q,k):=by
       rw [hRs.h,List.find?_cons_of_pos (by rw [hP.h];simp [axS,hlo,hb0])]
      subst hRk;obtain ⟨e1,e2,e3⟩:=hskH.h
      push_cast at e2
      clear hRs hP hskH;(repeat' first|simp [*,za,Box.cells,Span.cells]|(apply zb<;>intro _ h<;>try simp [-Nat.le_zero_eq] at h))
     ·have hR2:Hide (zeb fs.xs l.xs g a q (k+1) R):=⟨by
       unfold zeb;rw [hRs.h,List.find?_cons_of_neg (by rw [hP.h];simp [axS,hlo])]⟩
      clear hRs hP hskH;(repeat' first|simp [*,za,Box.cells,Span.cells]|(apply zb<;>intro _ h<;>try simp [-Nat.le_zero_eq] at h));exact ⟨k+1,by omega,by omega,by omega,hR2⟩
   ·have hR2:Hide (zeb fs.xs l.xs g a q (k+1) R):=⟨by
     unfold zeb;rw [hRs.h,List.find?_cons_of_neg (by rw [hP.h];simp [hb0])]⟩
    clear hRs hP hskH;rcases hax2 with rfl|rfl<;>push_cast at hst
    ·by_cases hlo:l.xs[q].x.lo < l.xs[q].x.hi
     ·(repeat' first|simp [*,za,Box.cells,Span.cells]|(apply zb<;>intro _ h<;>try simp [-Nat.le_zero_eq] at h));exact ⟨k+1,by omega,by omega,by omega,hR2⟩
     ·(repeat' first|simp [*,za,Box.cells,Span.cells]|(apply zb<;>intro _ h<;>try simp [-Nat.le_zero_eq] at h));exact ⟨k+1,by omega,by omega,by omega,hR2⟩
    ·by_cases hlo:l.xs[q].y.lo < l.xs[q].y.hi
     ·(repeat' first|simp [*,za,Box.cells,Span.cells]|(apply zb<;>intro _ h<;>try simp [-Nat.le_zero_eq] at h));exact ⟨k+1,by omega,by omega,by omega,hR2⟩
     ·(repeat' first|simp [*,za,Box.cells,Span.cells]|(apply zb<;>intro _ h<;>try simp [-Nat.le_zero_eq] at h));exact ⟨k+1,by omega,by omega,by omega,hR2⟩
  ·have hk4':k=4:=by omega
   subst hk4';have hR2:Hide (zhT fs.xs l.xs g (a+1) R):=⟨hR.h⟩
   clear hR;(repeat' first|simp [*,za]|(apply zb<;>intro _ h<;>try simp [-Nat.le_zero_eq] at h));exact ⟨a+1,by omega,by omega,by omega,hR2⟩
 ·have hag:a=g.length:=by omega
  subst hag;have hRn:R=none:=by have:=hR.h;unfold zhT at this;rw [List.drop_length] at this;exact this
  subst hRn;clear hR;(repeat' first|simp [*,za]|(apply zb<;>intro _ h<;>try simp [-Nat.le_zero_eq] at h));exact ⟨rfl,rfl,rfl⟩
theorem zp2 {g:List Nat} {a:Nat} (h:a < g.length):zfj (g.drop a)=((List.range 2).drop 0).map (fun k=>(g[a],k))++zfj (g.drop (a+1)):=by
 rw [List.drop_eq_getElem_cons h];rfl
theorem zpY {i k:Nat} (h:k < 2) (r:List (Nat×Nat)):((List.range 2).drop k).map (fun k=>(i,k))++r=(i,k)::(((List.range 2).drop (k+1)).map (fun k=>(i,k))++r):=by
 rw [List.drop_eq_getElem_cons (by simpa using h)];simp
theorem sh77:G.shared 77=false:=by decide
theorem e77 (n:Nat) (l:Sl Box) (g:List Nat) (hg:∀ i∈g,i < l.xs.length) (hne:g≠[]) (hb:∀ b∈l.xs,boxO b) (hgl:g.length<=12):zH G (n+2) 77 [l.pv Box.cells 4,z8 g]=some (.tup [.int .i64 ((zcg g l.xs).1:Nat),.int .i64 ((zcg g l.xs).2:Nat)]):=by
 refine zy (zw _) rfl g77 rfl ?_
 rw [zbv];have ho:=zcC n;have wz:IntKind.i64.wrap 0=0:=by decide
 have wo:IntKind.i64.wrap 1=1:=by decide
 have wt:IntKind.i64.wrap 2=2:=by decide
 have hsz:Hide (∀ (s:Span),okN s.lo->okN s.hi->∀ H,zG (zm G (n+1)) H (.pure (.func 92 [])) [.pure (.agg s.cells)]=some (.val (.pure (.int .i64 (s.hi - s.lo+1))))):=⟨fun s h1 h2 H=>ze (G:=G) (n:=n+1) (H:=H) (caps:=[]) (ps:=[.agg s.cells]) sh92 (e92 n s (by unfold okN at *;omega) (by unfold okN at *;omega))⟩
 have hgH:=Hide.mk hg;have hbH:=Hide.mk hb;have hil:(zT g).length=g.length:=zaq g;have hg0:0 < g.length:=List.length_pos_iff.2 hne;have hg0I:(0:Int) < g.length:=by omega
 have h00:(zT g)[0]'(by omega)=((g[0]:Nat):Int):=zkX (by omega);obtain ⟨p0,hp0⟩:∃ p0,p0=g[0]:=⟨_,rfl⟩
 rw [<- hp0] at h00;have had0:=zax (k:=.i64) (f:=intF) (sz:=1) (s:=Sl.mk false (zT g)) (n:=0) (by rw [Sl.xs_mk];omega);simp only [Sl.xs_mk,h00] at had0;rw [show (((0:Nat):Int))=0 from rfl] at had0;obtain ⟨R,hR⟩:∃ R,R=(zfj g).foldl (zb1 l.xs) (0,(g.headD 0,0)):=⟨_,rfl⟩
 have hRw:zcg g l.xs=R.2:=by rw [hR];rfl
 rw [hRw];have hhd:g.headD 0=p0:=by
  rw [hp0]
  cases g with
  | nil=>exact absurd rfl hne
  | cons x g=>rfl
 rw [hhd] at hR;have hR0:Hide (zl7 l.xs g 0 (0,(p0,0)) R):=⟨hR.symm⟩
 clear hR hRw hhd hp0 hg hb hne;obtain ⟨R1,ri,rk⟩:=R;simp only;(repeat' first|simp [*,za,c77]|(apply zb<;>intro _ h<;>try simp [-Nat.le_zero_eq] at h))
 refine zF [(6,8),(10,12),(18,40)] (fun (s:Nat×(Int×(Nat×Nat))) env H=>env 18=.pure (.int .i64 s.1)/\s.1<=g.length/\env 6=.pure (.int .i64 s.2.1)/\env 7=.pure (.int .i64 (s.2.2.1:Nat))/\env 8=.pure (.int .i64 (s.2.2.2:Nat))/\Hide (zl7 l.xs g s.1 s.2 (R1,(ri,rk)))) (fun s=>g.length - s.1) (0,(0,(p0,0))) ?_ ?_ ?_ ?_
 ·decide
 ·exact ⟨by simp,by simp,by simp,by simp,by simp,hR0⟩
 ·simp only [zA];omega
 clear hR0;rintro ⟨a,best,pt,kx⟩ env H ⟨g18,ha,g6,g7,g8,hR⟩;simp only at g18 ha g6 g7 g8 hR
 by_cases hlt:a < g.length
 ·have w0:IntKind.i64.wrap ((a:Int)+1)=(a+1:Nat):=by rw [wrap64 (by omega) (by omega)];omega
  have hltI:(a:Int) < g.length:=by omega
  have hai:a < (zT g).length:=by omega
  have hga:=zkX hai;have hq:=hgH.h g[a] (List.getElem_mem hlt);have hsn:=zp2 hlt;obtain ⟨q,hqq⟩:∃ q,q=g[a]:=⟨_,rfl⟩
  rw [<- hqq] at hga hq hsn;have hqI:(q:Int) < l.xs.length:=by omega
  have had:=zax (k:=.i64) (f:=Box.cells) (sz:=4) (s:=l) hq;have hR1:Hide (ziA l.xs g a q 0 (best,(pt,kx)) (R1,(ri,rk))):=⟨by have:=hR.h;unfold zl7 at this;rw [hsn] at this;exact this⟩
  have hbx:=hbH.h _ (List.getElem_mem hq);unfold boxO okN at hbx;have s1:=hsz.h l.xs[q].x (by unfold okN;omega) (by unfold okN;omega);have s2:=hsz.h l.xs[q].y (by unfold okN;omega) (by unfold okN;omega);simp only [Span.cells] at s1 s2;clear hR hsn hqq hbx;(repeat' first|simp [*,za]|(apply zb<;>intro _ h<;>try simp [-Nat.le_zero_eq] at h))
  refine zF [(6,8),(11,12),(22,39)] (fun (s:Nat×(Int×(Nat×Nat))) env H=>env 22=.pure (.int .i64 s.1)/\s.1<=2/\env 6=.pure (.int .i64 s.2.1)/\env 7=.pure (.int .i64 (s.2.2.1:Nat))/\env 8=.pure (.int .i64 (s.2.2.2:Nat))/\Hide (ziA l.xs g a q s.1 s.2 (R1,(ri,rk)))) (fun s=>2 - s.1) (0,(best,(pt,kx))) ?_ ?_ ?_ ?_
  ·decide
  ·exact ⟨by simp,by simp,by simp [g6],by simp [g7],by simp [g8],hR1⟩
  ·simp only [zA];omega
  clear hR1 g6 g7 g8;rintro ⟨k,best,pt,kx⟩ env H ⟨g22,hk,g6,g7,g8,hR⟩;simp only at g22 hk g6 g7 g8 hR
  by_cases hk2:k < 2
  ·have w1:IntKind.i64.wrap ((k:Int)+1)=(k+1:Nat):=by rw [wrap64 (by omega) (by omega)];omega
   have hkI:(k:Int) < 2:=by omega
   have hRs:Hide ((((List.range 2).drop (k+1)).map (fun k=>(q,k))++zfj (g.drop (a+1))).foldl (zb1 l.xs) (zb1 l.xs (best,(pt,kx)) (q,k))=(R1,(ri,rk))):=⟨by have:=hR.h;unfold ziA at this;rw [zpY hk2] at this;exact this⟩
   have hW:Hide (zb1 l.xs (best,(pt,kx)) (q,k)=if best < (axS l.xs[q] k).hi - (axS l.xs[q] k).lo+1 then ((axS l.xs[q] k).hi - (axS l.xs[q] k).lo+1,(q,k)) else (best,(pt,kx))):=⟨by
    unfold zb1 zdq;simp only;rw [getElem!_pos l.xs q hq]⟩
   clear hR;have hk01:k=0\/k=1:=by omega
   rcases hk01 with rfl|rfl
   ·by_cases hbig:best < l.xs[q].x.hi - l.xs[q].x.lo+1
    ·have hR2:Hide (ziA l.xs g a q (0+1) (l.xs[q].x.hi - l.xs[q].x.lo+1,(q,0)) (R1,(ri,rk))):=⟨by
      have:=hW.h;simp only [axS,if_true] at this;rw [if_pos hbig] at this;rw [this] at hRs;exact hRs.h⟩
     clear hRs hW;(repeat' first|simp [*,za,Box.cells,Span.cells]|(apply zb<;>intro _ h<;>try simp [-Nat.le_zero_eq] at h));exact ⟨1,by omega,by simp,by omega,q,rfl,0,rfl,hR2⟩
    ·have hR2:Hide (ziA l.xs g a q (0+1) (best,(pt,kx)) (R1,(ri,rk))):=⟨by
      have:=hW.h;simp only [axS,if_true] at this;rw [if_neg hbig] at this;rw [this] at hRs;exact hRs.h⟩
     clear hRs hW;(repeat' first|simp [*,za,Box.cells,Span.cells]|(apply zb<;>intro _ h<;>try simp [-Nat.le_zero_eq] at h));exact ⟨1,by omega,by simp,by omega,pt,rfl,kx,rfl,hR2⟩
   ·by_cases hbig:best < l.xs[q].y.hi - l.xs[q].y.lo+1
    ·have hR2:Hide (ziA l.xs g a q (1+1) (l.xs[q].y.hi - l.xs[q].y.lo+1,(q,1)) (R1,(ri,rk))):=⟨by
      have:=hW.h;simp only [axS,Nat.one_ne_zero,if_false] at this;rw [if_pos hbig] at this;rw [this] at hRs;exact hRs.h⟩
     clear hRs hW;(repeat' first|simp [*,za,Box.cells,Span.cells]|(apply zb<;>intro _ h<;>try simp [-Nat.le_zero_eq] at h));exact ⟨2,by omega,by simp [wt],by omega,q,rfl,1,rfl,hR2⟩
    ·have hR2:Hide (ziA l.xs g a q (1+1) (best,(pt,kx)) (R1,(ri,rk))):=⟨by
      have:=hW.h;simp only [axS,Nat.one_ne_zero,if_false] at this;rw [if_neg hbig] at this;rw [this] at hRs;exact hRs.h⟩
     clear hRs hW;(repeat' first|simp [*,za,Box.cells,Span.cells]|(apply zb<;>intro _ h<;>try simp [-Nat.le_zero_eq] at h));exact ⟨2,by omega,by simp [wt],by omega,pt,rfl,kx,rfl,hR2⟩
  ·have hk2':k=2:=by omega
   subst hk2';have hR2:Hide (zl7 l.xs g (a+1) (best,(pt,kx)) (R1,(ri,rk))):=⟨hR.h⟩
   clear hR;(repeat' first|simp [*,za]|(apply zb<;>intro _ h<;>try simp [-Nat.le_zero_eq] at h));exact ⟨a+1,by omega,by omega,by omega,pt,rfl,kx,rfl,hR2⟩
 ·have hag:a=g.length:=by omega
  subst hag;have hRn:(best,(pt,kx))=(R1,(ri,rk)):=by have:=hR.h;unfold zl7 at this;rw [List.drop_length] at this;exact this
  simp only [Prod.mk.injEq] at hRn;obtain ⟨rfl,rfl,rfl⟩:=hRn;clear hR;(repeat' first|simp [*,za]|(apply zb<;>intro _ h<;>try simp [-Nat.le_zero_eq] at h))
set_option maxHeartbeats 8000000
theorem zkA:G.shared 73=true:=by decide
def zcN (p:Problem) (mb ob pb gb:Nat):List AV:=[.pure (.ptr false p.cells 0),.box mb 0,.box ob 0,.box pb 0,.box gb 0]
structure GwIn (p:Problem) (g:List Nat) (mb ob pb gb bs:Nat) (M:AV) (H:Heap) (V:AV) (out:List Node):Prop where
 m:H.get mb=.cells true [M]
 mo:OwnV intF 1 H M (zeN p.facts.xs g)
 o:H.get ob=.cells true [V]
 gr:GrowV Node.cells 4 H V out
 pt:H.get pb=.cells true [.pure (z8 g)]
 gw:H.get gb=.cells true [.func 73 (zcN p mb ob pb gb)]
 mlo:∀ id,Names M id->id < bs/\id≠ob
 sep:∀ id,Names V id->bs<=id
 bs:bs<=H.nx
structure GwB (mb ob pb gb bs:Nat):Prop where
 m:mb < bs
 o:ob < bs
 p:pb < bs
 g:gb < bs
 mo:mb≠ob
 po:pb≠ob
 go:gb≠ob
structure GwOut (ob:Nat) (H H':Heap) (V V':AV) (out:List Node):Prop where
 same:Sm (fun j=>j=ob\/Names V j) H H'
 at_:H'.get ob=.cells true [V']
 gr:GrowV Node.cells 4 H' V' out
 new:∀ id,Names V' id->Names V id\/H.nx<=id
theorem GwOut.trans {ob:Nat} {H H1 H2:Heap} {V V1 V2:AV} {o1 o2:List Node} (h:GwOut ob H H1 V V1 o1) (h':GwOut ob H1 H2 V1 V2 o2):GwOut ob H H2 V V2 o2 :=
 ⟨h.same.trans h'.same fun j hj hn=>by
  rcases hn with hn|hn
  ·exact .inl hn
  ·rcases h.new j hn with h1|h1
   ·exact .inr h1
   ·omega,h'.at_,h'.gr,fun id hn=>by
  rcases h'.new id hn with h1|h1
  ·exact h.new id h1
  ·exact .inr (by have:=h.same.nx;omega)⟩
theorem GwOut.in {p:Problem} {g:List Nat} {mb ob pb gb bs:Nat} {M V V':AV} {H H':Heap} {o1 o2:List Node} (hb:GwB mb ob pb gb bs) (h:GwIn p g mb ob pb gb bs M H V o1) (h':GwOut ob H H' V V' o2):GwIn p g mb ob pb gb bs M H' V' o2:=by
 have key:∀ j,j < bs->j≠ob->H'.get j=H.get j:=fun j h1 h2=>h'.same.get j (by have:=h.bs;omega) fun h3=>by
  rcases h3 with h3|h3
  ·exact h2 h3
  ·have:=h.sep j h3;omega
 exact ⟨by rw [key mb hb.m hb.mo];exact h.m,h.mo.keep fun id ⟨n,hn⟩=>by
   have:=h.mlo id ⟨_,_,_,hn⟩;exact key id this.1 this.2,h'.at_,h'.gr,by rw [key pb hb.p hb.po];exact h.pt,by rw [key gb hb.g hb.go];exact h.gw,h.mlo,fun id hn=>by
   rcases h'.new id hn with h1|h1
   ·exact h.sep id h1
   ·have:=h.bs;omega,by have:=h.bs;have:=h'.same.nx;omega⟩
def BoxG (H:Heap) (ob bs:Nat) (v:AV) (l:List Box):Prop:=(∃ s:Sl Box,s.xs=l/\v=.pure (s.pv Box.cells 4))\/∃ id,v=.row id 4 0 l.length/\id≠ob/\id < bs/\H.get id=.cells true (zq Box.cells l)
theorem BoxG.frz {H:Heap} {ob bs:Nat} {v:AV} {l:List Box} (h:BoxG H ob bs v l):∃ s:Sl Box,s.xs=l/\FrzK H true 12 v (s.pv Box.cells 4):=by
 rcases h with ⟨s,h1,rfl⟩|⟨id,rfl,_,_,hg⟩
 ·exact ⟨s,h1,.pure _⟩
 ·exact zer (n:=10) (f:=Box.cells) (sz:=4) (fun _=>rfl) hg rfl
theorem BoxG.keep {H H':Heap} {ob bs:Nat} {v:AV} {l:List Box} (h:BoxG H ob bs v l) (hk:∀ j,j < bs->j≠ob->H'.get j=H.get j):BoxG H' ob bs v l:=by
 rcases h with h|⟨id,h1,h2,h3,hg⟩
 ·exact .inl h
 ·exact .inr ⟨id,h1,h2,h3,(hk id h3 h2).trans hg⟩
structure GrowP (p:Problem) (g:List Nat):Prop where
 ok:CheckOk p
 ne:g≠[]
 lt:∀ i∈g,i < p.boxes.xs.length
 few:g.length<=12
theorem zju {p:Problem} {g:List Nat} {mb ob pb gb bs:Nat} {M V V4:AV} {H Hs H4:Heap} {out:List Node} {a:Node} (hi:GwIn p g mb ob pb gb bs M H V out) (hg4:GrowV Node.cells 4 H4 V4 (out++[a])) (ha:After V Hs V4 H4) (hs:Sm (fun _=>False) H Hs):GwOut ob H (H4.set ob (.cells true [V4])) V V4 (out++[a]):=by
 have hon:=zt hi.o;have h1:=hs.nx;have h2:=ha.nx;exact ⟨Sm.set (Sm.trans (hs.mono fun _ _ h=>h.elim) (⟨ha.nx,ha.get⟩:Sm (Names V) Hs H4) fun j _ h=>.inr h) (.inl (.inl rfl)),zu (by omega),hg4.set (fun hn=>by have:=ha.new ob hn;omega) _,fun id hn=>.inr (by have:=ha.new id hn;omega)⟩
theorem GwIn.sm {p:Problem} {g:List Nat} {mb ob pb gb bs:Nat} {M V:AV} {H h:Heap} {out:List Node} (hi:GwIn p g mb ob pb gb bs M H V out) (hs:Sm (fun _=>False) H h):GwIn p g mb ob pb gb bs M h V out:=by
 have key:∀ j,j < H.nx->h.get j=H.get j:=fun j h1=>hs.get j h1 (fun h=>h);exact ⟨by rw [key mb (zt hi.m)];exact hi.m,hi.mo.keep fun id ⟨n,hn⟩=>key id (hi.mo.names_lt ⟨_,_,_,hn⟩),by rw [key ob (zt hi.o)];exact hi.o,⟨hi.gr.1.keep fun id ⟨n,hn⟩=>key id (hi.gr.1.names_lt ⟨_,_,_,hn⟩),hi.gr.2⟩,by rw [key pb (zt hi.pt)];exact hi.pt,by rw [key gb (zt hi.gw)];exact hi.gw,hi.mlo,hi.sep,by have:=hi.bs;have:=hs.nx;omega⟩
theorem GwOut.pre {ob:Nat} {H h H':Heap} {V V':AV} {o:List Node} (hs:Sm (fun _=>False) H h) (h':GwOut ob h H' V V' o):GwOut ob H H' V V' o :=
 ⟨(hs.mono fun _ _ h=>h.elim).trans h'.same fun _ _ h=>h,h'.at_,h'.gr,fun id hn=>by
  rcases h'.new id hn with h1|h1
  ·exact .inl h1
  ·exact .inr (by have:=hs.nx;omega)⟩
theorem zhe {p:Problem} {g:List Nat} {mb ob pb gb bs:Nat} {M V:AV} {H h:Heap} {out:List Node} (hi:GwIn p g mb ob pb gb bs M H V out) (hs:Sm (fun _=>False) H h):GwOut ob H h V V out :=
 ⟨hs.mono fun _ _ h=>h.elim,(hi.sm hs).o,(hi.sm hs).gr,fun _ h=>.inl h⟩
theorem zi7 {p:Problem} {g:List Nat} {l:List Box} {i ax:Nat} {t:Int} (hw:Wf l) (hg:∀ i∈g,i < l.length) (hne:g≠[]) (h:zbi (zcy p.facts.xs g) (zcg g) l=some (i,ax,t)):Proper l i ax t:=by
 unfold zbi at h
 cases hS:zcy p.facts.xs g l with
 | some s =>
  obtain ⟨a,k⟩:=s;rw [hS] at h;simp only [Option.some.injEq,Prod.mk.injEq] at h;obtain ⟨rfl,rfl,rfl⟩:=h;have hm:=mem_sides.1 (List.mem_of_find?_eq_some hS);have hb:=List.find?_some hS;have hil:a < l.length:=hg a hm.1;simp only [zec,Bool.and_eq_true,decide_eq_true_eq] at hb;have hk:=hm.2;simp only at hk;have h1:=hb.1;rw [getElem!_pos l a hil] at h1 ⊢
  refine ⟨hil,by omega,?_,?_⟩
  ·split<;>omega
  ·split<;>omega
 | none =>
  rw [hS] at h;simp only at h
  split at h
  ·simp at h
  ·rename_i hlh;simp only [Option.some.injEq,Prod.mk.injEq] at h;obtain ⟨rfl,rfl,rfl⟩:=h;obtain ⟨w1,w2,_⟩:=zgl hne hw hg;have hil:=hg _ w1;have hwf:=hw _ (List.getElem_mem hil);rw [getElem!_pos l _ hil] at hlh ⊢;have hle:(axS l[(zcg g l).1] (zcg g l).2).lo<=(axS l[(zcg g l).1] (zcg g l).2).hi:=by
    unfold wfB at hwf;unfold axS
    split<;>omega
   exact ⟨hil,w2,by omega,by omega⟩
theorem zq0 {cl:Callee} {b:Bool} {A B:VCode} {env:Env} {H:Heap} {Q Mid:VExit->Env->Heap->Prop} {u} (hA:b=true->wp cl A env H Mid .mk) (hB:b=false->wp cl B env H Mid .mk) (hR:∀ x e h,Mid x e h->Q x e h):wpIf b (wp cl A env H Q .mk) (wp cl B env H Q .mk) u:=by
 cases b with
 | true=>exact (zpN).2 ((hA rfl).mono hR)
 | false=>exact (ziR).2 ((hB rfl).mono hR)
def GMid (p:Problem) (H:Heap) (v:AV) (mb ob pb gb i ax:Nat) (t:Int) (x:VExit) (e:Env) (h:Heap):Prop:=x=.normal/\e 0=v/\e 1=.pure (.ptr false p.cells 0)/\e 2=.box mb 0/\e 3=.box ob 0/\e 4=.box pb 0/\e 5=.box gb 0/\e 8=.box H.nx 0/\e 10=.pure (.int .i64 t)/\Sm (fun _=>False) H h/\H.nx < h.nx/\∃ hb,h.get H.nx=.cells true [.pure (.int .i64 i),.pure (.int .i64 ax),.pure (.bool hb)]
theorem zoV {p:Problem} {g:List Nat} (hp:GrowP p g) {mb ob pb gb bs m F:Nat} (hb:GwB mb ob pb gb bs) {M:AV}
  (ih:∀ (H:Heap) (l:List Box) (V:AV) (out:List Node),muL l < m->SubL l p.boxes.xs->Wf l->out.length+(zbB p g m l).length<=30000000->GwIn p g mb ob pb gb bs M H V out ->
   ∃ H',Vm.call G (F+10) (.fn 73) ([.pure ((Sl.mk false l).pv Box.cells 4)]++zcN p mb ob pb gb) H=some (.tup [],H')/\∃ V',GwOut ob H H' V V' (out++zbB p g m l))
  (H:Heap) (v:AV) (l:List Box) (V:AV) (out:List Node) (hm:muL l < m+1) (hs:SubL l p.boxes.xs) (hw:Wf l) (hv:BoxG H ob bs v l) (hsz:out.length+(zbB p g (m+1) l).length<=30000000) (hi:GwIn p g mb ob pb gb bs M H V out) :
  ∃ H',Vm.call G (F+10+1) (.fn 73) ([v]++zcN p mb ob pb gb) H=some (.tup [],H')/\∃ V',GwOut ob H H' V V' (out++zbB p g (m+1) l):=by
 have ok:=hp.ok;have nb:=ok.nb;have nf:=ok.nf;have hll:l.length=p.boxes.xs.length:=hs.1;have hvn:v.cells=[v]/\v.one=true:=by
  rcases hv with ⟨s,_,rfl⟩|⟨id,rfl,_⟩
  ·exact ⟨by simp,by simp⟩
  ·exact ⟨rfl,rfl⟩
 have hv1:=hvn.1;have hv2:=hvn.2;have hVo:=hi.gr.1.one;have hVo1:=hVo.1;have hVo2:=hVo.2;have hMo:=hi.mo.one;have hMo1:=hMo.1;have hMo2:=hMo.2;have hmn:=zt hi.m;have hon:=zt hi.o;have hpn:=zt hi.pt;have hgn:=zt hi.gw;have g1:=hi.m;have g2:=hi.o;have g3:=hi.pt;have g4:=hi.gw;obtain ⟨sl,hslx,hslf⟩:=hv.frz;obtain ⟨sm,hsmx,hsmf⟩:=zhD (f:=intF) (sz:=1) (n:=10) (fun _=>rfl) hi.mo;have hmi:okIs p.facts.xs sm.xs:=by rw [hsmx];exact ziQ _ _
 have hml:sm.xs.length < 1000:=by rw [hsmx];have:=zoX p.facts.xs g;omega
 have hbad:zG (zm G (F+10)) H (.pure (.func 74 [])) [.pure (p.facts.pv Fact.cells 9),M,v]=some (.val (.pure (.int .i64 (badI p.facts.xs l (zeN p.facts.xs g))))):=by
  have:=zcc sh74 (.cons (.pure _) (.cons hsmf (.cons hslf .nil))) (e74 (F+4) p.facts sm sl hmi hml (fun f hf=>zfH ok (by rw [hslx];exact hs) (by rw [hslx];exact hw) hf)) rfl;rw [hslx,hsmx] at this;exact this
 have main:∃ v' H',Vm.call G (F+10+1) (.fn 73) ([v]++zcN p mb ob pb gb) H=some (v',H')/\(v'=.tup []/\∃ V',GwOut ob H H' V V' (out++zbB p g (m+1) l)):=by
  refine zc4 rfl g73 rfl ?_
  generalize hT:zbB p g (m+1) l=T at *;unfold zbB zfT at hT
  by_cases h0:0<=badI p.facts.xs l (zeN p.facts.xs g)
  ·rw [if_pos h0] at hT;generalize badI p.facts.xs l (zeN p.facts.xs g)=B at *;have hol:out.length < 30000000:=by rw [<- hT] at hsz;simp at hsz;omega
   have hiH:=Hide.mk hi;have hTH:=Hide.mk hT;clear ih hT hslf hsmf hi;(repeat' first|simp [*,za,c73,zcN,Problem.cells]|(apply zb<;>intro _ h<;>try simp [-Nat.le_zero_eq] at h))
   refine zaU (f:=Node.cells) (sz:=4) (l:=out) ((hiH.h.gr).alloc _) (fun _=>rfl) (by decide) (fun _=>rfl) (by unfold zn;omega) ⟨⟨B,0,0,0⟩,by simp [Node.cells],?_⟩
   intro V4 H4 hg4 ha4;have k2:H4.get ob=.cells true [V]:=by rw [ha4.get ob (by simp;omega) (fun hn=>by have:=hiH.h.sep ob hn;have:=hb.o;omega),zf hon];exact g2
   have hon4:ob < H4.nx:=by have:=ha4.nx;simp at this;omega
   have hgo:=Hide.mk (zju hiH.h hg4 ha4 (Sm.alloc (Sm.refl _ _)));have o4:=hg4.1.one;have o4a:=o4.1;have o4b:=o4.2;rw [hTH.h] at hgo;clear hg4 ha4 o4 hiH hv hbad;(repeat' first|simp [*,za]|(apply zb<;>intro _ h<;>try simp [-Nat.le_zero_eq] at h));exact ⟨_,hgo.h⟩
  ·rw [if_neg h0] at hT;generalize badI p.facts.xs l (zeN p.facts.xs g)=B at *;have hnat:l.length<=12:=by omega
   have hgl:∀ i∈g,i < l.length:=fun i hi=>by rw [hll];exact hp.lt i hi
   have hlo:zG (zm G (F+10)) H (.pure (.func 75 [])) [.pure (.agg p.cells),v,.pure (z8 g)]=some (.val (.pure (.tup [.agg (zfV (zcy p.facts.xs g l)).cells,.bool (zcy p.facts.xs g l).isSome]))):=by
    have:=zcc sh75 (.cons (.pure _) (.cons hslf (.cons (.pure _) .nil))) (e75 (F+3) p ok sl g (by rw [hslx];exact hs) (by rw [hslx];exact hw) (by rw [hslx];exact hgl) hp.few) rfl;rw [hslx] at this;exact this
   have hval:=zbP ok hs hw;have hbo:∀ b∈l,boxO b:=fun b hb'=>by
    have:=valid_iff.1 (hval b hb');unfold boxO okN;omega
   have hwd:∀ o o',zG (zm G (F+10)) ((H.alloc o).set H.nx o') (.pure (.func 77 [])) [v,.pure (z8 g)]=some (.val (.pure (.tup [.int .i64 ((zcg g l).1:Nat),.int .i64 ((zcg g l).2:Nat)]))):=fun o o'=>by
    obtain ⟨s2,hs2,hf2⟩:=(hv.keep (H':=(H.alloc o).set H.nx o') fun j h1 h2=>by
     have:=hi.bs;rw [zh (by omega),zf (by omega)]).frz
    have:=zcc sh77 (.cons hf2 (.cons (.pure _) .nil)) (e77 (F+8) s2 g (by rw [hs2];exact hgl) hp.ne (by rw [hs2];exact hbo) hp.few) rfl;rw [hs2] at this;exact this
   obtain ⟨S,hS⟩:∃ S,zcy p.facts.xs g l=S:=⟨_,rfl⟩
   obtain ⟨⟨wi,wk⟩,hW⟩:∃ w,zcg g l=w:=⟨_,rfl⟩
   obtain ⟨w1,w2,_⟩:=zgl hp.ne hw hgl;rw [hW] at w1 w2 hwd;simp only at w1 w2 hwd;have hwi:=hgl _ w1;rw [hS] at hlo;have hwx:pb≠H.nx:=by omega
   have hwo:ob≠H.nx:=by omega
   have hwg:gb≠H.nx:=by omega
   have hwm:mb≠H.nx:=by omega
   have hwo2:H.nx≠ob:=by omega
   cases hch:zbi (zcy p.facts.xs g) (zcg g) l with
   | none =>
    cases S with
    | some sk =>
     unfold zbi at hch;rw [hS] at hch;simp at hch
    | none =>
     rw [hch] at hT;unfold zbi at hch;rw [hS] at hch;simp only at hch;rw [hW] at hch;simp only at hch;have hil:wi < l.length:=hwi;rw [getElem!_pos l wi hil] at hch
     by_cases hlh:(axS l[wi] wk).lo=(axS l[wi] wk).hi
     case neg=>rw [if_neg hlh] at hch;simp at hch
     simp only at hT;have hiH:=Hide.mk hi;have hbx:=valid_iff.1 (hval _ (List.getElem_mem hil));have hk2:wk=0\/wk=1:=by omega
     simp only [zfV,Side.cells,Option.isSome_none,Problem.cells] at hlo;subst hT;clear hch hS hval hbo w1 w2 hwi hll hi hslf hsmf ih hW;rcases hk2 with rfl|rfl
     ·simp only [axS,if_true,if_false,Nat.one_ne_zero] at hlh;rcases hv with ⟨s,rfl,rfl⟩|⟨id,rfl,hid1,hid2,hg⟩
      ·have ho:=zcC (F+9);have hadl:=zax (k:=.i64) (f:=Box.cells) (sz:=4) (s:=s) hil;(repeat' first|simp [*,za,c73,zcN,Problem.cells,Side.cells,Box.cells,Span.cells]|(apply zb<;>intro _ h<;>try simp [-Nat.le_zero_eq] at h));exact ⟨V,zhe hiH.h (by repeat (first|exact Sm.refl _ _|refine Sm.alloc ?_|refine Sm.set ?_ (.inr (by first|omega|simp|(simp;omega)))))⟩
      ·have ho:=zdE (F+9);have hidn:=zt hg;have hid3:id≠H.nx:=by omega
       have hid4:H.nx≠id:=by omega
       have l0:=zz (own:=true) (f:=Box.cells) (sz:=4) (l:=l) (i:=wi) (size:=1) (off:=0) (fun _=>rfl) hil (by decide);have l1:=zz (own:=true) (f:=Box.cells) (sz:=4) (l:=l) (i:=wi) (size:=1) (off:=1) (fun _=>rfl) hil (by decide);have l2:=zz (own:=true) (f:=Box.cells) (sz:=4) (l:=l) (i:=wi) (size:=1) (off:=2) (fun _=>rfl) hil (by decide);have l3:=zz (own:=true) (f:=Box.cells) (sz:=4) (l:=l) (i:=wi) (size:=1) (off:=3) (fun _=>rfl) hil (by decide);rw [Nat.add_zero] at l0;have e3':wi*4+2+1=wi*4+3:=rfl;(repeat' first|simp [*,za,c73,zcN,Problem.cells,Side.cells,Box.cells,Span.cells]|(apply zb<;>intro _ h<;>try simp [-Nat.le_zero_eq] at h));exact ⟨V,zhe hiH.h (by repeat (first|exact Sm.refl _ _|refine Sm.alloc ?_|refine Sm.set ?_ (.inr (by first|omega|simp|(simp;omega)))))⟩
     ·simp only [axS,if_true,if_false,Nat.one_ne_zero] at hlh;rcases hv with ⟨s,rfl,rfl⟩|⟨id,rfl,hid1,hid2,hg⟩
      ·have ho:=zcC (F+9);have hadl:=zax (k:=.i64) (f:=Box.cells) (sz:=4) (s:=s) hil;(repeat' first|simp [*,za,c73,zcN,Problem.cells,Side.cells,Box.cells,Span.cells]|(apply zb<;>intro _ h<;>try simp [-Nat.le_zero_eq] at h));exact ⟨V,zhe hiH.h (by repeat (first|exact Sm.refl _ _|refine Sm.alloc ?_|refine Sm.set ?_ (.inr (by first|omega|simp|(simp;omega)))))⟩
      ·have ho:=zdE (F+9);have hidn:=zt hg;have hid3:id≠H.nx:=by omega
       have hid4:H.nx≠id:=by omega
       have l0:=zz (own:=true) (f:=Box.cells) (sz:=4) (l:=l) (i:=wi) (size:=1) (off:=0) (fun _=>rfl) hil (by decide);have l1:=zz (own:=true) (f:=Box.cells) (sz:=4) (l:=l) (i:=wi) (size:=1) (off:=1) (fun _=>rfl) hil (by decide);have l2:=zz (own:=true) (f:=Box.cells) (sz:=4) (l:=l) (i:=wi) (size:=1) (off:=2) (fun _=>rfl) hil (by decide);have l3:=zz (own:=true) (f:=Box.cells) (sz:=4) (l:=l) (i:=wi) (size:=1) (off:=3) (fun _=>rfl) hil (by decide);rw [Nat.add_zero] at l0;have e3':wi*4+2+1=wi*4+3:=rfl;(repeat' first|simp [*,za,c73,zcN,Problem.cells,Side.cells,Box.cells,Span.cells]|(apply zb<;>intro _ h<;>try simp [-Nat.le_zero_eq] at h));exact ⟨V,zhe hiH.h (by repeat (first|exact Sm.refl _ _|refine Sm.alloc ?_|refine Sm.set ?_ (.inr (by first|omega|simp|(simp;omega)))))⟩
   | some c =>
    obtain ⟨i,ax,t⟩:=c;have hpr:=zi7 hw hgl hp.ne hch;rw [hch] at hT;simp only at hT;have hmid:∃ b' s1 s2 s3,S.isSome=b'/\zfV S=⟨s1,s2,s3⟩:=⟨_,_,_,_,rfl,rfl⟩
    obtain ⟨bS,s1,s2,s3,hbS,hSd⟩:=hmid;rw [hbS,hSd] at hlo;simp only [Problem.cells,Side.cells] at hlo;have hTH:=Hide.mk hT;have hchH:=Hide.mk hch;have hiH:=Hide.mk hi;have hpH:=Hide.mk hpr;clear hT hi hpr hch hslf hsmf;simp [-Nat.le_zero_eq, *,za,c73,zcN,Problem.cells,Side.cells]
    refine zq0 (Mid:=GMid p H v mb ob pb gb i ax t) (fun hb1=>?_) (fun hb0=>?_) fun x e h hM=>?_
    ·subst hb1
     cases S with
     | none=>simp at hbS
     | some sk =>
      obtain ⟨a,k⟩:=sk;have hc:=hchH.h;unfold zbi at hc;rw [hS] at hc;simp only [Option.some.injEq,Prod.mk.injEq] at hc;obtain ⟨c1,c2,c3⟩:=hc;have hm:=mem_sides.1 (List.mem_of_find?_eq_some hS);have hil:a < l.length:=hgl a hm.1;rw [getElem!_pos l a hil] at c3;have hbx:=valid_iff.1 (hval _ (List.getElem_mem hil));simp only [zfV,zdx,Side.mk.injEq] at hSd;obtain ⟨d1,d2,d3⟩:=hSd;have hk4:k=0\/k=1\/k=2\/k=3:=by have:=hm.2;simp only at this;omega
      clear hS hbS hval hbo hwd hW w1 w2 hwi hm hchH hll;subst c1;rcases hk4 with rfl|rfl|rfl|rfl
      ·simp [axS] at c2 c3 d2 d3;subst c2 c3 d1 d2 d3;rcases hv with ⟨s,rfl,rfl⟩|⟨id,rfl,hid1,hid2,hg⟩
       ·have ho:=zcC (F+9);have hadl:=zax (k:=.i64) (f:=Box.cells) (sz:=4) (s:=s) hil;(repeat' first|simp [*,za,Box.cells,Span.cells]|(apply zb<;>intro _ h<;>try simp [-Nat.le_zero_eq] at h));exact ⟨rfl,by simp [za],by simp [za],by simp [za],by simp [za],by simp [za],by simp [za],by simp [za],by simp [za],(by repeat (first|exact Sm.refl _ _|refine Sm.alloc ?_|refine Sm.set ?_ (.inr (by first|omega|simp|(simp;omega))))),by simp,_,by simp;rfl⟩
       ·have ho:=zdE (F+9);have hidn:=zt hg;have hid3:id≠H.nx:=by omega
        have hid4:H.nx≠id:=by omega
        have l0:=zz (own:=true) (f:=Box.cells) (sz:=4) (l:=l) (i:=a) (size:=1) (off:=0) (fun _=>rfl) hil (by decide);have l1:=zz (own:=true) (f:=Box.cells) (sz:=4) (l:=l) (i:=a) (size:=1) (off:=1) (fun _=>rfl) hil (by decide);have l2:=zz (own:=true) (f:=Box.cells) (sz:=4) (l:=l) (i:=a) (size:=1) (off:=2) (fun _=>rfl) hil (by decide);have l3:=zz (own:=true) (f:=Box.cells) (sz:=4) (l:=l) (i:=a) (size:=1) (off:=3) (fun _=>rfl) hil (by decide);rw [Nat.add_zero] at l0;have e3':a*4+2+1=a*4+3:=rfl;(repeat' first|simp [*,za,Box.cells,Span.cells]|(apply zb<;>intro _ h<;>try simp [-Nat.le_zero_eq] at h));exact ⟨rfl,by simp [za],by simp [za],by simp [za],by simp [za],by simp [za],by simp [za],by simp [za],by simp [za],(by repeat (first|exact Sm.refl _ _|refine Sm.alloc ?_|refine Sm.set ?_ (.inr (by first|omega|simp|(simp;omega))))),by simp,_,by simp;rfl⟩
      ·simp [axS] at c2 c3 d2 d3;subst c2 c3 d1 d2 d3;have w1:IntKind.i64.wrap (l[a].x.hi - 1)=l[a].x.hi - 1:=wrap64 (by omega) (by omega);rcases hv with ⟨s,rfl,rfl⟩|⟨id,rfl,hid1,hid2,hg⟩
       ·have ho:=zcC (F+9);have hadl:=zax (k:=.i64) (f:=Box.cells) (sz:=4) (s:=s) hil;(repeat' first|simp [*,za,Box.cells,Span.cells]|(apply zb<;>intro _ h<;>try simp [-Nat.le_zero_eq] at h));exact ⟨rfl,by simp [za],by simp [za],by simp [za],by simp [za],by simp [za],by simp [za],by simp [za],by simp [za],(by repeat (first|exact Sm.refl _ _|refine Sm.alloc ?_|refine Sm.set ?_ (.inr (by first|omega|simp|(simp;omega))))),by simp,_,by simp;rfl⟩
       ·have ho:=zdE (F+9);have hidn:=zt hg;have hid3:id≠H.nx:=by omega
        have hid4:H.nx≠id:=by omega
        have l0:=zz (own:=true) (f:=Box.cells) (sz:=4) (l:=l) (i:=a) (size:=1) (off:=0) (fun _=>rfl) hil (by decide);have l1:=zz (own:=true) (f:=Box.cells) (sz:=4) (l:=l) (i:=a) (size:=1) (off:=1) (fun _=>rfl) hil (by decide);have l2:=zz (own:=true) (f:=Box.cells) (sz:=4) (l:=l) (i:=a) (size:=1) (off:=2) (fun _=>rfl) hil (by decide);have l3:=zz (own:=true) (f:=Box.cells) (sz:=4) (l:=l) (i:=a) (size:=1) (off:=3) (fun _=>rfl) hil (by decide);rw [Nat.add_zero] at l0;have e3':a*4+2+1=a*4+3:=rfl;(repeat' first|simp [*,za,Box.cells,Span.cells]|(apply zb<;>intro _ h<;>try simp [-Nat.le_zero_eq] at h));exact ⟨rfl,by simp [za],by simp [za],by simp [za],by simp [za],by simp [za],by simp [za],by simp [za],by simp [za],(by repeat (first|exact Sm.refl _ _|refine Sm.alloc ?_|refine Sm.set ?_ (.inr (by first|omega|simp|(simp;omega))))),by simp,_,by simp;rfl⟩
      ·simp [axS] at c2 c3 d2 d3;subst c2 c3 d1 d2 d3;rcases hv with ⟨s,rfl,rfl⟩|⟨id,rfl,hid1,hid2,hg⟩
       ·have ho:=zcC (F+9);have hadl:=zax (k:=.i64) (f:=Box.cells) (sz:=4) (s:=s) hil;(repeat' first|simp [*,za,Box.cells,Span.cells]|(apply zb<;>intro _ h<;>try simp [-Nat.le_zero_eq] at h));exact ⟨rfl,by simp [za],by simp [za],by simp [za],by simp [za],by simp [za],by simp [za],by simp [za],by simp [za],(by repeat (first|exact Sm.refl _ _|refine Sm.alloc ?_|refine Sm.set ?_ (.inr (by first|omega|simp|(simp;omega))))),by simp,_,by simp;rfl⟩
       ·have ho:=zdE (F+9);have hidn:=zt hg;have hid3:id≠H.nx:=by omega
        have hid4:H.nx≠id:=by omega
        have l0:=zz (own:=true) (f:=Box.cells) (sz:=4) (l:=l) (i:=a) (size:=1) (off:=0) (fun _=>rfl) hil (by decide);have l1:=zz (own:=true) (f:=Box.cells) (sz:=4) (l:=l) (i:=a) (size:=1) (off:=1) (fun _=>rfl) hil (by decide);have l2:=zz (own:=true) (f:=Box.cells) (sz:=4) (l:=l) (i:=a) (size:=1) (off:=2) (fun _=>rfl) hil (by decide);have l3:=zz (own:=true) (f:=Box.cells) (sz:=4) (l:=l) (i:=a) (size:=1) (off:=3) (fun _=>rfl) hil (by decide);rw [Nat.add_zero] at l0;have e3':a*4+2+1=a*4+3:=rfl;(repeat' first|simp [*,za,Box.cells,Span.cells]|(apply zb<;>intro _ h<;>try simp [-Nat.le_zero_eq] at h));exact ⟨rfl,by simp [za],by simp [za],by simp [za],by simp [za],by simp [za],by simp [za],by simp [za],by simp [za],(by repeat (first|exact Sm.refl _ _|refine Sm.alloc ?_|refine Sm.set ?_ (.inr (by first|omega|simp|(simp;omega))))),by simp,_,by simp;rfl⟩
      ·simp [axS] at c2 c3 d2 d3;subst c2 c3 d1 d2 d3;have w1:IntKind.i64.wrap (l[a].y.hi - 1)=l[a].y.hi - 1:=wrap64 (by omega) (by omega);rcases hv with ⟨s,rfl,rfl⟩|⟨id,rfl,hid1,hid2,hg⟩
       ·have ho:=zcC (F+9);have hadl:=zax (k:=.i64) (f:=Box.cells) (sz:=4) (s:=s) hil;(repeat' first|simp [*,za,Box.cells,Span.cells]|(apply zb<;>intro _ h<;>try simp [-Nat.le_zero_eq] at h));exact ⟨rfl,by simp [za],by simp [za],by simp [za],by simp [za],by simp [za],by simp [za],by simp [za],by simp [za],(by repeat (first|exact Sm.refl _ _|refine Sm.alloc ?_|refine Sm.set ?_ (.inr (by first|omega|simp|(simp;omega))))),by simp,_,by simp;rfl⟩
       ·have ho:=zdE (F+9);have hidn:=zt hg;have hid3:id≠H.nx:=by omega
        have hid4:H.nx≠id:=by omega
        have l0:=zz (own:=true) (f:=Box.cells) (sz:=4) (l:=l) (i:=a) (size:=1) (off:=0) (fun _=>rfl) hil (by decide);have l1:=zz (own:=true) (f:=Box.cells) (sz:=4) (l:=l) (i:=a) (size:=1) (off:=1) (fun _=>rfl) hil (by decide);have l2:=zz (own:=true) (f:=Box.cells) (sz:=4) (l:=l) (i:=a) (size:=1) (off:=2) (fun _=>rfl) hil (by decide);have l3:=zz (own:=true) (f:=Box.cells) (sz:=4) (l:=l) (i:=a) (size:=1) (off:=3) (fun _=>rfl) hil (by decide);rw [Nat.add_zero] at l0;have e3':a*4+2+1=a*4+3:=rfl;(repeat' first|simp [*,za,Box.cells,Span.cells]|(apply zb<;>intro _ h<;>try simp [-Nat.le_zero_eq] at h));exact ⟨rfl,by simp [za],by simp [za],by simp [za],by simp [za],by simp [za],by simp [za],by simp [za],by simp [za],(by repeat (first|exact Sm.refl _ _|refine Sm.alloc ?_|refine Sm.set ?_ (.inr (by first|omega|simp|(simp;omega))))),by simp,_,by simp;rfl⟩
    ·subst hb0
     cases S with
     | some sk=>simp at hbS
     | none =>
      have hc:=hchH.h;unfold zbi at hc;rw [hS] at hc;simp only at hc;rw [hW] at hc;simp only at hc;have hil:wi < l.length:=hwi;rw [getElem!_pos l wi hil] at hc
      by_cases hlh:(axS l[wi] wk).lo=(axS l[wi] wk).hi
      ·rw [if_pos hlh] at hc;simp at hc
      rw [if_neg hlh] at hc;simp only [Option.some.injEq,Prod.mk.injEq] at hc;obtain ⟨c1,c2,c3⟩:=hc;have hbx:=valid_iff.1 (hval _ (List.getElem_mem hil));simp only [zfV,Side.mk.injEq] at hSd;obtain ⟨d1,d2,d3⟩:=hSd;have hk2:wk=0\/wk=1:=by omega
      clear hS hbS hval hbo w1 w2 hchH hwi hll;subst c1 d1 d2 d3;rcases hk2 with rfl|rfl
      ·simp only [axS,if_true,if_false,Nat.one_ne_zero] at c3 hlh;subst c2 c3;have q1:Int.tdiv (l[wi].x.hi - l[wi].x.lo) 2=(l[wi].x.hi - l[wi].x.lo) / 2:=Int.tdiv_eq_ediv_of_nonneg (by omega);have u1:IntKind.i64.wrap (l[wi].x.hi - l[wi].x.lo)=l[wi].x.hi - l[wi].x.lo:=wrap64 (by omega) (by omega);have u2:IntKind.i64.wrap ((l[wi].x.hi - l[wi].x.lo) / 2)=(l[wi].x.hi - l[wi].x.lo) / 2:=wrap64 (by omega) (by omega);have u3:IntKind.i64.wrap (l[wi].x.lo+(l[wi].x.hi - l[wi].x.lo) / 2)=l[wi].x.lo+(l[wi].x.hi - l[wi].x.lo) / 2:=wrap64 (by omega) (by omega);rcases hv with ⟨s,rfl,rfl⟩|⟨id,rfl,hid1,hid2,hg⟩
       ·have ho:=zcC (F+9);have hadl:=zax (k:=.i64) (f:=Box.cells) (sz:=4) (s:=s) hil;(repeat' first|simp [*,za,Box.cells,Span.cells]|(apply zb<;>intro _ h<;>try simp [-Nat.le_zero_eq] at h));exact ⟨rfl,by simp [za],by simp [za],by simp [za],by simp [za],by simp [za],by simp [za],by simp [za],by simp [za],(by repeat (first|exact Sm.refl _ _|refine Sm.alloc ?_|refine Sm.set ?_ (.inr (by first|omega|simp|(simp;omega))))),by simp,_,by simp;rfl⟩
       ·have ho:=zdE (F+9);have hidn:=zt hg;have hid3:id≠H.nx:=by omega
        have hid4:H.nx≠id:=by omega
        have l0:=zz (own:=true) (f:=Box.cells) (sz:=4) (l:=l) (i:=wi) (size:=1) (off:=0) (fun _=>rfl) hil (by decide);have l1:=zz (own:=true) (f:=Box.cells) (sz:=4) (l:=l) (i:=wi) (size:=1) (off:=1) (fun _=>rfl) hil (by decide);have l2:=zz (own:=true) (f:=Box.cells) (sz:=4) (l:=l) (i:=wi) (size:=1) (off:=2) (fun _=>rfl) hil (by decide);have l3:=zz (own:=true) (f:=Box.cells) (sz:=4) (l:=l) (i:=wi) (size:=1) (off:=3) (fun _=>rfl) hil (by decide);rw [Nat.add_zero] at l0;have e3':wi*4+2+1=wi*4+3:=rfl;(repeat' first|simp [*,za,Box.cells,Span.cells]|(apply zb<;>intro _ h<;>try simp [-Nat.le_zero_eq] at h));exact ⟨rfl,by simp [za],by simp [za],by simp [za],by simp [za],by simp [za],by simp [za],by simp [za],by simp [za],(by repeat (first|exact Sm.refl _ _|refine Sm.alloc ?_|refine Sm.set ?_ (.inr (by first|omega|simp|(simp;omega))))),by simp,_,by simp;rfl⟩
      ·simp only [axS,if_true,if_false,Nat.one_ne_zero] at c3 hlh;subst c2 c3;have q1:Int.tdiv (l[wi].y.hi - l[wi].y.lo) 2=(l[wi].y.hi - l[wi].y.lo) / 2:=Int.tdiv_eq_ediv_of_nonneg (by omega);have u1:IntKind.i64.wrap (l[wi].y.hi - l[wi].y.lo)=l[wi].y.hi - l[wi].y.lo:=wrap64 (by omega) (by omega);have u2:IntKind.i64.wrap ((l[wi].y.hi - l[wi].y.lo) / 2)=(l[wi].y.hi - l[wi].y.lo) / 2:=wrap64 (by omega) (by omega);have u3:IntKind.i64.wrap (l[wi].y.lo+(l[wi].y.hi - l[wi].y.lo) / 2)=l[wi].y.lo+(l[wi].y.hi - l[wi].y.lo) / 2:=wrap64 (by omega) (by omega);rcases hv with ⟨s,rfl,rfl⟩|⟨id,rfl,hid1,hid2,hg⟩
       ·have ho:=zcC (F+9);have hadl:=zax (k:=.i64) (f:=Box.cells) (sz:=4) (s:=s) hil;(repeat' first|simp [*,za,Box.cells,Span.cells]|(apply zb<;>intro _ h<;>try simp [-Nat.le_zero_eq] at h));exact ⟨rfl,by simp [za],by simp [za],by simp [za],by simp [za],by simp [za],by simp [za],by simp [za],by simp [za],(by repeat (first|exact Sm.refl _ _|refine Sm.alloc ?_|refine Sm.set ?_ (.inr (by first|omega|simp|(simp;omega))))),by simp,_,by simp;rfl⟩
       ·have ho:=zdE (F+9);have hidn:=zt hg;have hid3:id≠H.nx:=by omega
        have hid4:H.nx≠id:=by omega
        have l0:=zz (own:=true) (f:=Box.cells) (sz:=4) (l:=l) (i:=wi) (size:=1) (off:=0) (fun _=>rfl) hil (by decide);have l1:=zz (own:=true) (f:=Box.cells) (sz:=4) (l:=l) (i:=wi) (size:=1) (off:=1) (fun _=>rfl) hil (by decide);have l2:=zz (own:=true) (f:=Box.cells) (sz:=4) (l:=l) (i:=wi) (size:=1) (off:=2) (fun _=>rfl) hil (by decide);have l3:=zz (own:=true) (f:=Box.cells) (sz:=4) (l:=l) (i:=wi) (size:=1) (off:=3) (fun _=>rfl) hil (by decide);rw [Nat.add_zero] at l0;have e3':wi*4+2+1=wi*4+3:=rfl;(repeat' first|simp [*,za,Box.cells,Span.cells]|(apply zb<;>intro _ h<;>try simp [-Nat.le_zero_eq] at h));exact ⟨rfl,by simp [za],by simp [za],by simp [za],by simp [za],by simp [za],by simp [za],by simp [za],by simp [za],(by repeat (first|exact Sm.refl _ _|refine Sm.alloc ?_|refine Sm.set ?_ (.inr (by first|omega|simp|(simp;omega))))),by simp,_,by simp;rfl⟩
    ·obtain ⟨rfl,e0,e1,e2,e3,e4,e5,e8,e10,hsm,hnx,hbb,hsb⟩:=hM;have hgm:=hiH.h.sm hsm;have hbse:=hiH.h.bs;have hne:=hsm.nx;have hoh:ob < h.nx:=by omega
     have hgh:gb < h.nx:=by omega
     have k2:=hgm.o;have k4:=hgm.gw;have hvk:BoxG h ob bs v l:=hv.keep fun j h1 h2=>hsm.get j (by omega) (fun h=>h);have hil:=hpH.h.il;have hx2:=hpH.h.al;have htO:okN t:=by
      have h1:=hpH.h.lo;have h2:=hpH.h.hi;have hbx:=valid_iff.1 (hval _ (List.getElem_mem hil));unfold okN;unfold axS at h1 h2
      by_cases e:ax=0
      ·simp only [e,if_true] at h1 h2;omega
      ·simp only [e,if_false] at h1 h2;omega
     have hcut:Hide (∀ (H':Heap) (ab:Bool),(∀ j,j < bs->j≠ob->H'.get j=h.get j)->zG (zm G (F+10)) H' (.pure (.func 78 [])) [v,.pure (.int .i64 (i:Nat)),.pure (.int .i64 (ax:Nat)),.pure (.int .i64 t),.pure (.bool ab)]=some (.val (.pure ((Sl.mk false (cutH l i ax t ab)).pv Box.cells 4)))):=⟨fun H' ab hk=>by
      obtain ⟨s2,hs2,hf2⟩:=(hvk.keep hk).frz;have:=zcc sh78 (.cons hf2 (.cons (.pure _) (.cons (.pure _) (.cons (.pure _) (.cons (.pure _) .nil))))) (e78 (F+8) s2 i ax t ab (by rw [hs2];exact hil) hx2 (by rw [hs2];omega) htO) (zdi _);rw [hs2] at this;exact this⟩
     have m1:=zkT hpH.h;have m2:=zhj hpH.h;obtain ⟨z1,z2,z3,z4⟩:=zkn (hw _ (List.getElem_mem hil)) hpH.h.lo hpH.h.hi;have q1:=(SubL.refl l).set (i:=i) z3;have q2:=(SubL.refl l).set (i:=i) z4;rw [List.set_getElem_self,<- zcH hil] at q1;rw [List.set_getElem_self,<- zbS hil] at q2;have j1:=hw.set (i:=i) z1;have j2:=hw.set (i:=i) z2;rw [<- zcH hil] at j1;rw [<- zbS hil] at j2;have hTe:T=⟨-1,i,ax,t⟩::(zbB p g m (lowL l i ax t)++zbB p g m (za2 l i ax t)):=hTH.h.symm;have hsz2:out.length+(1+((zbB p g m (lowL l i ax t)).length+(zbB p g m (za2 l i ax t)).length))<=30000000:=by
      rw [hTe] at hsz;simp only [List.length_cons,List.length_append] at hsz;omega
     have ih1:=Hide.mk fun (H:Heap) (V:AV) (out:List Node)=>ih H (lowL l i ax t) V out (by omega) (q1.trans hs) j1;have ih2:=Hide.mk fun (H:Heap) (V:AV) (out:List Node)=>ih H (za2 l i ax t) V out (by omega) (q2.trans hs) j2;have hTeH:=Hide.mk hTe;have cA:=Hide.mk fun (H':Heap)=>hcut.h H' false;have cB:=Hide.mk fun (H':Heap)=>hcut.h H' true;have ec1:cutH l i ax t false=lowL l i ax t:=rfl;have ec2:cutH l i ax t true=za2 l i ax t:=rfl;rw [ec1] at cA;rw [ec2] at cB;have hhi:=Hide.mk hgm;have hol:out.length < 30000000:=by omega
     clear ih m1 m2 z1 z2 z3 z4 q1 q2 j1 j2 hTH hTe hgm hcut ec1 ec2 hlo hwd hbad hval hbo g1 g2 g3 g4 hS hbS hSd hW hll hsz hm hs hw hv;generalize zbB p g m (lowL l i ax t)=T1 at *;generalize zbB p g m (za2 l i ax t)=T2 at *;generalize lowL l i ax t=L1 at *;generalize za2 l i ax t=L2 at *;(repeat' first|simp [*,za]|(apply zb<;>intro _ h<;>try simp [-Nat.le_zero_eq] at h))
     refine zaU (f:=Node.cells) (sz:=4) (l:=out) ((hhi.h.gr).alloc _) (fun _=>rfl) (by decide) (fun _=>rfl) (by unfold zn;omega) ⟨⟨-1,i,ax,t⟩,by simp [Node.cells],?_⟩
     intro V4 H4 hg4 ha4;have hnob:¬ Names V ob:=fun hn=>by have:=hhi.h.sep ob hn;have:=hb.o;omega
     have hnnx:¬ Names V H.nx:=fun hn=>by have:=hiH.h.gr.1.names_lt hn;omega
     have r2:H4.get ob=.cells true [V]:=by rw [ha4.get ob (by simp;omega) hnob,zf hoh];exact k2
     have r3:H4.get H.nx=.cells true [.pure (.int .i64 i),.pure (.int .i64 ax),.pure (.bool hbb)]:=by rw [ha4.get H.nx (by simp;omega) hnnx,zf hnx];exact hsb
     have hn4:h.nx < H4.nx:=by have:=ha4.nx;simp at this;omega
     have hon4:ob < H4.nx:=by omega
     have hxn4:H.nx < H4.nx:=by omega
     have hgo:=zju hhi.h hg4 ha4 (Sm.alloc (Sm.refl _ _));have gi4:=hgo.in hb hhi.h;have gg4:=gi4.gw;have c1:=cA.h (H4.set ob (.cells true [V4])) fun j h1 h2=>hgo.same.get j (by omega) fun h3=>by
      rcases h3 with h3|h3
      ·exact h2 h3
      ·have:=hhi.h.sep j h3;omega
     have hn4v:∀ id,Names V4 id->h.nx < id:=fun id hn=>by have:=ha4.new id hn;simp at this;omega
     have ih1':=ih1.h _ V4 (out++[⟨-1,i,ax,t⟩]) (by simp;omega) gi4;have o4:=hg4.1.one;have o4a:=o4.1;have o4b:=o4.2;have hgoH:=Hide.mk hgo;have gi4H:=Hide.mk gi4;have ih1H:=Hide.mk ih1';have hn4vH:=Hide.mk hn4v;rw [zh (by intro e;exact hb.go e)] at gg4;have ego:=hb.go;have hgn4:gb < H4.nx:=by omega
     clear hg4 ha4 o4 hgo gi4 ih1 ih1' hn4v cA hsb k2 k4;(repeat' first|simp [*,za]|(apply zb<;>intro _ h<;>try simp [-Nat.le_zero_eq] at h))
     refine zaX (n:=F+9) zkA (zcu ih1H.h ?_)
     rintro H5 ⟨V5,o5⟩;have gi5:=o5.in hb gi4H.h;have s5:H5.get H.nx=.cells true [.pure (.int .i64 i),.pure (.int .i64 ax),.pure (.bool hbb)]:=by
      rw [o5.same.get H.nx (by rw [zaG];exact hxn4) (fun hE=>by
       rcases hE with hE|hE
       ·exact hwo2 hE
       ·have:=hn4vH.h _ hE;omega),zh hwo2]
      exact r3
     have n5:=o5.same.nx;rw [zaG] at n5;have hxn5:H.nx < H5.nx:=by omega
     have c2:=cB.h H5 fun j h1 h2=>(o5.same.get j (by rw [zaG];omega) fun h3=>by
      rcases h3 with h3|h3
      ·exact h2 h3
      ·have:=hn4vH.h j h3;omega).trans (hgoH.h.same.get j (by omega) fun h3=>by
      rcases h3 with h3|h3
      ·exact h2 h3
      ·have:=hhi.h.sep j h3;omega)
     have gg5:=gi5.gw;have hgn5:gb < H5.nx:=by omega
     have ih2':=ih2.h _ V5 (out++[⟨-1,i,ax,t⟩]++T1) (by simp;omega) gi5;have ih2H:=Hide.mk ih2';have hg5:=Hide.mk (hgoH.h.trans o5);clear o5 gi5 ih2 ih2' cB r2 r3 gg4 c1 hgoH gi4H ih1H;(repeat' first|simp [*,za]|(apply zb<;>intro _ h<;>try simp [-Nat.le_zero_eq] at h))
     refine zaX (n:=F+9) zkA (zcu ih2H.h ?_)
     rintro H6 ⟨V6,o6⟩;have hg6:=Hide.mk ((hg5.h.trans o6).pre hsm);clear o6 hg5 ih2H c2 s5 gg5;(repeat' first|simp [*,za]|(apply zb<;>intro _ h<;>try simp [-Nat.le_zero_eq] at h));exact ⟨V6,by have:=hg6.h;rw [hTeH.h];simpa [List.append_assoc] using this⟩
 obtain ⟨v',H',h1,rfl,h2⟩:=main;exact ⟨H',h1,h2⟩
theorem zjc {p:Problem} {g:List Nat} (hp:GrowP p g) {mb ob pb gb bs:Nat} (hb:GwB mb ob pb gb bs) {M:AV}:∀ (m n:Nat) (H:Heap) (v:AV) (l:List Box) (V:AV) (out:List Node),muL l < m->SubL l p.boxes.xs->Wf l->BoxG H ob bs v l->out.length+(zbB p g m l).length<=30000000->GwIn p g mb ob pb gb bs M H V out ->
  ∃ H',Vm.call G (n+m+10) (.fn 73) ([v]++zcN p mb ob pb gb) H=some (.tup [],H')/\∃ V',GwOut ob H H' V V' (out++zbB p g m l)
 | 0,n,H,v,l,V,out,hm,_,_,_,_,_=>absurd hm (Nat.not_lt_zero _)
 | m+1,n,H,v,l,V,out,hm,hs,hw,hv,hl,hi =>
  zoV hp (m:=m) (F:=n+m) hb (fun H l V out hm hs hw hl hi=>zjc hp hb m n H _ l V out hm hs hw (.inl ⟨_,rfl,rfl⟩) hl hi) H v l V out hm hs hw hv hl hi
end Go.Proofs.YtmmhnfghklppiaaGreat.Vm
