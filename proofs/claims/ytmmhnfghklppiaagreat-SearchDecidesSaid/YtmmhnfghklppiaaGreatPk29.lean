/- search.cut: boxes one of which is cut. search.loose and search.wide: walked. -/
import Derived.Test.YtmmhnfghklppiaaGreatPk20
import Derived.Test.YtmmhnfghklppiaaGreatPk9
import Derived.Test.YtmmhnfghklppiaaGreatPk26
import Derived.Test.YtmmhnfghklppiaaGreatPk25
import Derived.Test.YtmmhnfghklppiaaGreatPk23
namespace Go.Proofs.YtmmhnfghklppiaaGreat.Vm
open Go
set_option linter.unusedSimpArgs false
set_option linter.unusedVariables false
set_option maxHeartbeats 4000000
set_option maxRecDepth 4000
def okN (t:Int):Prop:=-1048576<=t/\t<=1048576
def cutH (l:List Box) (i ax:Nat) (t:Int) (above:Bool):List Box:=if above then za2 l i ax t else lowL l i ax t
theorem zsn {l:List Box} {i:Nat} (hi:i < l.length) (ax:Nat) (t:Int) (above:Bool):cutH l i ax t above=l.set i (if above then zc6 l[i] ax t else lowS l[i] ax t):=by
 unfold cutH
 cases above
 ·simp [zca hi]
 ·simp [zbD hi]
theorem sh78:G.shared 78=false:=by decide
theorem e78 (n:Nat) (l:Sl Box) (i ax:Nat) (t:Int) (above:Bool) (hi:i < l.xs.length) (hx:ax < 2) (hl:l.xs.length < 1000) (ht:okN t):zH G (n+2) 78 [l.pv Box.cells 4,.int .i64 i,.int .i64 ax,.int .i64 t,.bool above]=some ((Sl.mk false (cutH l.xs i ax t above)).pv Box.cells 4):=by
 refine zy (zx _) rfl g78 rfl ?_
 have ho:=zeg n;have hst:=Hide.mk (zsn hi ax t above);have p1:=zgN hi;have p2:=zgJ hi;have p3:=zg5 hi;have p4:=zg3 hi;have e3:i*4+2+1=i*4+3:=rfl;have hlen:∀ b,(l.xs.set i b).length=l.xs.length:=fun b=>by simp
 have ht1:=ht.1;have ht2:=ht.2;have w1:IntKind.i64.wrap (t+1)=t+1:=wrap64 (by omega) (by omega);have hxx:ax=0\/ax=1:=by omega
 clear hx;rcases hxx with rfl|rfl<;>cases above
 all_goals
  (repeat' first|simp [*,za,c78]|(apply zb<;>intro _ h<;>try simp [-Nat.le_zero_eq] at h))
  refine zbv hl ?_
  intro v' H' hv hn hnx hsame hnew;obtain ⟨id,rfl,hg⟩:=hv.row (by intro e;rw [e] at hi;simp at hi);have hid:=zo hg;clear hv hn hsame hnew;have hres:=fun (H2:Heap) b (hg2:H2.get id=.cells true (zn Box.cells (l.xs.set i b)))=>zba (n:=10) (f:=Box.cells) (sz:=4) (fun _=>rfl) hg2 (hlen b);have hres:=Hide.mk hres;(repeat' first|simp [*,za]|(apply zb<;>intro _ h<;>try simp [-Nat.le_zero_eq] at h));rw [hst.h];exact hres.h _ _ (zq hid)
def boxO (b:Box):Prop:=(okN b.x.lo/\okN b.x.hi)/\okN b.y.lo/\okN b.y.hi
theorem zcZ (n:Nat) (H:Heap) (hot:Bool) (cs:List PV) (off:Nat) (a:Int):zG (zt G (n+1)) H (.pure (.func 76 [])) [.pure (.ptr hot cs off),.pure (.int .i64 a)]=some (.upd (.pure (.ptr hot cs (off+if a=0 then 0 else 2))) H):=by
 have h:∃ v H',Vm.call G (n+1) (.fn 76) [.pure (.ptr hot cs off),.pure (.int .i64 a)] H=some (v,H')/\(v=.pure (.ptr hot cs (off+if a=0 then 0 else 2))/\H'=H):=by
  refine zbY (k:=fun v H'=>v=.pure (.ptr hot cs (off+if a=0 then 0 else 2))/\H'=H) rfl g76 rfl ?_
  by_cases ha:a=0
  ·(repeat' first|simp [*,za,c76]|(apply zb<;>intro _ h<;>try simp [-Nat.le_zero_eq] at h))
  ·(repeat' first|simp [*,za,c76]|(apply zb<;>intro _ h<;>try simp [-Nat.le_zero_eq] at h))
 obtain ⟨v,H',h1,rfl,rfl⟩:=h;have h2:(zt G (n+1)).shared 76=true:=zto;have h3:(zt G (n+1)).run 76 [.pure (.ptr hot cs off),.pure (.int .i64 a)] H'=some (.pure (.ptr hot cs (off+if a=0 then 0 else 2)),H'):=h1;simp only [zG,List.map_nil,List.append_nil,h2,if_true,h3]
theorem znE {g:List Nat} {a:Nat} (h:a < g.length):zeY (g.drop a)=((List.range 4).drop 0).map (fun k=>(g[a],k))++zeY (g.drop (a+1)):=by
 rw [List.drop_eq_getElem_cons h];rfl
theorem zpG {i k:Nat} (h:k < 4) (r:List (Nat×Nat)):((List.range 4).drop k).map (fun k=>(i,k))++r=(i,k)::(((List.range 4).drop (k+1)).map (fun k=>(i,k))++r):=by
 rw [List.drop_eq_getElem_cons (by simpa using h)];simp
theorem zlg {g:List Nat} {a:Nat} (h:a < (zM g).length):(zM g)[a]=((g[a]'(by simpa [zM] using h):Nat):Int):=by simp [zM]
def ziK (fs:List Fact) (l:List Box) (g:List Nat) (a:Nat) (R:Option (Nat×Nat)):Prop:=R=(zeY (g.drop a)).find? (zeF fs l)
def zev (fs:List Fact) (l:List Box) (g:List Nat) (a q k:Nat) (R:Option (Nat×Nat)):Prop:=R=(((List.range 4).drop k).map (fun k=>(q,k))++zeY (g.drop (a+1))).find? (zeF fs l)
def zmO (l:List Box) (g:List Nat) (a:Nat) (s R:Int×(Nat×Nat)):Prop:=(zfB (g.drop a)).foldl (zcm l) s=R
def zhT (l:List Box) (g:List Nat) (a q k:Nat) (s R:Int×(Nat×Nat)):Prop:=(((List.range 2).drop k).map (fun k=>(q,k))++zfB (g.drop (a+1))).foldl (zcm l) s=R
def zgx:Option (Nat×Nat)->Side
 | none=>⟨0,0,false⟩
 | some s=>zdQ s.1 s.2
theorem sh75:G.shared 75=false:=by decide
theorem e75 (n:Nat) (p:Problem) (ok:CheckOk p) (l:Sl Box) (g:List Nat) (hs:SubL l.xs p.boxes.xs) (hw:Wf l.xs) (hg:∀ i∈g,i < l.xs.length) (hgl:g.length<=12):zH G (n+7) 75 [.agg p.cells,l.pv Box.cells 4,zao g]=some (.tup [.agg (zgx (zcI p.facts.xs g l.xs)).cells,.bool (zcI p.facts.xs g l.xs).isSome]):=by
 refine zy (zx _) rfl g75 rfl ?_
 rw [zb0];obtain ⟨bs,fs⟩:=p;have nb:bs.xs.length<=12:=ok.nb;have nf:fs.xs.length<=60:=ok.nf;have hll:l.xs.length=bs.xs.length:=hs.1;have hAll:=fun H=>zf (G:=G) (n:=n+6) (H:=H) (caps:=[]) (ps:=[fs.pv Fact.cells 9]) ztn (e105 (n+5) fs (by omega));simp only [List.map_cons,List.map_nil] at hAll;have hAbH:Hide (∀ (i:Int) H,zG (zt G (n+6)) H (.pure (.func 106 [])) [.pure (fs.pv Fact.cells 9),.pure ((Sl.mk false (zau fs.xs.length)).pv intF 1),.pure (.int .i64 i)]=some (.val (.pure ((Sl.of (zaS fs.xs (zau fs.xs.length) i)).pv intF 1)))) :=
  ⟨fun i H=>zf (G:=G) (n:=n+6) (H:=H) (caps:=[]) (ps:=[fs.pv Fact.cells 9,(Sl.mk false (zau fs.xs.length)).pv intF 1,.int .i64 i]) ztL (e106 (n+4) fs (Sl.mk false (zau fs.xs.length)) i (zdT _) (by simp [zaU];omega))⟩
 have hSt:Hide (∀ (i k:Nat),i < l.xs.length->k < 4->∀ H,zG (zt G (n+6)) H (.pure (.func 107 [])) [.pure (l.pv Box.cells 4),.pure (.agg (zdQ i k).cells)]=some (.val (.pure ((Sl.mk false (zX l.xs i k)).pv Box.cells 4)))) :=
  ⟨fun i k h1 h2 H=>zf (G:=G) (n:=n+6) (H:=H) (caps:=[]) (ps:=[l.pv Box.cells 4,.agg (zdQ i k).cells]) zvo (e107 (n+4) l i k h1 h2 (by omega))⟩
 have hBd:Hide (∀ (i k:Nat),i < l.xs.length->k < 4->∀ H,zG (zt G (n+6)) H (.pure (.func 74 [])) [.pure (fs.pv Fact.cells 9),.pure ((Sl.of (zaS fs.xs (zau fs.xs.length) (i:Int))).pv intF 1),.pure ((Sl.mk false (zX l.xs i k)).pv Box.cells 4)]=some (.val (.pure (.int .i64 (badI fs.xs (zX l.xs i k) (zaS fs.xs (zau fs.xs.length) (i:Int))))))) :=
  ⟨fun i k h1 h2 H=>by
   have hal:=zjv fs.xs (i:Int);have:=zf (G:=G) (n:=n+6) (H:=H) (caps:=[]) (ps:=[fs.pv Fact.cells 9,(Sl.of (zaS fs.xs (zau fs.xs.length) (i:Int))).pv intF 1,(Sl.mk false (zX l.xs i k)).pv Box.cells 4]) sh74 (e74 n fs (Sl.of (zaS fs.xs (zau fs.xs.length) (i:Int))) (Sl.mk false (zX l.xs i k)) (by rw [Sl.xs_of];exact ziC _ _) (by rw [Sl.xs_of];omega) (fun f hf=>zeG ok ((zer hw h1 k).trans hs) (zfp hw h1 k) hf));rw [Sl.xs_of,Sl.xs_mk] at this;exact this⟩
 have ho:=zcZ (n+5);have wz:IntKind.i64.wrap 0=0:=by decide
 have wo:IntKind.i64.wrap 1=1:=by decide
 have hgH:=Hide.mk hg;have hil:(zM g).length=g.length:=zab g;generalize hR:zcI fs.xs g l.xs=R;have hR0:Hide (ziK fs.xs l.xs g 0 R):=⟨hR.symm⟩
 clear hR hg ok hs hw;(repeat' first|simp [*,za,c75,Problem.cells]|(apply zb<;>intro _ h<;>try simp [-Nat.le_zero_eq] at h))
 refine zB [(7,7),(10,14),(20,66)] (fun (a:Nat) env H=>env 20=.pure (.int .i64 a)/\a<=g.length/\0 < H.nx/\H.get 0=.cells true [.pure (.int .i64 0),.pure (.int .i64 0),.pure (.bool false)]/\Hide (ziK fs.xs l.xs g a R)) (fun a=>g.length - a) 0 ?_ ?_ ?_ ?_
 ·decide
 ·exact ⟨by simp,by omega,by simp,by simp,hR0⟩
 ·simp only [zz];omega
 clear hR0;rintro a env H ⟨g20,ha,hnx,hg0,hR⟩
 by_cases hlt:a < g.length
 ·have w0:IntKind.i64.wrap ((a:Int)+1)=(a+1:Nat):=by rw [wrap64 (by omega) (by omega)];omega
  have hltI:(a:Int) < g.length:=by omega
  have hai:a < (zM g).length:=by omega
  have hga:=zlg hai;have hq:=hgH.h g[a] (List.getElem_mem hlt);have hsn:=znE hlt;obtain ⟨q,hqq⟩:∃ q,q=g[a]:=⟨_,rfl⟩
  rw [<- hqq] at hga hq hsn;have hqI:(q:Int) < l.xs.length:=by omega
  have had:=zax (k:=.i64) (f:=Box.cells) (sz:=4) (s:=l) hq;have hAb:=hAbH.h (q:Int);have hR1:Hide (zev fs.xs l.xs g a q 0 R):=⟨by have:=hR.h;unfold ziK at this;rw [hsn] at this;exact this⟩
  clear hR hsn hqq;(repeat' first|simp [*,za]|(apply zb<;>intro _ h<;>try simp [-Nat.le_zero_eq] at h))
  refine zB [(7,7),(12,14),(29,65)] (fun (k:Nat) env H=>env 29=.pure (.int .i64 k)/\k<=4/\0 < H.nx/\H.get 0=.cells true [.pure (.int .i64 0),.pure (.int .i64 0),.pure (.bool false)]/\Hide (zev fs.xs l.xs g a q k R)) (fun k=>4 - k) 0 ?_ ?_ ?_ ?_
  ·decide
  ·exact ⟨by simp,by omega,hnx,hg0,hR1⟩
  ·simp only [zz];omega
  clear hR1 hnx hg0;rintro k env H ⟨g29,hk,hnx,hg0,hR⟩
  by_cases hk4:k < 4
  ·have w1:IntKind.i64.wrap ((k:Int)+1)=(k+1:Nat):=by rw [wrap64 (by omega) (by omega)];omega
   have hkI:(k:Int) < 4:=by omega
   have q1:=zpd k;have q2:=zpa k;have u1:IntKind.i64.wrap ((k / 2:Nat):Int)=(k / 2:Nat):=wrap64 (by omega) (by omega);obtain ⟨ax,hax⟩:∃ ax:Nat,ax=k / 2:=⟨_,rfl⟩
   obtain ⟨hg2,hhg⟩:∃ m:Nat,m=k % 2:=⟨_,rfl⟩
   rw [<- hax] at q1 u1;rw [<- hhg] at q2;have hst:=hSt.h q k hq hk4;have hbd:=hBd.h q k hq hk4;have hsk:(zdQ q k).cells=[.int .i64 q,.int .i64 ax,.bool (decide (hg2=1))]:=by simp [zdQ,Side.cells,hax,hhg]
   rw [hsk] at hst;have hax2:ax=0\/ax=1:=by omega
   have hdec:decide ((hg2:Int)=1)=decide (hg2=1):=by rw [decide_eq_decide];omega
   have hP:Hide (zeF fs.xs l.xs (q,k)=(decide ((axS l.xs[q] ax).lo < (axS l.xs[q] ax).hi)&&decide (0<=badI fs.xs (zX l.xs q k) (zaS fs.xs (zau fs.xs.length) (q:Int))))):=⟨by
    unfold zeF;simp only;rw [getElem!_pos l.xs q hq,<- hax]⟩
   have hRs:Hide (R=((q,k)::(((List.range 4).drop (k+1)).map (fun k=>(q,k))++zeY (g.drop (a+1)))).find? (zeF fs.xs l.xs)):=⟨by have:=hR.h;unfold zev at this;rw [zpG hk4] at this;exact this⟩
   have hskH:Hide ((zgx (some (q,k))).point=(q:Int)/\(zgx (some (q,k))).axis=(ax:Int)/\(zgx (some (q,k))).high=decide (hg2=1)):=⟨rfl,by rw [hax];rfl,by rw [hhg];rfl⟩
   clear hR hhg hax hsk;generalize badI fs.xs (zX l.xs q k) (zaS fs.xs (zau fs.xs.length) (q:Int))=B at *;generalize hhb:decide (hg2=1)=hb at *;clear hhb;have hne0:(0:Nat)≠H.nx:=by omega
   by_cases hb0:0<=B
   ·rcases hax2 with rfl|rfl<;>push_cast at hst
    ·by_cases hlo:l.xs[q].x.lo < l.xs[q].x.hi
     ·have hRk:R=some (q,k):=by
       rw [hRs.h,List.find?_cons_of_pos (by rw [hP.h];simp [axS,hlo,hb0])]
      subst hRk;obtain ⟨e1,e2,e3⟩:=hskH.h
      push_cast at e2
      clear hRs hP hskH;(repeat' first|simp [*,za,Box.cells,Span.cells]|(apply zb<;>intro _ h<;>try simp [-Nat.le_zero_eq] at h))
     ·have hR2:Hide (zev fs.xs l.xs g a q (k+1) R):=⟨by
       unfold zev;rw [hRs.h,List.find?_cons_of_neg (by rw [hP.h];simp [axS,hlo])]⟩
      clear hRs hP hskH;(repeat' first|simp [*,za,Box.cells,Span.cells]|(apply zb<;>intro _ h<;>try simp [-Nat.le_zero_eq] at h));exact ⟨k+1,by omega,by omega,by omega,hR2⟩
    ·by_cases hlo:l.xs[q].y.lo < l.xs[q].y.hi
     ·have hRk:R=some (q,k):=by
       rw [hRs.h,List.find?_cons_of_pos (by rw [hP.h];simp [axS,hlo,hb0])]
      subst hRk;obtain ⟨e1,e2,e3⟩:=hskH.h
      push_cast at e2
      clear hRs hP hskH;(repeat' first|simp [*,za,Box.cells,Span.cells]|(apply zb<;>intro _ h<;>try simp [-Nat.le_zero_eq] at h))
     ·have hR2:Hide (zev fs.xs l.xs g a q (k+1) R):=⟨by
       unfold zev;rw [hRs.h,List.find?_cons_of_neg (by rw [hP.h];simp [axS,hlo])]⟩
      clear hRs hP hskH;(repeat' first|simp [*,za,Box.cells,Span.cells]|(apply zb<;>intro _ h<;>try simp [-Nat.le_zero_eq] at h));exact ⟨k+1,by omega,by omega,by omega,hR2⟩
   ·have hR2:Hide (zev fs.xs l.xs g a q (k+1) R):=⟨by
     unfold zev;rw [hRs.h,List.find?_cons_of_neg (by rw [hP.h];simp [hb0])]⟩
    clear hRs hP hskH;rcases hax2 with rfl|rfl<;>push_cast at hst
    ·by_cases hlo:l.xs[q].x.lo < l.xs[q].x.hi
     ·(repeat' first|simp [*,za,Box.cells,Span.cells]|(apply zb<;>intro _ h<;>try simp [-Nat.le_zero_eq] at h));exact ⟨k+1,by omega,by omega,by omega,hR2⟩
     ·(repeat' first|simp [*,za,Box.cells,Span.cells]|(apply zb<;>intro _ h<;>try simp [-Nat.le_zero_eq] at h));exact ⟨k+1,by omega,by omega,by omega,hR2⟩
    ·by_cases hlo:l.xs[q].y.lo < l.xs[q].y.hi
     ·(repeat' first|simp [*,za,Box.cells,Span.cells]|(apply zb<;>intro _ h<;>try simp [-Nat.le_zero_eq] at h));exact ⟨k+1,by omega,by omega,by omega,hR2⟩
     ·(repeat' first|simp [*,za,Box.cells,Span.cells]|(apply zb<;>intro _ h<;>try simp [-Nat.le_zero_eq] at h));exact ⟨k+1,by omega,by omega,by omega,hR2⟩
  ·have hk4':k=4:=by omega
   subst hk4';have hR2:Hide (ziK fs.xs l.xs g (a+1) R):=⟨hR.h⟩
   clear hR;(repeat' first|simp [*,za]|(apply zb<;>intro _ h<;>try simp [-Nat.le_zero_eq] at h));exact ⟨a+1,by omega,by omega,by omega,hR2⟩
 ·have hag:a=g.length:=by omega
  subst hag;have hRn:R=none:=by have:=hR.h;unfold ziK at this;rw [List.drop_length] at this;exact this
  subst hRn;clear hR;(repeat' first|simp [*,za]|(apply zb<;>intro _ h<;>try simp [-Nat.le_zero_eq] at h));exact ⟨rfl,rfl,rfl⟩
theorem zp3 {g:List Nat} {a:Nat} (h:a < g.length):zfB (g.drop a)=((List.range 2).drop 0).map (fun k=>(g[a],k))++zfB (g.drop (a+1)):=by
 rw [List.drop_eq_getElem_cons h];rfl
theorem zpj {i k:Nat} (h:k < 2) (r:List (Nat×Nat)):((List.range 2).drop k).map (fun k=>(i,k))++r=(i,k)::(((List.range 2).drop (k+1)).map (fun k=>(i,k))++r):=by
 rw [List.drop_eq_getElem_cons (by simpa using h)];simp
theorem sh77:G.shared 77=false:=by decide
theorem e77 (n:Nat) (l:Sl Box) (g:List Nat) (hg:∀ i∈g,i < l.xs.length) (hne:g≠[]) (hb:∀ b∈l.xs,boxO b) (hgl:g.length<=12):zH G (n+2) 77 [l.pv Box.cells 4,zao g]=some (.tup [.int .i64 ((zcu g l.xs).1:Nat),.int .i64 ((zcu g l.xs).2:Nat)]):=by
 refine zy (zx _) rfl g77 rfl ?_
 rw [zb0];have ho:=zcZ n;have wz:IntKind.i64.wrap 0=0:=by decide
 have wo:IntKind.i64.wrap 1=1:=by decide
 have wt:IntKind.i64.wrap 2=2:=by decide
 have hsz:Hide (∀ (s:Span),okN s.lo->okN s.hi->∀ H,zG (zt G (n+1)) H (.pure (.func 92 [])) [.pure (.agg s.cells)]=some (.val (.pure (.int .i64 (s.hi - s.lo+1))))):=⟨fun s h1 h2 H=>zf (G:=G) (n:=n+1) (H:=H) (caps:=[]) (ps:=[.agg s.cells]) sh92 (e92 n s (by unfold okN at *;omega) (by unfold okN at *;omega))⟩
 have hgH:=Hide.mk hg;have hbH:=Hide.mk hb;have hil:(zM g).length=g.length:=zab g;have hg0:0 < g.length:=List.length_pos_iff.2 hne;have hg0I:(0:Int) < g.length:=by omega
 have h00:(zM g)[0]'(by omega)=((g[0]:Nat):Int):=zlg (by omega);obtain ⟨p0,hp0⟩:∃ p0,p0=g[0]:=⟨_,rfl⟩
 rw [<- hp0] at h00;have had0:=zax (k:=.i64) (f:=intF) (sz:=1) (s:=Sl.mk false (zM g)) (n:=0) (by rw [Sl.xs_mk];omega);simp only [Sl.xs_mk,h00] at had0;rw [show (((0:Nat):Int))=0 from rfl] at had0;obtain ⟨R,hR⟩:∃ R,R=(zfB g).foldl (zcm l.xs) (0,(g.headD 0,0)):=⟨_,rfl⟩
 have hRw:zcu g l.xs=R.2:=by rw [hR];rfl
 rw [hRw];have hhd:g.headD 0=p0:=by
  rw [hp0]
  cases g with
  | nil=>exact absurd rfl hne
  | cons x g=>rfl
 rw [hhd] at hR;have hR0:Hide (zmO l.xs g 0 (0,(p0,0)) R):=⟨hR.symm⟩
 clear hR hRw hhd hp0 hg hb hne;obtain ⟨R1,ri,rk⟩:=R;simp only;(repeat' first|simp [*,za,c77]|(apply zb<;>intro _ h<;>try simp [-Nat.le_zero_eq] at h))
 refine zB [(6,8),(10,12),(18,40)] (fun (s:Nat×(Int×(Nat×Nat))) env H=>env 18=.pure (.int .i64 s.1)/\s.1<=g.length/\env 6=.pure (.int .i64 s.2.1)/\env 7=.pure (.int .i64 (s.2.2.1:Nat))/\env 8=.pure (.int .i64 (s.2.2.2:Nat))/\Hide (zmO l.xs g s.1 s.2 (R1,(ri,rk)))) (fun s=>g.length - s.1) (0,(0,(p0,0))) ?_ ?_ ?_ ?_
 ·decide
 ·exact ⟨by simp,by simp,by simp,by simp,by simp,hR0⟩
 ·simp only [zz];omega
 clear hR0;rintro ⟨a,best,pt,kx⟩ env H ⟨g18,ha,g6,g7,g8,hR⟩;simp only at g18 ha g6 g7 g8 hR
 by_cases hlt:a < g.length
 ·have w0:IntKind.i64.wrap ((a:Int)+1)=(a+1:Nat):=by rw [wrap64 (by omega) (by omega)];omega
  have hltI:(a:Int) < g.length:=by omega
  have hai:a < (zM g).length:=by omega
  have hga:=zlg hai;have hq:=hgH.h g[a] (List.getElem_mem hlt);have hsn:=zp3 hlt;obtain ⟨q,hqq⟩:∃ q,q=g[a]:=⟨_,rfl⟩
  rw [<- hqq] at hga hq hsn;have hqI:(q:Int) < l.xs.length:=by omega
  have had:=zax (k:=.i64) (f:=Box.cells) (sz:=4) (s:=l) hq;have hR1:Hide (zhT l.xs g a q 0 (best,(pt,kx)) (R1,(ri,rk))):=⟨by have:=hR.h;unfold zmO at this;rw [hsn] at this;exact this⟩
  have hbx:=hbH.h _ (List.getElem_mem hq);unfold boxO okN at hbx;have s1:=hsz.h l.xs[q].x (by unfold okN;omega) (by unfold okN;omega);have s2:=hsz.h l.xs[q].y (by unfold okN;omega) (by unfold okN;omega);simp only [Span.cells] at s1 s2;clear hR hsn hqq hbx;(repeat' first|simp [*,za]|(apply zb<;>intro _ h<;>try simp [-Nat.le_zero_eq] at h))
  refine zB [(6,8),(11,12),(22,39)] (fun (s:Nat×(Int×(Nat×Nat))) env H=>env 22=.pure (.int .i64 s.1)/\s.1<=2/\env 6=.pure (.int .i64 s.2.1)/\env 7=.pure (.int .i64 (s.2.2.1:Nat))/\env 8=.pure (.int .i64 (s.2.2.2:Nat))/\Hide (zhT l.xs g a q s.1 s.2 (R1,(ri,rk)))) (fun s=>2 - s.1) (0,(best,(pt,kx))) ?_ ?_ ?_ ?_
  ·decide
  ·exact ⟨by simp,by simp,by simp [g6],by simp [g7],by simp [g8],hR1⟩
  ·simp only [zz];omega
  clear hR1 g6 g7 g8;rintro ⟨k,best,pt,kx⟩ env H ⟨g22,hk,g6,g7,g8,hR⟩;simp only at g22 hk g6 g7 g8 hR
  by_cases hk2:k < 2
  ·have w1:IntKind.i64.wrap ((k:Int)+1)=(k+1:Nat):=by rw [wrap64 (by omega) (by omega)];omega
   have hkI:(k:Int) < 2:=by omega
   have hRs:Hide ((((List.range 2).drop (k+1)).map (fun k=>(q,k))++zfB (g.drop (a+1))).foldl (zcm l.xs) (zcm l.xs (best,(pt,kx)) (q,k))=(R1,(ri,rk))):=⟨by have:=hR.h;unfold zhT at this;rw [zpj hk2] at this;exact this⟩
   have hW:Hide (zcm l.xs (best,(pt,kx)) (q,k)=if best < (axS l.xs[q] k).hi - (axS l.xs[q] k).lo+1 then ((axS l.xs[q] k).hi - (axS l.xs[q] k).lo+1,(q,k)) else (best,(pt,kx))):=⟨by
    unfold zcm zdt;simp only;rw [getElem!_pos l.xs q hq]⟩
   clear hR;have hk01:k=0\/k=1:=by omega
   rcases hk01 with rfl|rfl
   ·by_cases hbig:best < l.xs[q].x.hi - l.xs[q].x.lo+1
    ·have hR2:Hide (zhT l.xs g a q (0+1) (l.xs[q].x.hi - l.xs[q].x.lo+1,(q,0)) (R1,(ri,rk))):=⟨by
      have:=hW.h;simp only [axS,if_true] at this;rw [if_pos hbig] at this;rw [this] at hRs;exact hRs.h⟩
     clear hRs hW;(repeat' first|simp [*,za,Box.cells,Span.cells]|(apply zb<;>intro _ h<;>try simp [-Nat.le_zero_eq] at h));exact ⟨1,by omega,by simp,by omega,q,rfl,0,rfl,hR2⟩
    ·have hR2:Hide (zhT l.xs g a q (0+1) (best,(pt,kx)) (R1,(ri,rk))):=⟨by
      have:=hW.h;simp only [axS,if_true] at this;rw [if_neg hbig] at this;rw [this] at hRs;exact hRs.h⟩
     clear hRs hW;(repeat' first|simp [*,za,Box.cells,Span.cells]|(apply zb<;>intro _ h<;>try simp [-Nat.le_zero_eq] at h));exact ⟨1,by omega,by simp,by omega,pt,rfl,kx,rfl,hR2⟩
   ·by_cases hbig:best < l.xs[q].y.hi - l.xs[q].y.lo+1
    ·have hR2:Hide (zhT l.xs g a q (1+1) (l.xs[q].y.hi - l.xs[q].y.lo+1,(q,1)) (R1,(ri,rk))):=⟨by
      have:=hW.h;simp only [axS,Nat.one_ne_zero,if_false] at this;rw [if_pos hbig] at this;rw [this] at hRs;exact hRs.h⟩
     clear hRs hW;(repeat' first|simp [*,za,Box.cells,Span.cells]|(apply zb<;>intro _ h<;>try simp [-Nat.le_zero_eq] at h));exact ⟨2,by omega,by simp [wt],by omega,q,rfl,1,rfl,hR2⟩
    ·have hR2:Hide (zhT l.xs g a q (1+1) (best,(pt,kx)) (R1,(ri,rk))):=⟨by
      have:=hW.h;simp only [axS,Nat.one_ne_zero,if_false] at this;rw [if_neg hbig] at this;rw [this] at hRs;exact hRs.h⟩
     clear hRs hW;(repeat' first|simp [*,za,Box.cells,Span.cells]|(apply zb<;>intro _ h<;>try simp [-Nat.le_zero_eq] at h));exact ⟨2,by omega,by simp [wt],by omega,pt,rfl,kx,rfl,hR2⟩
  ·have hk2':k=2:=by omega
   subst hk2';have hR2:Hide (zmO l.xs g (a+1) (best,(pt,kx)) (R1,(ri,rk))):=⟨hR.h⟩
   clear hR;(repeat' first|simp [*,za]|(apply zb<;>intro _ h<;>try simp [-Nat.le_zero_eq] at h));exact ⟨a+1,by omega,by omega,by omega,pt,rfl,kx,rfl,hR2⟩
 ·have hag:a=g.length:=by omega
  subst hag;have hRn:(best,(pt,kx))=(R1,(ri,rk)):=by have:=hR.h;unfold zmO at this;rw [List.drop_length] at this;exact this
  simp only [Prod.mk.injEq] at hRn;obtain ⟨rfl,rfl,rfl⟩:=hRn;clear hR;(repeat' first|simp [*,za]|(apply zb<;>intro _ h<;>try simp [-Nat.le_zero_eq] at h))
end Go.Proofs.YtmmhnfghklppiaaGreat.Vm
