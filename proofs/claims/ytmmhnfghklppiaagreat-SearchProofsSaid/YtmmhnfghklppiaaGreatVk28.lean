/- search.cut: boxes one of which is cut. search.loose and search.wide: walked. -/
import Derived.Test.YtmmhnfghklppiaaGreatVk19
import Derived.Test.YtmmhnfghklppiaaGreatVk8
import Derived.Test.YtmmhnfghklppiaaGreatVk25
import Derived.Test.YtmmhnfghklppiaaGreatVk24
import Derived.Test.YtmmhnfghklppiaaGreatVk22
namespace Go.Proofs.YtmmhnfghklppiaaGreat.Vm
open Go
set_option linter.unusedSimpArgs false
set_option linter.unusedVariables false
set_option maxHeartbeats 4000000
set_option maxRecDepth 4000
def vD (t:Int):Prop:=-1048576<=t/\t<=1048576
def Dp (l:List Box) (i ax:Nat) (t:Int) (above:Bool):List Box:=if above then nk l i ax t else bV l i ax t
theorem zsm {l:List Box} {i:Nat} (hi:i < l.length) (ax:Nat) (t:Int) (above:Bool):Dp l i ax t above=l.set i (if above then x8 l[i] ax t else ni l[i] ax t):=by
 unfold Dp
 cases above
 .simp [DX hi]
 .simp [DY hi]
theorem sh78:G.shared 78=false:=by decide
theorem e78 (n:Nat) (l:Sl Box) (i ax:Nat) (t:Int) (above:Bool) (hi:i < l.xs.length) (hx:ax < 2) (hl:l.xs.length < 1000) (ht:vD t):zF G (n+2) 78 [l.pv Box.cells 4,.int .i64 i,.int .i64 ax,.int .i64 t,.bool above]=some ((Sl.mk false (Dp l.xs i ax t above)).pv Box.cells 4):=by
 refine zx (zw _) rfl g78 rfl ?_
 have ho:=CY n;have fF:=Hide.mk (zsm hi ax t above);have p1:=YC hi;have p2:=YD hi;have p3:=YE hi;have p4:=YF hi;have e3:i*4+2+1=i*4+3:=rfl;have hlen:∀ b,(l.xs.set i b).length=l.xs.length:=fun b=>by simp
 have Zm:=ht.1;have ZX:=ht.2;have w1:IntKind.i64.wrap (t+1)=t+1:=wrap64 (by omega) (by omega);have hxx:ax=0\/ax=1:=by omega
 clear hx;rcases hxx with rfl|rfl<;>cases above
 all_goals
  (repeat' first|simp [*,za,c78]|(apply zb<;>intro _ h<;>try simp [-Nat.le_zero_eq] at h))
  refine Ij hl ?_
  intro v' H' hv hn fD ag aW;obtain ⟨id,rfl,hg⟩:=hv.row (by intro e;rw [e] at hi;simp at hi);have aj:=zu hg;clear hv hn ag aW;have aY:=fun (H2:Heap) b (rR:H2.get id=.cells true (zm Box.cells (l.xs.set i b)))=>xY (n:=10) (f:=Box.cells) (sz:=4) (fun _=>rfl) rR (hlen b);have aY:=Hide.mk aY;(repeat' first|simp [*,za]|(apply zb<;>intro _ h<;>try simp [-Nat.le_zero_eq] at h));rw [fF.h];exact aY.h _ _ (zo aj)
def I4 (b:Box):Prop:=(vD b.x.lo/\vD b.x.hi)/\vD b.y.lo/\vD b.y.hi
theorem Ec (n:Nat) (H:Heap) (sF:Bool) (cs:List PV) (off:Nat) (a:Int):zD (zn G (n+1)) H (.pure (.func 76 [])) [.pure (.ptr sF cs off),.pure (.int .i64 a)]=some (.upd (.pure (.ptr sF cs (off+if a=0 then 0 else 2))) H):=by
 have h:∃ v H',Vm.call G (n+1) (.fn 76) [.pure (.ptr sF cs off),.pure (.int .i64 a)] H=some (v,H')/\(v=.pure (.ptr sF cs (off+if a=0 then 0 else 2))/\H'=H):=by
  refine Gq (k:=fun v H'=>v=.pure (.ptr sF cs (off+if a=0 then 0 else 2))/\H'=H) rfl g76 rfl ?_
  by_cases ha:a=0
  .simp [*,za,c76]
  .simp [*,za,c76]
 obtain ⟨v,H',h1,rfl,rfl⟩:=h;have h2:(zn G (n+1)).shared 76=true:=zsJ;have h3:(zn G (n+1)).run 76 [.pure (.ptr sF cs off),.pure (.int .i64 a)] H'=some (.pure (.ptr sF cs (off+if a=0 then 0 else 2)),H'):=h1;simp only [zD,List.map_nil,List.append_nil,h2,if_true,h3]
theorem zm8 {g:List Nat} {a:Nat} (h:a < g.length):KG (g.drop a)=((List.range 4).drop 0).map (fun k=>(g[a],k))++KG (g.drop (a+1)):=by
 rw [List.drop_eq_getElem_cons h];rfl
theorem zo9 {i k:Nat} (h:k < 4) (r:List (Nat×Nat)):((List.range 4).drop k).map (fun k=>(i,k))++r=(i,k)::(((List.range 4).drop (k+1)).map (fun k=>(i,k))++r):=by
 rw [List.drop_eq_getElem_cons (by simpa using h)];simp
theorem ZY {g:List Nat} {a:Nat} (h:a < (zZ g).length):(zZ g)[a]=((g[a]'(by simpa [zZ] using h):Nat):Int):=by simp [zZ]
def RY (fs:List Fact) (l:List Box) (g:List Nat) (a:Nat) (R:Option (Nat×Nat)):Prop:=R=(KG (g.drop a)).find? (I1 fs l)
def I5 (fs:List Fact) (l:List Box) (g:List Nat) (a q k:Nat) (R:Option (Nat×Nat)):Prop:=R=(((List.range 4).drop k).map (fun k=>(q,k))++KG (g.drop (a+1))).find? (I1 fs l)
def RZ (l:List Box) (g:List Nat) (a:Nat) (s R:Int×(Nat×Nat)):Prop:=(GK (g.drop a)).foldl (uH l) s=R
def M5 (l:List Box) (g:List Nat) (a q k:Nat) (s R:Int×(Nat×Nat)):Prop:=(((List.range 2).drop k).map (fun k=>(q,k))++GK (g.drop (a+1))).foldl (uH l) s=R
def I6:Option (Nat×Nat)->Side
 | none=>⟨0,0,false⟩
 | some s=>BR s.1 s.2
theorem sh75:G.shared 75=false:=by decide
theorem e75 (n:Nat) (p:Problem) (ok:af p) (l:Sl Box) (g:List Nat) (hs:aL l.xs p.boxes.xs) (hw:Wf l.xs) (hg:∀ i∈g,i < l.xs.length) (mF:g.length<=12):zF G (n+7) 75 [.agg p.cells,l.pv Box.cells 4,lM g]=some (.aM [.agg (I6 (Dl p.facts.xs g l.xs)).cells,.bool (Dl p.facts.xs g l.xs).isSome]):=by
 refine zx (zw _) rfl g75 rfl ?_
 rw [Io];obtain ⟨bs,fs⟩:=p;have nb:bs.xs.length<=12:=ok.nb;have nf:fs.xs.length<=60:=ok.nf;have Ed:l.xs.length=bs.xs.length:=hs.1;have Md:=fun H=>zg (G:=G) (n:=n+6) (H:=H) (caps:=[]) (ps:=[fs.pv Fact.cells 9]) zsO (e105 (n+5) fs (by omega));simp only [List.map] at Md;have ZZ:Hide (∀ (i:Int) H,zD (zn G (n+6)) H (.pure (.func 106 [])) [.pure (fs.pv Fact.cells 9),.pure ((Sl.mk false (jb fs.xs.length)).pv aD 1),.pure (.int .i64 i)]=some (.val (.pure ((Sl.of (pQ fs.xs (jb fs.xs.length) i)).pv aD 1)))) :=
  ⟨fun i H=>zg (G:=G) (n:=n+6) (H:=H) (caps:=[]) (ps:=[fs.pv Fact.cells 9,(Sl.mk false (jb fs.xs.length)).pv aD 1,.int .i64 i]) zsN (e106 (n+4) fs (Sl.mk false (jb fs.xs.length)) i (J9 _) (by simp [Gx];omega))⟩
 have hSt:Hide (∀ (i k:Nat),i < l.xs.length->k < 4->∀ H,zD (zn G (n+6)) H (.pure (.func 107 [])) [.pure (l.pv Box.cells 4),.pure (.agg (BR i k).cells)]=some (.val (.pure ((Sl.mk false (zV l.xs i k)).pv Box.cells 4)))) :=
  ⟨fun i k h1 h2 H=>zg (G:=G) (n:=n+6) (H:=H) (caps:=[]) (ps:=[l.pv Box.cells 4,.agg (BR i k).cells]) zvc (e107 (n+4) l i k h1 h2 (by omega))⟩
 have hBd:Hide (∀ (i k:Nat),i < l.xs.length->k < 4->∀ H,zD (zn G (n+6)) H (.pure (.func 74 [])) [.pure (fs.pv Fact.cells 9),.pure ((Sl.of (pQ fs.xs (jb fs.xs.length) (i:Int))).pv aD 1),.pure ((Sl.mk false (zV l.xs i k)).pv Box.cells 4)]=some (.val (.pure (.int .i64 (bR fs.xs (zV l.xs i k) (pQ fs.xs (jb fs.xs.length) (i:Int))))))) :=
  ⟨fun i k h1 h2 H=>by
   have hal:=zjj fs.xs (i:Int);have:=zg (G:=G) (n:=n+6) (H:=H) (caps:=[]) (ps:=[fs.pv Fact.cells 9,(Sl.of (pQ fs.xs (jb fs.xs.length) (i:Int))).pv aD 1,(Sl.mk false (zV l.xs i k)).pv Box.cells 4]) sh74 (e74 n fs (Sl.of (pQ fs.xs (jb fs.xs.length) (i:Int))) (Sl.mk false (zV l.xs i k)) (by rw [Sl.lZ];exact Y0 _ _) (by rw [Sl.lZ];omega) (fun f hf=>OE ok ((YZ hw h1 k).trans hs) (YY hw h1 k) hf));rw [Sl.lZ,Sl.jg] at this;exact this⟩
 have ho:=Ec (n+5);have wz:IntKind.i64.wrap 0=0:=by decide
 have wo:IntKind.i64.wrap 1=1:=by decide
 have J4:=Hide.mk hg;have aU:(zZ g).length=g.length:=D8 g;generalize hR:Dl fs.xs g l.xs=R;have Dq:Hide (RY fs.xs l.xs g 0 R):=⟨hR.symm⟩
 clear hR hg ok hs hw;(repeat' first|simp [*,za,c75,Problem.cells]|(apply zb<;>intro _ h<;>try simp [-Nat.le_zero_eq] at h))
 refine zN [(7,7),(10,14),(20,66)] (fun (a:Nat) env H=>env 20=.pure (.int .i64 a)/\a<=g.length/\0 < H.nx/\H.get 0=.cells true [.pure (.int .i64 0),.pure (.int .i64 0),.pure (.bool false)]/\Hide (RY fs.xs l.xs g a R)) (fun a=>g.length - a) 0 ?_ ?_ ?_ ?_
 .decide
 .exact ⟨by simp,by omega,by simp,by simp,Dq⟩
 .simp only [zI];omega
 clear Dq;rintro a env H ⟨g20,ha,fD,MB,hR⟩
 by_cases aK:a < g.length
 .have w0:IntKind.i64.wrap ((a:Int)+1)=(a+1:Nat):=by rw [wrap64 (by omega) (by omega)];omega
  have pO:(a:Int) < g.length:=by omega
  have Z0:a < (zZ g).length:=by omega
  have Z4:=ZY Z0;have hq:=J4.h g[a] (List.getElem_mem aK);have CL:=zm8 aK;obtain ⟨q,R3⟩:∃ q,q=g[a]:=⟨_,rfl⟩
  rw [<- R3] at Z4 hq CL;have hqI:(q:Int) < l.xs.length:=by omega
  have Kr:=vM (k:=.i64) (f:=Box.cells) (sz:=4) (s:=l) hq;have hAb:=ZZ.h (q:Int);have nJ:Hide (I5 fs.xs l.xs g a q 0 R):=⟨by have:=hR.h;unfold RY at this;rw [CL] at this;exact this⟩
  clear hR CL R3;(repeat' first|simp [*,za]|(apply zb<;>intro _ h<;>try simp [-Nat.le_zero_eq] at h))
  refine zN [(7,7),(12,14),(29,65)] (fun (k:Nat) env H=>env 29=.pure (.int .i64 k)/\k<=4/\0 < H.nx/\H.get 0=.cells true [.pure (.int .i64 0),.pure (.int .i64 0),.pure (.bool false)]/\Hide (I5 fs.xs l.xs g a q k R)) (fun k=>4 - k) 0 ?_ ?_ ?_ ?_
  .decide
  .exact ⟨by simp,by omega,fD,MB,nJ⟩
  .simp only [zI];omega
  clear nJ fD MB;rintro k env H ⟨g29,hk,fD,MB,hR⟩
  by_cases uz:k < 4
  .have w1:IntKind.i64.wrap ((k:Int)+1)=(k+1:Nat):=by rw [wrap64 (by omega) (by omega)];omega
   have Q0:(k:Int) < 4:=by omega
   have q1:=zou k;have q2:=zom k;have u1:IntKind.i64.wrap ((k / 2:Nat):Int)=(k / 2:Nat):=wrap64 (by omega) (by omega);obtain ⟨ax,y8⟩:∃ ax:Nat,ax=k / 2:=⟨_,rfl⟩
   obtain ⟨rR,Iz⟩:∃ m:Nat,m=k % 2:=⟨_,rfl⟩
   rw [<- y8] at q1 u1;rw [<- Iz] at q2;have fF:=hSt.h q k hq uz;have hbd:=hBd.h q k hq uz;have CZ:(BR q k).cells=[.int .i64 q,.int .i64 ax,.bool (decide (rR=1))]:=by simp [BR,Side.cells,y8,Iz]
   rw [CZ] at fF;have R4:ax=0\/ax=1:=by omega
   have R5:decide ((rR:Int)=1)=decide (rR=1):=by rw [decide_eq_decide];omega
   have hP:Hide (I1 fs.xs l.xs (q,k)=(decide ((bK l.xs[q] ax).lo < (bK l.xs[q] ax).hi)&&decide (0<=bR fs.xs (zV l.xs q k) (pQ fs.xs (jb fs.xs.length) (q:Int))))):=⟨by
    unfold I1;simp only;rw [getElem!_pos l.xs q hq,<- y8]⟩
   have si:Hide (R=((q,k)::(((List.range 4).drop (k+1)).map (fun k=>(q,k))++KG (g.drop (a+1)))).find? (I1 fs.xs l.xs)):=⟨by have:=hR.h;unfold I5 at this;rw [zo9 uz] at this;exact this⟩
   have AY:Hide ((I6 (some (q,k))).point=(q:Int)/\(I6 (some (q,k))).jd=(ax:Int)/\(I6 (some (q,k))).high=decide (rR=1)):=⟨rfl,by rw [y8];rfl,by rw [Iz];rfl⟩
   clear hR Iz y8 CZ;generalize bR fs.xs (zV l.xs q k) (pQ fs.xs (jb fs.xs.length) (q:Int))=B at *;generalize Q5:decide (rR=1)=hb at *;clear Q5;have QV:(0:Nat)≠H.nx:=by omega
   by_cases uV:0<=B
   .rcases R4 with rfl|rfl<;>push_cast at fF
    .by_cases iN:l.xs[q].x.lo < l.xs[q].x.hi
     .have LY:R=some (q,k):=by
       rw [si.h,List.find?_cons_of_pos (by rw [hP.h];simp [bK,iN,uV])]
      subst LY;obtain ⟨e1,e2,e3⟩:=AY.h
      push_cast at e2
      clear si hP AY;simp [*,za,Box.cells,Span.cells]
     .have iL:Hide (I5 fs.xs l.xs g a q (k+1) R):=⟨by
       unfold I5;rw [si.h,List.find?_cons_of_neg (by rw [hP.h];simp [bK,iN])]⟩
      clear si hP AY;(repeat' first|simp [*,za,Box.cells,Span.cells]|(apply zb<;>intro _ h<;>try simp [-Nat.le_zero_eq] at h));exact ⟨k+1,by omega,by omega,by omega,iL⟩
    .by_cases iN:l.xs[q].y.lo < l.xs[q].y.hi
     .have LY:R=some (q,k):=by
       rw [si.h,List.find?_cons_of_pos (by rw [hP.h];simp [bK,iN,uV])]
      subst LY;obtain ⟨e1,e2,e3⟩:=AY.h
      push_cast at e2
      clear si hP AY;simp [*,za,Box.cells,Span.cells]
     .have iL:Hide (I5 fs.xs l.xs g a q (k+1) R):=⟨by
       unfold I5;rw [si.h,List.find?_cons_of_neg (by rw [hP.h];simp [bK,iN])]⟩
      clear si hP AY;(repeat' first|simp [*,za,Box.cells,Span.cells]|(apply zb<;>intro _ h<;>try simp [-Nat.le_zero_eq] at h));exact ⟨k+1,by omega,by omega,by omega,iL⟩
   .have iL:Hide (I5 fs.xs l.xs g a q (k+1) R):=⟨by
     unfold I5;rw [si.h,List.find?_cons_of_neg (by rw [hP.h];simp [uV])]⟩
    clear si hP AY;rcases R4 with rfl|rfl<;>push_cast at fF
    .by_cases iN:l.xs[q].x.lo < l.xs[q].x.hi
     ·(repeat' first|simp [*,za,Box.cells,Span.cells]|(apply zb<;>intro _ h<;>try simp [-Nat.le_zero_eq] at h));exact ⟨k+1,by omega,by omega,by omega,iL⟩
     ·(repeat' first|simp [*,za,Box.cells,Span.cells]|(apply zb<;>intro _ h<;>try simp [-Nat.le_zero_eq] at h));exact ⟨k+1,by omega,by omega,by omega,iL⟩
    .by_cases iN:l.xs[q].y.lo < l.xs[q].y.hi
     ·(repeat' first|simp [*,za,Box.cells,Span.cells]|(apply zb<;>intro _ h<;>try simp [-Nat.le_zero_eq] at h));exact ⟨k+1,by omega,by omega,by omega,iL⟩
     ·(repeat' first|simp [*,za,Box.cells,Span.cells]|(apply zb<;>intro _ h<;>try simp [-Nat.le_zero_eq] at h));exact ⟨k+1,by omega,by omega,by omega,iL⟩
  .have ME:k=4:=by omega
   subst ME;have iL:Hide (RY fs.xs l.xs g (a+1) R):=⟨hR.h⟩
   clear hR;(repeat' first|simp [*,za]|(apply zb<;>intro _ h<;>try simp [-Nat.le_zero_eq] at h));exact ⟨a+1,by omega,by omega,by omega,iL⟩
 .have vJ:a=g.length:=by omega
  subst vJ;have U9:R=none:=by have:=hR.h;unfold RY at this;rw [List.drop_length] at this;exact this
  subst U9;clear hR;(repeat' first|simp [*,za]|(apply zb<;>intro _ h<;>try simp [-Nat.le_zero_eq] at h));exact ⟨rfl,rfl,rfl⟩
theorem zoH {g:List Nat} {a:Nat} (h:a < g.length):GK (g.drop a)=((List.range 2).drop 0).map (fun k=>(g[a],k))++GK (g.drop (a+1)):=by
 rw [List.drop_eq_getElem_cons h];rfl
theorem zpD {i k:Nat} (h:k < 2) (r:List (Nat×Nat)):((List.range 2).drop k).map (fun k=>(i,k))++r=(i,k)::(((List.range 2).drop (k+1)).map (fun k=>(i,k))++r):=by
 rw [List.drop_eq_getElem_cons (by simpa using h)];simp
theorem sh77:G.shared 77=false:=by decide
theorem e77 (n:Nat) (l:Sl Box) (g:List Nat) (hg:∀ i∈g,i < l.xs.length) (bL:g≠[]) (hb:∀ b∈l.xs,I4 b) (mF:g.length<=12):zF G (n+2) 77 [l.pv Box.cells 4,lM g]=some (.aM [.int .i64 ((vC g l.xs).1:Nat),.int .i64 ((vC g l.xs).2:Nat)]):=by
 refine zx (zw _) rfl g77 rfl ?_
 rw [Io];have ho:=Ec n;have wz:IntKind.i64.wrap 0=0:=by decide
 have wo:IntKind.i64.wrap 1=1:=by decide
 have wt:IntKind.i64.wrap 2=2:=by decide
 have fE:Hide (∀ (s:Span),vD s.lo->vD s.hi->∀ H,zD (zn G (n+1)) H (.pure (.func 92 [])) [.pure (.agg s.cells)]=some (.val (.pure (.int .i64 (s.hi - s.lo+1))))):=⟨fun s h1 h2 H=>zg (G:=G) (n:=n+1) (H:=H) (caps:=[]) (ps:=[.agg s.cells]) sh92 (e92 n s (by unfold vD at *;omega) (by unfold vD at *;omega))⟩
 have J4:=Hide.mk hg;have Ip:=Hide.mk hb;have aU:(zZ g).length=g.length:=D8 g;have MB:0 < g.length:=List.length_pos_iff.2 bL;have hg0I:(0:Int) < g.length:=by omega
 have h00:(zZ g)[0]'(by omega)=((g[0]:Nat):Int):=ZY (by omega);obtain ⟨p0,Z7⟩:∃ p0,p0=g[0]:=⟨_,rfl⟩
 rw [<- Z7] at h00;have MS:=vM (k:=.i64) (f:=aD) (sz:=1) (s:=Sl.mk false (zZ g)) (n:=0) (by rw [Sl.jg];omega);simp only [Sl.jg,h00] at MS;rw [show (((0:Nat):Int))=0 from rfl] at MS;obtain ⟨R,hR⟩:∃ R,R=(GK g).foldl (uH l.xs) (0,(g.headD 0,0)):=⟨_,rfl⟩
 have hRw:vC g l.xs=R.2:=by rw [hR];rfl
 rw [hRw];have hhd:g.headD 0=p0:=by
  rw [Z7]
  cases g with
  | nil=>exact absurd rfl bL
  | cons x g=>rfl
 rw [hhd] at hR;have Dq:Hide (RZ l.xs g 0 (0,(p0,0)) R):=⟨hR.symm⟩
 clear hR hRw hhd Z7 hg hb bL;obtain ⟨R1,ri,rk⟩:=R;simp only;(repeat' first|simp [*,za,c77]|(apply zb<;>intro _ h<;>try simp [-Nat.le_zero_eq] at h))
 refine zN [(6,8),(10,12),(18,40)] (fun (s:Nat×(Int×(Nat×Nat))) env H=>env 18=.pure (.int .i64 s.1)/\s.1<=g.length/\env 6=.pure (.int .i64 s.2.1)/\env 7=.pure (.int .i64 (s.2.2.1:Nat))/\env 8=.pure (.int .i64 (s.2.2.2:Nat))/\Hide (RZ l.xs g s.1 s.2 (R1,(ri,rk)))) (fun s=>g.length - s.1) (0,(0,(p0,0))) ?_ ?_ ?_ ?_
 .decide
 .exact ⟨by simp,by simp,by simp,by simp,by simp,Dq⟩
 .simp only [zI];omega
 clear Dq;rintro ⟨a,best,pt,kx⟩ env H ⟨g18,ha,g6,g7,g8,hR⟩;simp only at g18 ha g6 g7 g8 hR
 by_cases aK:a < g.length
 .have w0:IntKind.i64.wrap ((a:Int)+1)=(a+1:Nat):=by rw [wrap64 (by omega) (by omega)];omega
  have pO:(a:Int) < g.length:=by omega
  have Z0:a < (zZ g).length:=by omega
  have Z4:=ZY Z0;have hq:=J4.h g[a] (List.getElem_mem aK);have CL:=zoH aK;obtain ⟨q,R3⟩:∃ q,q=g[a]:=⟨_,rfl⟩
  rw [<- R3] at Z4 hq CL;have hqI:(q:Int) < l.xs.length:=by omega
  have Kr:=vM (k:=.i64) (f:=Box.cells) (sz:=4) (s:=l) hq;have nJ:Hide (M5 l.xs g a q 0 (best,(pt,kx)) (R1,(ri,rk))):=⟨by have:=hR.h;unfold RZ at this;rw [CL] at this;exact this⟩
  have Dr:=Ip.h _ (List.getElem_mem hq);unfold I4 vD at Dr;have s1:=fE.h l.xs[q].x (by unfold vD;omega) (by unfold vD;omega);have s2:=fE.h l.xs[q].y (by unfold vD;omega) (by unfold vD;omega);simp only [Span.cells] at s1 s2;clear hR CL R3 Dr;(repeat' first|simp [*,za]|(apply zb<;>intro _ h<;>try simp [-Nat.le_zero_eq] at h))
  refine zN [(6,8),(11,12),(22,39)] (fun (s:Nat×(Int×(Nat×Nat))) env H=>env 22=.pure (.int .i64 s.1)/\s.1<=2/\env 6=.pure (.int .i64 s.2.1)/\env 7=.pure (.int .i64 (s.2.2.1:Nat))/\env 8=.pure (.int .i64 (s.2.2.2:Nat))/\Hide (M5 l.xs g a q s.1 s.2 (R1,(ri,rk)))) (fun s=>2 - s.1) (0,(best,(pt,kx))) ?_ ?_ ?_ ?_
  .decide
  .exact ⟨by simp,by simp,by simp [g6],by simp [g7],by simp [g8],nJ⟩
  .simp only [zI];omega
  clear nJ g6 g7 g8;rintro ⟨k,best,pt,kx⟩ env H ⟨g22,hk,g6,g7,g8,hR⟩;simp only at g22 hk g6 g7 g8 hR
  by_cases qg:k < 2
  .have w1:IntKind.i64.wrap ((k:Int)+1)=(k+1:Nat):=by rw [wrap64 (by omega) (by omega)];omega
   have Q0:(k:Int) < 2:=by omega
   have si:Hide ((((List.range 2).drop (k+1)).map (fun k=>(q,k))++GK (g.drop (a+1))).foldl (uH l.xs) (uH l.xs (best,(pt,kx)) (q,k))=(R1,(ri,rk))):=⟨by have:=hR.h;unfold M5 at this;rw [zpD qg] at this;exact this⟩
   have hW:Hide (uH l.xs (best,(pt,kx)) (q,k)=if best < (bK l.xs[q] k).hi - (bK l.xs[q] k).lo+1 then ((bK l.xs[q] k).hi - (bK l.xs[q] k).lo+1,(q,k)) else (best,(pt,kx))):=⟨by
    unfold uH AX;simp only;rw [getElem!_pos l.xs q hq]⟩
   clear hR;have Z8:k=0\/k=1:=by omega
   rcases Z8 with rfl|rfl
   .by_cases oF:best < l.xs[q].x.hi - l.xs[q].x.lo+1
    .have iL:Hide (M5 l.xs g a q (0+1) (l.xs[q].x.hi - l.xs[q].x.lo+1,(q,0)) (R1,(ri,rk))):=⟨by
      have:=hW.h;simp only [bK,if_true] at this;rw [if_pos oF] at this;rw [this] at si;exact si.h⟩
     clear si hW;(repeat' first|simp [*,za,Box.cells,Span.cells]|(apply zb<;>intro _ h<;>try simp [-Nat.le_zero_eq] at h));exact ⟨1,by omega,by simp,by omega,q,rfl,0,rfl,iL⟩
    .have iL:Hide (M5 l.xs g a q (0+1) (best,(pt,kx)) (R1,(ri,rk))):=⟨by
      have:=hW.h;simp only [bK,if_true] at this;rw [if_neg oF] at this;rw [this] at si;exact si.h⟩
     clear si hW;(repeat' first|simp [*,za,Box.cells,Span.cells]|(apply zb<;>intro _ h<;>try simp [-Nat.le_zero_eq] at h));exact ⟨1,by omega,by simp,by omega,pt,rfl,kx,rfl,iL⟩
   .by_cases oF:best < l.xs[q].y.hi - l.xs[q].y.lo+1
    .have iL:Hide (M5 l.xs g a q (1+1) (l.xs[q].y.hi - l.xs[q].y.lo+1,(q,1)) (R1,(ri,rk))):=⟨by
      have:=hW.h;simp only [bK,Nat.one_ne_zero,if_false] at this;rw [if_pos oF] at this;rw [this] at si;exact si.h⟩
     clear si hW;(repeat' first|simp [*,za,Box.cells,Span.cells]|(apply zb<;>intro _ h<;>try simp [-Nat.le_zero_eq] at h));exact ⟨2,by omega,by simp [wt],by omega,q,rfl,1,rfl,iL⟩
    .have iL:Hide (M5 l.xs g a q (1+1) (best,(pt,kx)) (R1,(ri,rk))):=⟨by
      have:=hW.h;simp only [bK,Nat.one_ne_zero,if_false] at this;rw [if_neg oF] at this;rw [this] at si;exact si.h⟩
     clear si hW;(repeat' first|simp [*,za,Box.cells,Span.cells]|(apply zb<;>intro _ h<;>try simp [-Nat.le_zero_eq] at h));exact ⟨2,by omega,by simp [wt],by omega,pt,rfl,kx,rfl,iL⟩
  .have Z9:k=2:=by omega
   subst Z9;have iL:Hide (RZ l.xs g (a+1) (best,(pt,kx)) (R1,(ri,rk))):=⟨hR.h⟩
   clear hR;(repeat' first|simp [*,za]|(apply zb<;>intro _ h<;>try simp [-Nat.le_zero_eq] at h));exact ⟨a+1,by omega,by omega,by omega,pt,rfl,kx,rfl,iL⟩
 .have vJ:a=g.length:=by omega
  subst vJ;have U9:(best,(pt,kx))=(R1,(ri,rk)):=by have:=hR.h;unfold RZ at this;rw [List.drop_length] at this;exact this
  simp only [Prod.mk.injEq] at U9;obtain ⟨rfl,rfl,rfl⟩:=U9;clear hR;simp [*,za]
end Go.Proofs.YtmmhnfghklppiaaGreat.Vm
