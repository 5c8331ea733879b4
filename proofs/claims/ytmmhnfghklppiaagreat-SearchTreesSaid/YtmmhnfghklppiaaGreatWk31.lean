/- search.cut: boxes one of which is cut. search.loose and search.wide: walked. search.refute's closure grow: the tree of a part, walked. -/
import Derived.Test.YtmmhnfghklppiaaGreatWk19
import Derived.Test.YtmmhnfghklppiaaGreatWk8
import Derived.Test.YtmmhnfghklppiaaGreatWk25
import Derived.Test.YtmmhnfghklppiaaGreatWk24
import Derived.Test.YtmmhnfghklppiaaGreatWk22
import Derived.Test.YtmmhnfghklppiaaGreatWk27
import Derived.Test.YtmmhnfghklppiaaGreatWk29
import Derived.Test.YtmmhnfghklppiaaGreatWk30
namespace Go.Proofs.YtmmhnfghklppiaaGreat.Vm
open Go
set_option linter.unusedSimpArgs false
set_option linter.unusedVariables false
set_option maxHeartbeats 4000000
set_option maxRecDepth 4000
def nP (t:Int):Prop:=-1048576<=t/\t<=1048576
def FO (l:List Box) (i ax:Nat) (t:Int) (above:Bool):List Box:=if above then pq l i ax t else fU l i ax t
theorem zsX {l:List Box} {i:Nat} (hi:i < l.length) (ax:Nat) (t:Int) (above:Bool):FO l i ax t above=l.set i (if above then BD l[i] ax t else pg l[i] ax t):=by
 unfold FO
 cases above
 .simp [Gi hi]
 .simp [Gj hi]
theorem sh78:G.shared 78=false:=by decide
theorem e78 (n:Nat) (l:Sl Box) (i ax:Nat) (t:Int) (above:Bool) (hi:i < l.xs.length) (hx:ax < 2) (hl:l.xs.length < 1000) (ht:nP t):zK G (n+2) 78 [l.pv Box.cells 4,.int .i64 i,.int .i64 ax,.int .i64 t,.bool above]=some ((Sl.mk false (FO l.xs i ax t above)).pv Box.cells 4):=by
 refine zz (zy _) rfl g78 rfl ?_
 have ho:=Et n;have fA:=Hide.mk (zsX hi ax t above);have p1:=TS hi;have p2:=TT hi;have p3:=TU hi;have p4:=TV hi;have e3:i*4+2+1=i*4+3:=rfl;have hlen:∀ b,(l.xs.set i b).length=l.xs.length:=fun b=>by simp
 have ht1:=ht.1;have ht2:=ht.2;have w1:IntKind.i64.wrap (t+1)=t+1:=wrap64 (by omega) (by omega);have hxx:ax=0\/ax=1:=by omega
 clear hx;rcases hxx with rfl|rfl<;>cases above
 all_goals
  (repeat' first|simp [*,zb,c78]|(apply za<;>intro _ h<;>try simp [-Nat.le_zero_eq] at h))
  refine Ff hl ?_
  intro v' H' hv hn bX ah aR;obtain ⟨id,rfl,hg⟩:=hv.row (by intro e;rw [e] at hi;simp at hi);have au:=zx hg;clear hv hn ah aR;have bA:=fun (H2:Heap) b (uR:H2.get id=.cells true (zq Box.cells (l.xs.set i b)))=>sO (n:=10) (f:=Box.cells) (sz:=4) (fun _=>rfl) uR (hlen b);have bA:=Hide.mk bA;(repeat' first|simp [*,zb]|(apply za<;>intro _ h<;>try simp [-Nat.le_zero_eq] at h));rw [fA.h];exact bA.h _ _ (zn au)
def K3 (b:Box):Prop:=(nP b.x.lo/\nP b.x.hi)/\nP b.y.lo/\nP b.y.hi
theorem FP (n:Nat) (H:Heap) (uq:Bool) (cs:List PV) (off:Nat) (a:Int):zH (zu G (n+1)) H (.pure (.func 76 [])) [.pure (.ptr uq cs off),.pure (.int .i64 a)]=some (.upd (.pure (.ptr uq cs (off+if a=0 then 0 else 2))) H):=by
 have h:∃ v H',Vm.call G (n+1) (.fn 76) [.pure (.ptr uq cs off),.pure (.int .i64 a)] H=some (v,H')/\(v=.pure (.ptr uq cs (off+if a=0 then 0 else 2))/\H'=H):=by
  refine Jl (k:=fun v H'=>v=.pure (.ptr uq cs (off+if a=0 then 0 else 2))/\H'=H) rfl g76 rfl ?_
  by_cases ha:a=0
  .simp [*,zb,c76]
  .simp [*,zb,c76]
 obtain ⟨v,H',h1,rfl,rfl⟩:=h;have h2:(zu G (n+1)).shared 76=true:=ztM;have h3:(zu G (n+1)).run 76 [.pure (.ptr uq cs off),.pure (.int .i64 a)] H'=some (.pure (.ptr uq cs (off+if a=0 then 0 else 2)),H'):=h1;simp only [zH,List.map_nil,List.append_nil,h2,if_true,h3]
theorem znm {g:List Nat} {a:Nat} (h:a < g.length):Nn (g.drop a)=((List.range 4).drop 0).map (fun k=>(g[a],k))++Nn (g.drop (a+1)):=by
 rw [List.drop_eq_getElem_cons h];rfl
theorem zpP {i k:Nat} (h:k < 4) (r:List (Nat×Nat)):((List.range 4).drop k).map (fun k=>(i,k))++r=(i,k)::(((List.range 4).drop (k+1)).map (fun k=>(i,k))++r):=by
 rw [List.drop_eq_getElem_cons (by simpa using h)];simp
theorem zk8 {g:List Nat} {a:Nat} (h:a < (zZ g).length):(zZ g)[a]=((g[a]'(by simpa [zZ] using h):Nat):Int):=by simp [zZ]
def U1 (fs:List Fact) (l:List Box) (g:List Nat) (a:Nat) (R:Option (Nat×Nat)):Prop:=R=(Nn (g.drop a)).find? (KY fs l)
def K4 (fs:List Fact) (l:List Box) (g:List Nat) (a q k:Nat) (R:Option (Nat×Nat)):Prop:=R=(((List.range 4).drop k).map (fun k=>(q,k))++Nn (g.drop (a+1))).find? (KY fs l)
def U2 (l:List Box) (g:List Nat) (a:Nat) (s R:Int×(Nat×Nat)):Prop:=(JD (g.drop a)).foldl (xk l) s=R
def PG (l:List Box) (g:List Nat) (a q k:Nat) (s R:Int×(Nat×Nat)):Prop:=(((List.range 2).drop k).map (fun k=>(q,k))++JD (g.drop (a+1))).foldl (xk l) s=R
def K5:Option (Nat×Nat)->Side
 | none=>⟨0,0,false⟩
 | some s=>Eu s.1 s.2
theorem sh75:G.shared 75=false:=by decide
theorem e75 (n:Nat) (p:Problem) (ok:ae p) (l:Sl Box) (g:List Nat) (hs:aP l.xs p.boxes.xs) (hw:Wf l.xs) (hg:∀ i∈g,i < l.xs.length) (nY:g.length<=12):zK G (n+7) 75 [.agg p.cells,l.pv Box.cells 4,lK g]=some (.aQ [.agg (K5 (FK p.facts.xs g l.xs)).cells,.bool (FK p.facts.xs g l.xs).isSome]):=by
 refine zz (zy _) rfl g75 rfl ?_
 rw [Jv];obtain ⟨bs,fs⟩:=p;have nb:bs.xs.length<=12:=ok.nb;have nf:fs.xs.length<=60:=ok.nf;have BM:l.xs.length=bs.xs.length:=hs.1;have OP:=fun H=>ze (G:=G) (n:=n+6) (H:=H) (caps:=[]) (ps:=[fs.pv Fact.cells 9]) ztp (e105 (n+5) fs (by omega));simp only [List.map] at OP;have hAbH:Hide (∀ (i:Int) H,zH (zu G (n+6)) H (.pure (.func 106 [])) [.pure (fs.pv Fact.cells 9),.pure ((Sl.mk false (jS fs.xs.length)).pv aI 1),.pure (.int .i64 i)]=some (.val (.pure ((Sl.of (rT fs.xs (jS fs.xs.length) i)).pv aI 1)))) :=
  ⟨fun i H=>ze (G:=G) (n:=n+6) (H:=H) (caps:=[]) (ps:=[fs.pv Fact.cells 9,(Sl.mk false (jS fs.xs.length)).pv aI 1,.int .i64 i]) ztv (e106 (n+4) fs (Sl.mk false (jS fs.xs.length)) i (M3 _) (by simp [Js];omega))⟩
 have hSt:Hide (∀ (i k:Nat),i < l.xs.length->k < 4->∀ H,zH (zu G (n+6)) H (.pure (.func 107 [])) [.pure (l.pv Box.cells 4),.pure (.agg (Eu i k).cells)]=some (.val (.pure ((Sl.mk false (jW l.xs i k)).pv Box.cells 4)))) :=
  ⟨fun i k h1 h2 H=>ze (G:=G) (n:=n+6) (H:=H) (caps:=[]) (ps:=[l.pv Box.cells 4,.agg (Eu i k).cells]) zvx (e107 (n+4) l i k h1 h2 (by omega))⟩
 have hBd:Hide (∀ (i k:Nat),i < l.xs.length->k < 4->∀ H,zH (zu G (n+6)) H (.pure (.func 74 [])) [.pure (fs.pv Fact.cells 9),.pure ((Sl.of (rT fs.xs (jS fs.xs.length) (i:Int))).pv aI 1),.pure ((Sl.mk false (jW l.xs i k)).pv Box.cells 4)]=some (.val (.pure (.int .i64 (fP fs.xs (jW l.xs i k) (rT fs.xs (jS fs.xs.length) (i:Int))))))) :=
  ⟨fun i k h1 h2 H=>by
   have iI:=zjH fs.xs (i:Int);have:=ze (G:=G) (n:=n+6) (H:=H) (caps:=[]) (ps:=[fs.pv Fact.cells 9,(Sl.of (rT fs.xs (jS fs.xs.length) (i:Int))).pv aI 1,(Sl.mk false (jW l.xs i k)).pv Box.cells 4]) sh74 (e74 n fs (Sl.of (rT fs.xs (jS fs.xs.length) (i:Int))) (Sl.mk false (jW l.xs i k)) (by rw [Sl.iV];exact zh2 _ _) (by rw [Sl.iV];omega) (fun f hf=>QU ok ((zfX hw h1 k).trans hs) (zgV hw h1 k) hf));rw [Sl.iV,Sl.iW] at this;exact this⟩
 have ho:=FP (n+5);have wz:IntKind.i64.wrap 0=0:=by decide
 have wo:IntKind.i64.wrap 1=1:=by decide
 have EA:=Hide.mk hg;have aX:(zZ g).length=g.length:=Ez g;generalize hR:FK fs.xs g l.xs=R;have FQ:Hide (U1 fs.xs l.xs g 0 R):=⟨hR.symm⟩
 clear hR hg ok hs hw;(repeat' first|simp [*,zb,c75,Problem.cells]|(apply za<;>intro _ h<;>try simp [-Nat.le_zero_eq] at h))
 refine zL [(7,7),(10,14),(20,66)] (fun (a:Nat) env H=>env 20=.pure (.int .i64 a)/\a<=g.length/\0 < H.nx/\H.get 0=.cells true [.pure (.int .i64 0),.pure (.int .i64 0),.pure (.bool false)]/\Hide (U1 fs.xs l.xs g a R)) (fun a=>g.length - a) 0 ?_ ?_ ?_ ?_
 .decide
 .exact ⟨by simp,by omega,by simp,by simp,FQ⟩
 .simp only [zF];omega
 clear FQ;rintro a env H ⟨g20,ha,bX,Jz,hR⟩
 by_cases aO:a < g.length
 .have w0:IntKind.i64.wrap ((a:Int)+1)=(a+1:Nat):=by rw [wrap64 (by omega) (by omega)];omega
  have qh:(a:Int) < g.length:=by omega
  have hai:a < (zZ g).length:=by omega
  have hga:=zk8 hai;have hq:=EA.h g[a] (List.getElem_mem aO);have CJ:=znm aO;obtain ⟨q,bU⟩:∃ q,q=g[a]:=⟨_,rfl⟩
  rw [<- bU] at hga hq CJ;have Un:(q:Int) < l.xs.length:=by omega
  have M7:=rQ (k:=.i64) (f:=Box.cells) (sz:=4) (s:=l) hq;have hAb:=hAbH.h (q:Int);have mg:Hide (K4 fs.xs l.xs g a q 0 R):=⟨by have:=hR.h;unfold U1 at this;rw [CJ] at this;exact this⟩
  clear hR CJ bU;(repeat' first|simp [*,zb]|(apply za<;>intro _ h<;>try simp [-Nat.le_zero_eq] at h))
  refine zL [(7,7),(12,14),(29,65)] (fun (k:Nat) env H=>env 29=.pure (.int .i64 k)/\k<=4/\0 < H.nx/\H.get 0=.cells true [.pure (.int .i64 0),.pure (.int .i64 0),.pure (.bool false)]/\Hide (K4 fs.xs l.xs g a q k R)) (fun k=>4 - k) 0 ?_ ?_ ?_ ?_
  .decide
  .exact ⟨by simp,by omega,bX,Jz,mg⟩
  .simp only [zF];omega
  clear mg bX Jz;rintro k env H ⟨g29,hk,bX,Jz,hR⟩
  by_cases nW:k < 4
  .have w1:IntKind.i64.wrap ((k:Int)+1)=(k+1:Nat):=by rw [wrap64 (by omega) (by omega)];omega
   have M0:(k:Int) < 4:=by omega
   have q1:=zoE k;have q2:=zoN k;have u1:IntKind.i64.wrap ((k / 2:Nat):Int)=(k / 2:Nat):=wrap64 (by omega) (by omega);obtain ⟨ax,Cj⟩:∃ ax:Nat,ax=k / 2:=⟨_,rfl⟩
   obtain ⟨uR,KH⟩:∃ m:Nat,m=k % 2:=⟨_,rfl⟩
   rw [<- Cj] at q1 u1;rw [<- KH] at q2;have fA:=hSt.h q k hq nW;have hbd:=hBd.h q k hq nW;have Aj:(Eu q k).cells=[.int .i64 q,.int .i64 ax,.bool (decide (uR=1))]:=by simp [Eu,Side.cells,Cj,KH]
   rw [Aj] at fA;have U3:ax=0\/ax=1:=by omega
   have U4:decide ((uR:Int)=1)=decide (uR=1):=by rw [decide_eq_decide];omega
   have hP:Hide (KY fs.xs l.xs (q,k)=(decide ((bz l.xs[q] ax).lo < (bz l.xs[q] ax).hi)&&decide (0<=fP fs.xs (jW l.xs q k) (rT fs.xs (jS fs.xs.length) (q:Int))))):=⟨by
    unfold KY;simp only;rw [getElem!_pos l.xs q hq,<- Cj]⟩
   have u7:Hide (R=((q,k)::(((List.range 4).drop (k+1)).map (fun k=>(q,k))++Nn (g.drop (a+1)))).find? (KY fs.xs l.xs)):=⟨by have:=hR.h;unfold K4 at this;rw [zpP nW] at this;exact this⟩
   have Dt:Hide ((K5 (some (q,k))).point=(q:Int)/\(K5 (some (q,k))).jT=(ax:Int)/\(K5 (some (q,k))).high=decide (uR=1)):=⟨rfl,by rw [Cj];rfl,by rw [KH];rfl⟩
   clear hR KH Cj Aj;generalize fP fs.xs (jW l.xs q k) (rT fs.xs (jS fs.xs.length) (q:Int))=B at *;generalize Uf:decide (uR=1)=hb at *;clear Uf;have OJ:(0:Nat)≠H.nx:=by omega
   by_cases uG:0<=B
   .rcases U3 with rfl|rfl<;>push_cast at fA
    .by_cases jo:l.xs[q].x.lo < l.xs[q].x.hi
     .have OG:R=some (q,k):=by
       rw [u7.h,List.find?_cons_of_pos (by rw [hP.h];simp [bz,jo,uG])]
      subst OG;obtain ⟨e1,e2,e3⟩:=Dt.h
      push_cast at e2
      clear u7 hP Dt;simp [*,zb,Box.cells,Span.cells]
     .have jC:Hide (K4 fs.xs l.xs g a q (k+1) R):=⟨by
       unfold K4;rw [u7.h,List.find?_cons_of_neg (by rw [hP.h];simp [bz,jo])]⟩
      clear u7 hP Dt;(repeat' first|simp [*,zb,Box.cells,Span.cells]|(apply za<;>intro _ h<;>try simp [-Nat.le_zero_eq] at h));exact ⟨k+1,by omega,by omega,by omega,jC⟩
    .by_cases jo:l.xs[q].y.lo < l.xs[q].y.hi
     .have OG:R=some (q,k):=by
       rw [u7.h,List.find?_cons_of_pos (by rw [hP.h];simp [bz,jo,uG])]
      subst OG;obtain ⟨e1,e2,e3⟩:=Dt.h
      push_cast at e2
      clear u7 hP Dt;simp [*,zb,Box.cells,Span.cells]
     .have jC:Hide (K4 fs.xs l.xs g a q (k+1) R):=⟨by
       unfold K4;rw [u7.h,List.find?_cons_of_neg (by rw [hP.h];simp [bz,jo])]⟩
      clear u7 hP Dt;(repeat' first|simp [*,zb,Box.cells,Span.cells]|(apply za<;>intro _ h<;>try simp [-Nat.le_zero_eq] at h));exact ⟨k+1,by omega,by omega,by omega,jC⟩
   .have jC:Hide (K4 fs.xs l.xs g a q (k+1) R):=⟨by
     unfold K4;rw [u7.h,List.find?_cons_of_neg (by rw [hP.h];simp [uG])]⟩
    clear u7 hP Dt;rcases U3 with rfl|rfl<;>push_cast at fA
    .by_cases jo:l.xs[q].x.lo < l.xs[q].x.hi
     ·(repeat' first|simp [*,zb,Box.cells,Span.cells]|(apply za<;>intro _ h<;>try simp [-Nat.le_zero_eq] at h));exact ⟨k+1,by omega,by omega,by omega,jC⟩
     ·(repeat' first|simp [*,zb,Box.cells,Span.cells]|(apply za<;>intro _ h<;>try simp [-Nat.le_zero_eq] at h));exact ⟨k+1,by omega,by omega,by omega,jC⟩
    .by_cases jo:l.xs[q].y.lo < l.xs[q].y.hi
     ·(repeat' first|simp [*,zb,Box.cells,Span.cells]|(apply za<;>intro _ h<;>try simp [-Nat.le_zero_eq] at h));exact ⟨k+1,by omega,by omega,by omega,jC⟩
     ·(repeat' first|simp [*,zb,Box.cells,Span.cells]|(apply za<;>intro _ h<;>try simp [-Nat.le_zero_eq] at h));exact ⟨k+1,by omega,by omega,by omega,jC⟩
  .have OU:k=4:=by omega
   subst OU;have jC:Hide (U1 fs.xs l.xs g (a+1) R):=⟨hR.h⟩
   clear hR;(repeat' first|simp [*,zb]|(apply za<;>intro _ h<;>try simp [-Nat.le_zero_eq] at h));exact ⟨a+1,by omega,by omega,by omega,jC⟩
 .have Cc:a=g.length:=by omega
  subst Cc;have XD:R=none:=by have:=hR.h;unfold U1 at this;rw [List.drop_length] at this;exact this
  subst XD;clear hR;(repeat' first|simp [*,zb]|(apply za<;>intro _ h<;>try simp [-Nat.le_zero_eq] at h));exact ⟨rfl,rfl,rfl⟩
theorem zqj {g:List Nat} {a:Nat} (h:a < g.length):JD (g.drop a)=((List.range 2).drop 0).map (fun k=>(g[a],k))++JD (g.drop (a+1)):=by
 rw [List.drop_eq_getElem_cons h];rfl
theorem zpF {i k:Nat} (h:k < 2) (r:List (Nat×Nat)):((List.range 2).drop k).map (fun k=>(i,k))++r=(i,k)::(((List.range 2).drop (k+1)).map (fun k=>(i,k))++r):=by
 rw [List.drop_eq_getElem_cons (by simpa using h)];simp
theorem sh77:G.shared 77=false:=by decide
theorem e77 (n:Nat) (l:Sl Box) (g:List Nat) (hg:∀ i∈g,i < l.xs.length) (bJ:g≠[]) (hb:∀ b∈l.xs,K3 b) (nY:g.length<=12):zK G (n+2) 77 [l.pv Box.cells 4,lK g]=some (.aQ [.int .i64 ((xQ g l.xs).1:Nat),.int .i64 ((xQ g l.xs).2:Nat)]):=by
 refine zz (zy _) rfl g77 rfl ?_
 rw [Jv];have ho:=FP n;have wz:IntKind.i64.wrap 0=0:=by decide
 have wo:IntKind.i64.wrap 1=1:=by decide
 have wt:IntKind.i64.wrap 2=2:=by decide
 have bZ:Hide (∀ (s:Span),nP s.lo->nP s.hi->∀ H,zH (zu G (n+1)) H (.pure (.func 92 [])) [.pure (.agg s.cells)]=some (.val (.pure (.int .i64 (s.hi - s.lo+1))))):=⟨fun s h1 h2 H=>ze (G:=G) (n:=n+1) (H:=H) (caps:=[]) (ps:=[.agg s.cells]) sh92 (e92 n s (by unfold nP at *;omega) (by unfold nP at *;omega))⟩
 have EA:=Hide.mk hg;have KC:=Hide.mk hb;have aX:(zZ g).length=g.length:=Ez g;have Jz:0 < g.length:=List.length_pos_iff.2 bJ;have hg0I:(0:Int) < g.length:=by omega
 have h00:(zZ g)[0]'(by omega)=((g[0]:Nat):Int):=zk8 (by omega);obtain ⟨p0,hp0⟩:∃ p0,p0=g[0]:=⟨_,rfl⟩
 rw [<- hp0] at h00;have O9:=rQ (k:=.i64) (f:=aI) (sz:=1) (s:=Sl.mk false (zZ g)) (n:=0) (by rw [Sl.iW];omega);simp only [Sl.iW,h00] at O9;rw [show (((0:Nat):Int))=0 from rfl] at O9;obtain ⟨R,hR⟩:∃ R,R=(JD g).foldl (xk l.xs) (0,(g.headD 0,0)):=⟨_,rfl⟩
 have hRw:xQ g l.xs=R.2:=by rw [hR];rfl
 rw [hRw];have hhd:g.headD 0=p0:=by
  rw [hp0]
  cases g with
  | nil=>exact absurd rfl bJ
  | cons x g=>rfl
 rw [hhd] at hR;have FQ:Hide (U2 l.xs g 0 (0,(p0,0)) R):=⟨hR.symm⟩
 clear hR hRw hhd hp0 hg hb bJ;obtain ⟨R1,ri,rk⟩:=R;simp only;(repeat' first|simp [*,zb,c77]|(apply za<;>intro _ h<;>try simp [-Nat.le_zero_eq] at h))
 refine zL [(6,8),(10,12),(18,40)] (fun (s:Nat×(Int×(Nat×Nat))) env H=>env 18=.pure (.int .i64 s.1)/\s.1<=g.length/\env 6=.pure (.int .i64 s.2.1)/\env 7=.pure (.int .i64 (s.2.2.1:Nat))/\env 8=.pure (.int .i64 (s.2.2.2:Nat))/\Hide (U2 l.xs g s.1 s.2 (R1,(ri,rk)))) (fun s=>g.length - s.1) (0,(0,(p0,0))) ?_ ?_ ?_ ?_
 .decide
 .exact ⟨by simp,by simp,by simp,by simp,by simp,FQ⟩
 .simp only [zF];omega
 clear FQ;rintro ⟨a,best,pt,kx⟩ env H ⟨g18,ha,g6,g7,g8,hR⟩;simp only at g18 ha g6 g7 g8 hR
 by_cases aO:a < g.length
 .have w0:IntKind.i64.wrap ((a:Int)+1)=(a+1:Nat):=by rw [wrap64 (by omega) (by omega)];omega
  have qh:(a:Int) < g.length:=by omega
  have hai:a < (zZ g).length:=by omega
  have hga:=zk8 hai;have hq:=EA.h g[a] (List.getElem_mem aO);have CJ:=zqj aO;obtain ⟨q,bU⟩:∃ q,q=g[a]:=⟨_,rfl⟩
  rw [<- bU] at hga hq CJ;have Un:(q:Int) < l.xs.length:=by omega
  have M7:=rQ (k:=.i64) (f:=Box.cells) (sz:=4) (s:=l) hq;have mg:Hide (PG l.xs g a q 0 (best,(pt,kx)) (R1,(ri,rk))):=⟨by have:=hR.h;unfold U2 at this;rw [CJ] at this;exact this⟩
  have Dp:=KC.h _ (List.getElem_mem hq);unfold K3 nP at Dp;have s1:=bZ.h l.xs[q].x (by unfold nP;omega) (by unfold nP;omega);have s2:=bZ.h l.xs[q].y (by unfold nP;omega) (by unfold nP;omega);simp only [Span.cells] at s1 s2;clear hR CJ bU Dp;(repeat' first|simp [*,zb]|(apply za<;>intro _ h<;>try simp [-Nat.le_zero_eq] at h))
  refine zL [(6,8),(11,12),(22,39)] (fun (s:Nat×(Int×(Nat×Nat))) env H=>env 22=.pure (.int .i64 s.1)/\s.1<=2/\env 6=.pure (.int .i64 s.2.1)/\env 7=.pure (.int .i64 (s.2.2.1:Nat))/\env 8=.pure (.int .i64 (s.2.2.2:Nat))/\Hide (PG l.xs g a q s.1 s.2 (R1,(ri,rk)))) (fun s=>2 - s.1) (0,(best,(pt,kx))) ?_ ?_ ?_ ?_
  .decide
  .exact ⟨by simp,by simp,by simp [g6],by simp [g7],by simp [g8],mg⟩
  .simp only [zF];omega
  clear mg g6 g7 g8;rintro ⟨k,best,pt,kx⟩ env H ⟨g22,hk,g6,g7,g8,hR⟩;simp only at g22 hk g6 g7 g8 hR
  by_cases sj:k < 2
  .have w1:IntKind.i64.wrap ((k:Int)+1)=(k+1:Nat):=by rw [wrap64 (by omega) (by omega)];omega
   have M0:(k:Int) < 2:=by omega
   have u7:Hide ((((List.range 2).drop (k+1)).map (fun k=>(q,k))++JD (g.drop (a+1))).foldl (xk l.xs) (xk l.xs (best,(pt,kx)) (q,k))=(R1,(ri,rk))):=⟨by have:=hR.h;unfold PG at this;rw [zpF sj] at this;exact this⟩
   have hW:Hide (xk l.xs (best,(pt,kx)) (q,k)=if best < (bz l.xs[q] k).hi - (bz l.xs[q] k).lo+1 then ((bz l.xs[q] k).hi - (bz l.xs[q] k).lo+1,(q,k)) else (best,(pt,kx))):=⟨by
    unfold xk Dn;simp only;rw [getElem!_pos l.xs q hq]⟩
   clear hR;have hk01:k=0\/k=1:=by omega
   rcases hk01 with rfl|rfl
   .by_cases mO:best < l.xs[q].x.hi - l.xs[q].x.lo+1
    .have jC:Hide (PG l.xs g a q (0+1) (l.xs[q].x.hi - l.xs[q].x.lo+1,(q,0)) (R1,(ri,rk))):=⟨by
      have:=hW.h;simp only [bz,if_true] at this;rw [if_pos mO] at this;rw [this] at u7;exact u7.h⟩
     clear u7 hW;(repeat' first|simp [*,zb,Box.cells,Span.cells]|(apply za<;>intro _ h<;>try simp [-Nat.le_zero_eq] at h));exact ⟨1,by omega,by simp,by omega,q,rfl,0,rfl,jC⟩
    .have jC:Hide (PG l.xs g a q (0+1) (best,(pt,kx)) (R1,(ri,rk))):=⟨by
      have:=hW.h;simp only [bz,if_true] at this;rw [if_neg mO] at this;rw [this] at u7;exact u7.h⟩
     clear u7 hW;(repeat' first|simp [*,zb,Box.cells,Span.cells]|(apply za<;>intro _ h<;>try simp [-Nat.le_zero_eq] at h));exact ⟨1,by omega,by simp,by omega,pt,rfl,kx,rfl,jC⟩
   .by_cases mO:best < l.xs[q].y.hi - l.xs[q].y.lo+1
    .have jC:Hide (PG l.xs g a q (1+1) (l.xs[q].y.hi - l.xs[q].y.lo+1,(q,1)) (R1,(ri,rk))):=⟨by
      have:=hW.h;simp only [bz,Nat.one_ne_zero,if_false] at this;rw [if_pos mO] at this;rw [this] at u7;exact u7.h⟩
     clear u7 hW;(repeat' first|simp [*,zb,Box.cells,Span.cells]|(apply za<;>intro _ h<;>try simp [-Nat.le_zero_eq] at h));exact ⟨2,by omega,by simp [wt],by omega,q,rfl,1,rfl,jC⟩
    .have jC:Hide (PG l.xs g a q (1+1) (best,(pt,kx)) (R1,(ri,rk))):=⟨by
      have:=hW.h;simp only [bz,Nat.one_ne_zero,if_false] at this;rw [if_neg mO] at this;rw [this] at u7;exact u7.h⟩
     clear u7 hW;(repeat' first|simp [*,zb,Box.cells,Span.cells]|(apply za<;>intro _ h<;>try simp [-Nat.le_zero_eq] at h));exact ⟨2,by omega,by simp [wt],by omega,pt,rfl,kx,rfl,jC⟩
  .have hk2':k=2:=by omega
   subst hk2';have jC:Hide (U2 l.xs g (a+1) (best,(pt,kx)) (R1,(ri,rk))):=⟨hR.h⟩
   clear hR;(repeat' first|simp [*,zb]|(apply za<;>intro _ h<;>try simp [-Nat.le_zero_eq] at h));exact ⟨a+1,by omega,by omega,by omega,pt,rfl,kx,rfl,jC⟩
 .have Cc:a=g.length:=by omega
  subst Cc;have XD:(best,(pt,kx))=(R1,(ri,rk)):=by have:=hR.h;unfold U2 at this;rw [List.drop_length] at this;exact this
  simp only [Prod.mk.injEq] at XD;obtain ⟨rfl,rfl,rfl⟩:=XD;clear hR;simp [*,zb]
set_option maxHeartbeats 8000000
theorem zlm:G.shared 73=true:=by decide
def Av (p:Problem) (mb ob pb gb:Nat):List AV:=[.pure (.ptr false p.cells 0),.box mb 0,.box ob 0,.box pb 0,.box gb 0]
structure sU (p:Problem) (g:List Nat) (mb ob pb gb bs:Nat) (M:AV) (H:Heap) (V:AV) (out:List Node):Prop where
 m:H.get mb=.cells true [M]
 mo:bL aI 1 H M (IJ p.facts.xs g)
 o:H.get ob=.cells true [V]
 gr:aD Node.cells 4 H V out
 pt:H.get pb=.cells true [.pure (lK g)]
 gw:H.get gb=.cells true [.func 73 (Av p mb ob pb gb)]
 mlo:∀ id,Names M id->id < bs/\id≠ob
 sep:∀ id,Names V id->bs<=id
 bs:bs<=H.nx
structure U5 (mb ob pb gb bs:Nat):Prop where
 m:mb < bs
 o:ob < bs
 p:pb < bs
 g:gb < bs
 mo:mb≠ob
 po:pb≠ob
 go:gb≠ob
structure lM (ob:Nat) (H H':Heap) (V V':AV) (out:List Node):Prop where
 same:Sm (fun j=>j=ob\/Names V j) H H'
 at_:H'.get ob=.cells true [V']
 gr:aD Node.cells 4 H' V' out
 new:∀ id,Names V' id->Names V id\/H.nx<=id
theorem lM.trans {ob:Nat} {H H1 H2:Heap} {V V1 V2:AV} {o1 o2:List Node} (h:lM ob H H1 V V1 o1) (h':lM ob H1 H2 V1 V2 o2):lM ob H H2 V V2 o2 :=
 ⟨h.same.trans h'.same fun j hj hn=>by
  rcases hn with hn|hn
  .exact .inl hn
  .rcases h.new j hn with h1|h1
   .exact .inr h1
   .omega,h'.at_,h'.gr,fun id hn=>by
  rcases h'.new id hn with h1|h1
  .exact h.new id h1
  .exact .inr (by have:=h.same.nx;omega)⟩
theorem lM.in {p:Problem} {g:List Nat} {mb ob pb gb bs:Nat} {M V V':AV} {H H':Heap} {o1 o2:List Node} (hb:U5 mb ob pb gb bs) (h:sU p g mb ob pb gb bs M H V o1) (h':lM ob H H' V V' o2):sU p g mb ob pb gb bs M H' V' o2:=by
 have key:∀ j,j < bs->j≠ob->H'.get j=H.get j:=fun j h1 h2=>h'.same.get j (by have:=h.bs;omega) fun h3=>by
  rcases h3 with h3|h3
  .exact h2 h3
  .have:=h.sep j h3;omega
 exact ⟨by rw [key mb hb.m hb.mo];exact h.m,h.mo.keep fun id ⟨n,hn⟩=>by
   have:=h.mlo id ⟨_,_,_,hn⟩;exact key id this.1 this.2,h'.at_,h'.gr,by rw [key pb hb.p hb.po];exact h.pt,by rw [key gb hb.g hb.go];exact h.gw,h.mlo,fun id hn=>by
   rcases h'.new id hn with h1|h1
   .exact h.sep id h1
   .have:=h.bs;omega,by have:=h.bs;have:=h'.same.nx;omega⟩
def ve (H:Heap) (ob bs:Nat) (v:AV) (l:List Box):Prop:=(∃ s:Sl Box,s.xs=l/\v=.pure (s.pv Box.cells 4))\/∃ id,v=.row id 4 0 l.length/\id≠ob/\id < bs/\H.get id=.cells true (zq Box.cells l)
theorem ve.frz {H:Heap} {ob bs:Nat} {v:AV} {l:List Box} (h:ve H ob bs v l):∃ s:Sl Box,s.xs=l/\FrzK H true 12 v (s.pv Box.cells 4):=by
 rcases h with ⟨s,h1,rfl⟩|⟨id,rfl,_,_,hg⟩
 .exact ⟨s,h1,.pure _⟩
 .exact Jm (n:=10) (f:=Box.cells) (sz:=4) (fun _=>rfl) hg rfl
theorem ve.keep {H H':Heap} {ob bs:Nat} {v:AV} {l:List Box} (h:ve H ob bs v l) (hk:∀ j,j < bs->j≠ob->H'.get j=H.get j):ve H' ob bs v l:=by
 rcases h with h|⟨id,h1,h2,h3,hg⟩
 .exact .inl h
 .exact .inr ⟨id,h1,h2,h3,(hk id h3 h2).trans hg⟩
structure IV (p:Problem) (g:List Nat):Prop where
 ok:ae p
 ne:g≠[]
 lt:∀ i∈g,i < p.boxes.xs.length
 few:g.length<=12
theorem zkb {p:Problem} {g:List Nat} {mb ob pb gb bs:Nat} {M V V4:AV} {H Hs H4:Heap} {out:List Node} {a:Node} (hi:sU p g mb ob pb gb bs M H V out) (nK:aD Node.cells 4 H4 V4 (out++[a])) (ha:After V Hs V4 H4) (hs:Sm (fun _=>False) H Hs):lM ob H (H4.set ob (.cells true [V4])) V V4 (out++[a]):=by
 have Gf:=zx hi.o;have h1:=hs.nx;have h2:=ha.nx;exact ⟨Sm.set (Sm.trans (hs.mono fun _ _ h=>h.elim) (⟨ha.nx,ha.get⟩:Sm (Names V) Hs H4) fun j _ h=>.inr h) (.inl (.inl rfl)),zn (by omega),nK.set (fun hn=>by have:=ha.new ob hn;omega) _,fun id hn=>.inr (by have:=ha.new id hn;omega)⟩
theorem sU.sm {p:Problem} {g:List Nat} {mb ob pb gb bs:Nat} {M V:AV} {H h:Heap} {out:List Node} (hi:sU p g mb ob pb gb bs M H V out) (hs:Sm (fun _=>False) H h):sU p g mb ob pb gb bs M h V out:=by
 have key:∀ j,j < H.nx->h.get j=H.get j:=fun j h1=>hs.get j h1 (fun h=>h);exact ⟨by rw [key mb (zx hi.m)];exact hi.m,hi.mo.keep fun id ⟨n,hn⟩=>key id (hi.mo.names_lt ⟨_,_,_,hn⟩),by rw [key ob (zx hi.o)];exact hi.o,⟨hi.gr.1.keep fun id ⟨n,hn⟩=>key id (hi.gr.1.names_lt ⟨_,_,_,hn⟩),hi.gr.2⟩,by rw [key pb (zx hi.pt)];exact hi.pt,by rw [key gb (zx hi.gw)];exact hi.gw,hi.mlo,hi.sep,by have:=hi.bs;have:=hs.nx;omega⟩
theorem lM.pre {ob:Nat} {H h H':Heap} {V V':AV} {o:List Node} (hs:Sm (fun _=>False) H h) (h':lM ob h H' V V' o):lM ob H H' V V' o :=
 ⟨(hs.mono fun _ _ h=>h.elim).trans h'.same fun _ _ h=>h,h'.at_,h'.gr,fun id hn=>by
  rcases h'.new id hn with h1|h1
  .exact .inl h1
  .exact .inr (by have:=hs.nx;omega)⟩
theorem XE {p:Problem} {g:List Nat} {mb ob pb gb bs:Nat} {M V:AV} {H h:Heap} {out:List Node} (hi:sU p g mb ob pb gb bs M H V out) (hs:Sm (fun _=>False) H h):lM ob H h V V out :=
 ⟨hs.mono fun _ _ h=>h.elim,(hi.sm hs).o,(hi.sm hs).gr,fun _ h=>.inl h⟩
theorem zjw {p:Problem} {g:List Nat} {l:List Box} {i ax:Nat} {t:Int} (hw:Wf l) (hg:∀ i∈g,i < l.length) (bJ:g≠[]) (h:BF (FK p.facts.xs g) (xQ g) l=some (i,ax,t)):jI l i ax t:=by
 unfold BF at h
 cases hS:FK p.facts.xs g l with
 | some s =>
  obtain ⟨a,k⟩:=s;rw [hS] at h;simp only [Option.some.injEq,Prod.mk.injEq] at h;obtain ⟨rfl,rfl,rfl⟩:=h;have hm:=o8.1 (List.mem_of_find?_eq_some hS);have hb:=List.find?_some hS;have aX:a < l.length:=hg a hm.1;simp only [KY,Bool.and_eq_true,decide_eq_true_eq] at hb;have hk:=hm.2;simp only at hk;have h1:=hb.1;rw [getElem!_pos l a aX] at h1 ⊢
  refine ⟨aX,by omega,?_,?_⟩
  .split<;>omega
  .split<;>omega
 | none =>
  rw [hS] at h;simp only at h
  split at h
  .simp at h
  .rename_i JF;simp only [Option.some.injEq,Prod.mk.injEq] at h;obtain ⟨rfl,rfl,rfl⟩:=h;obtain ⟨w1,w2,_⟩:=zgS bJ hw hg;have aX:=hg _ w1;have IW:=hw _ (List.getElem_mem aX);rw [getElem!_pos l _ aX] at JF ⊢;have hle:(bz l[(xQ g l).1] (xQ g l).2).lo<=(bz l[(xQ g l).1] (xQ g l).2).hi:=by
    unfold jl at IW;unfold bz
    split<;>omega
   exact ⟨aX,w2,by omega,by omega⟩
theorem zrU {cl:Callee} {b:Bool} {A B:aV} {env:Env} {H:Heap} {Q Mid:fZ->Env->Heap->Prop} {u} (hA:b=true->wp cl A env H Mid .mk) (hB:b=false->wp cl B env H Mid .mk) (hR:∀ x e h,Mid x e h->Q x e h):qd b (wp cl A env H Q .mk) (wp cl B env H Q .mk) u:=by
 cases b with
 | true=>exact (zp7).2 ((hA rfl).mono hR)
 | false=>exact (zjb).2 ((hB rfl).mono hR)
def GMid (p:Problem) (H:Heap) (v:AV) (mb ob pb gb i ax:Nat) (t:Int) (x:fZ) (e:Env) (h:Heap):Prop:=x=.normal/\e 0=v/\e 1=.pure (.ptr false p.cells 0)/\e 2=.box mb 0/\e 3=.box ob 0/\e 4=.box pb 0/\e 5=.box gb 0/\e 8=.box H.nx 0/\e 10=.pure (.int .i64 t)/\Sm (fun _=>False) H h/\H.nx < h.nx/\∃ hb,h.get H.nx=.cells true [.pure (.int .i64 i),.pure (.int .i64 ax),.pure (.bool hb)]
theorem zqb {p:Problem} {g:List Nat} (hp:IV p g) {mb ob pb gb bs m F:Nat} (hb:U5 mb ob pb gb bs) {M:AV}
  (ih:∀ (H:Heap) (l:List Box) (V:AV) (out:List Node),iq l < m->aP l p.boxes.xs->Wf l->out.length+(vL p g m l).length<=200000000000->sU p g mb ob pb gb bs M H V out ->
   ∃ H',Vm.call G (F+10) (.fn 73) ([.pure ((Sl.mk false l).pv Box.cells 4)]++Av p mb ob pb gb) H=some (.aQ [],H')/\∃ V',lM ob H H' V V' (out++vL p g m l))
  (H:Heap) (v:AV) (l:List Box) (V:AV) (out:List Node) (hm:iq l < m+1) (hs:aP l p.boxes.xs) (hw:Wf l) (hv:ve H ob bs v l) (bZ:out.length+(vL p g (m+1) l).length<=200000000000) (hi:sU p g mb ob pb gb bs M H V out) :
  ∃ H',Vm.call G (F+10+1) (.fn 73) ([v]++Av p mb ob pb gb) H=some (.aQ [],H')/\∃ V',lM ob H H' V V' (out++vL p g (m+1) l):=by
 have ok:=hp.ok;have nb:=ok.nb;have nf:=ok.nf;have BM:l.length=p.boxes.xs.length:=hs.1;have Jy:v.cells=[v]/\v.one=true:=by
  rcases hv with ⟨s,_,rfl⟩|⟨id,rfl,_⟩
  .exact ⟨by simp,by simp⟩
  .exact ⟨rfl,rfl⟩
 have vC:=Jy.1;have fD:=Jy.2;have yo:=hi.gr.1.one;have KU:=yo.1;have KW:=yo.2;have hMo:=hi.mo.one;have hMo1:=hMo.1;have hMo2:=hMo.2;have hmn:=zx hi.m;have Gf:=zx hi.o;have hpn:=zx hi.pt;have F9:=zx hi.gw;have g1:=hi.m;have g2:=hi.o;have g3:=hi.pt;have g4:=hi.gw;obtain ⟨sl,Du,IX⟩:=hv.frz;obtain ⟨sm,PH,K6⟩:=Ud (f:=aI) (sz:=1) (n:=10) (fun _=>rfl) hi.mo;have hmi:uX p.facts.xs sm.xs:=by rw [PH];exact zh1 _ _
 have vE:sm.xs.length < 1000:=by rw [PH];have:=zql p.facts.xs g;omega
 have xJ:zH (zu G (F+10)) H (.pure (.func 74 [])) [.pure (p.facts.pv Fact.cells 9),M,v]=some (.val (.pure (.int .i64 (fP p.facts.xs l (IJ p.facts.xs g))))):=by
  have:=JE sh74 (.cons (.pure _) (.cons K6 (.cons IX .nil))) (e74 (F+4) p.facts sm sl hmi vE (fun f hf=>QU ok (by rw [Du];exact hs) (by rw [Du];exact hw) hf)) rfl;rw [Du,PH] at this;exact this
 have main:∃ v' H',Vm.call G (F+10+1) (.fn 73) ([v]++Av p mb ob pb gb) H=some (v',H')/\(v'=.aQ []/\∃ V',lM ob H H' V V' (out++vL p g (m+1) l)):=by
  refine Jl rfl g73 rfl ?_
  generalize hT:vL p g (m+1) l=T at *;unfold vL Kt at hT
  by_cases h0:0<=fP p.facts.xs l (IJ p.facts.xs g)
  .rw [if_pos h0] at hT;generalize fP p.facts.xs l (IJ p.facts.xs g)=B at *;have LQ:out.length < 200000000000:=by rw [<- hT] at bZ;simp at bZ;omega
   have FR:=Hide.mk hi;have XF:=Hide.mk hT;clear ih hT IX K6 hi;(repeat' first|simp [*,zb,c73,Av,Problem.cells]|(apply za<;>intro _ h<;>try simp [-Nat.le_zero_eq] at h))
   refine H8 (f:=Node.cells) (sz:=4) (l:=out) ((FR.h.gr).alloc _) (fun _=>rfl) (by decide) (fun _=>rfl) (by unfold zo;omega) ⟨⟨B,0,0,0⟩,by simp [Node.cells],?_⟩
   intro V4 H4 nK wG;have k2:H4.get ob=.cells true [V]:=by rw [wG.get ob (by simp;omega) (fun hn=>by have:=FR.h.sep ob hn;have:=hb.o;omega),zg Gf];exact g2
   have hon4:ob < H4.nx:=by have:=wG.nx;simp at this;omega
   have tY:=Hide.mk (zkb FR.h nK wG (Sm.alloc (Sm.refl _ _)));have o4:=nK.1.one;have Q5:=o4.1;have Q7:=o4.2;rw [XF.h] at tY;clear nK wG o4 FR hv xJ;(repeat' first|simp [*,zb]|(apply za<;>intro _ h<;>try simp [-Nat.le_zero_eq] at h));exact ⟨_,tY.h⟩
  .rw [if_neg h0] at hT;generalize fP p.facts.xs l (IJ p.facts.xs g)=B at *;have hnat:l.length<=12:=by omega
   have nY:∀ i∈g,i < l.length:=fun i hi=>by rw [BM];exact hp.lt i hi
   have jo:zH (zu G (F+10)) H (.pure (.func 75 [])) [.pure (.agg p.cells),v,.pure (lK g)]=some (.val (.pure (.aQ [.agg (K5 (FK p.facts.xs g l)).cells,.bool (FK p.facts.xs g l).isSome]))):=by
    have:=JE sh75 (.cons (.pure _) (.cons IX (.cons (.pure _) .nil))) (e75 (F+3) p ok sl g (by rw [Du];exact hs) (by rw [Du];exact hw) (by rw [Du];exact nY) hp.few) rfl;rw [Du] at this;exact this
   have fe:=KF ok hs hw;have U6:∀ b∈l,K3 b:=fun b jR=>by
    have:=aF.1 (fe b jR);unfold K3 nP;omega
   have XG:∀ o o',zH (zu G (F+10)) ((H.alloc o).set H.nx o') (.pure (.func 77 [])) [v,.pure (lK g)]=some (.val (.pure (.aQ [.int .i64 ((xQ g l).1:Nat),.int .i64 ((xQ g l).2:Nat)]))):=fun o o'=>by
    obtain ⟨s2,Ag,iZ⟩:=(hv.keep (H':=(H.alloc o).set H.nx o') fun j h1 h2=>by
     have:=hi.bs;rw [zf (by omega),zg (by omega)]).frz
    have:=JE sh77 (.cons iZ (.cons (.pure _) .nil)) (e77 (F+8) s2 g (by rw [Ag];exact nY) hp.ne (by rw [Ag];exact U6) hp.few) rfl;rw [Ag] at this;exact this
   obtain ⟨S,hS⟩:∃ S,FK p.facts.xs g l=S:=⟨_,rfl⟩
   obtain ⟨⟨wi,wk⟩,hW⟩:∃ w,xQ g l=w:=⟨_,rfl⟩
   obtain ⟨w1,w2,_⟩:=zgS hp.ne hw nY;rw [hW] at w1 w2 XG;simp only at w1 w2 XG;have nN:=nY _ w1;rw [hS] at jo;have K7:pb≠H.nx:=by omega
   have hwo:ob≠H.nx:=by omega
   have hwg:gb≠H.nx:=by omega
   have TJ:mb≠H.nx:=by omega
   have U7:H.nx≠ob:=by omega
   cases pU:BF (FK p.facts.xs g) (xQ g) l with
   | none =>
    cases S with
    | some sk =>
     unfold BF at pU;rw [hS] at pU;simp at pU
    | none =>
     rw [pU] at hT;unfold BF at pU;rw [hS] at pU;simp only at pU;rw [hW] at pU;simp only at pU;have aX:wi < l.length:=nN;rw [getElem!_pos l wi aX] at pU
     by_cases JF:(bz l[wi] wk).lo=(bz l[wi] wk).hi
     case neg=>rw [if_neg JF] at pU;simp at pU
     simp only at hT;have FR:=Hide.mk hi;have Dp:=aF.1 (fe _ (List.getElem_mem aX));have sj:wk=0\/wk=1:=by omega
     simp only [K5,Side.cells,Option.isSome_none,Problem.cells] at jo;subst hT;clear pU hS fe U6 w1 w2 nN BM hi IX K6 ih hW;rcases sj with rfl|rfl
     .simp only [bz,if_true,if_false,Nat.one_ne_zero] at JF;rcases hv with ⟨s,rfl,rfl⟩|⟨id,rfl,uP,lW,hg⟩
      .have ho:=FP (F+9);have xS:=rQ (k:=.i64) (f:=Box.cells) (sz:=4) (s:=s) aX;(repeat' first|simp [*,zb,c73,Av,Problem.cells,Side.cells,Box.cells,Span.cells]|(apply za<;>intro _ h<;>try simp [-Nat.le_zero_eq] at h));exact ⟨V,XE FR.h (by repeat (first|exact Sm.refl _ _|refine Sm.alloc ?_|refine Sm.set ?_ (.inr (by first|omega|simp|(simp;omega)))))⟩
      .have ho:=Et (F+9);have sV:=zx hg;have sN:id≠H.nx:=by omega
       have Dv:H.nx≠id:=by omega
       have l0:=zC (own:=true) (f:=Box.cells) (sz:=4) (l:=l) (i:=wi) (size:=1) (off:=0) (fun _=>rfl) aX (by decide);have l1:=zC (own:=true) (f:=Box.cells) (sz:=4) (l:=l) (i:=wi) (size:=1) (off:=1) (fun _=>rfl) aX (by decide);have l2:=zC (own:=true) (f:=Box.cells) (sz:=4) (l:=l) (i:=wi) (size:=1) (off:=2) (fun _=>rfl) aX (by decide);have l3:=zC (own:=true) (f:=Box.cells) (sz:=4) (l:=l) (i:=wi) (size:=1) (off:=3) (fun _=>rfl) aX (by decide);rw [Nat.add_zero] at l0;have e3':wi*4+2+1=wi*4+3:=rfl;(repeat' first|simp [*,zb,c73,Av,Problem.cells,Side.cells,Box.cells,Span.cells]|(apply za<;>intro _ h<;>try simp [-Nat.le_zero_eq] at h));exact ⟨V,XE FR.h (by repeat (first|exact Sm.refl _ _|refine Sm.alloc ?_|refine Sm.set ?_ (.inr (by first|omega|simp|(simp;omega)))))⟩
     .simp only [bz,if_true,if_false,Nat.one_ne_zero] at JF;rcases hv with ⟨s,rfl,rfl⟩|⟨id,rfl,uP,lW,hg⟩
      .have ho:=FP (F+9);have xS:=rQ (k:=.i64) (f:=Box.cells) (sz:=4) (s:=s) aX;(repeat' first|simp [*,zb,c73,Av,Problem.cells,Side.cells,Box.cells,Span.cells]|(apply za<;>intro _ h<;>try simp [-Nat.le_zero_eq] at h));exact ⟨V,XE FR.h (by repeat (first|exact Sm.refl _ _|refine Sm.alloc ?_|refine Sm.set ?_ (.inr (by first|omega|simp|(simp;omega)))))⟩
      .have ho:=Et (F+9);have sV:=zx hg;have sN:id≠H.nx:=by omega
       have Dv:H.nx≠id:=by omega
       have l0:=zC (own:=true) (f:=Box.cells) (sz:=4) (l:=l) (i:=wi) (size:=1) (off:=0) (fun _=>rfl) aX (by decide);have l1:=zC (own:=true) (f:=Box.cells) (sz:=4) (l:=l) (i:=wi) (size:=1) (off:=1) (fun _=>rfl) aX (by decide);have l2:=zC (own:=true) (f:=Box.cells) (sz:=4) (l:=l) (i:=wi) (size:=1) (off:=2) (fun _=>rfl) aX (by decide);have l3:=zC (own:=true) (f:=Box.cells) (sz:=4) (l:=l) (i:=wi) (size:=1) (off:=3) (fun _=>rfl) aX (by decide);rw [Nat.add_zero] at l0;have e3':wi*4+2+1=wi*4+3:=rfl;(repeat' first|simp [*,zb,c73,Av,Problem.cells,Side.cells,Box.cells,Span.cells]|(apply za<;>intro _ h<;>try simp [-Nat.le_zero_eq] at h));exact ⟨V,XE FR.h (by repeat (first|exact Sm.refl _ _|refine Sm.alloc ?_|refine Sm.set ?_ (.inr (by first|omega|simp|(simp;omega)))))⟩
   | some c =>
    obtain ⟨i,ax,t⟩:=c;have QL:=zjw hw nY hp.ne pU;rw [pU] at hT;simp only at hT;have KT:∃ b' s1 s2 s3,S.isSome=b'/\K5 S=⟨s1,s2,s3⟩:=⟨_,_,_,_,rfl,rfl⟩
    obtain ⟨bS,s1,s2,s3,Rf,Rh⟩:=KT;rw [Rf,Rh] at jo;simp only [Problem.cells,Side.cells] at jo;have XF:=Hide.mk hT;have K8:=Hide.mk pU;have FR:=Hide.mk hi;have Ns:=Hide.mk QL;clear hT hi QL pU IX K6;simp [-Nat.le_zero_eq, *,zb,c73,Av,Problem.cells,Side.cells]
    refine zrU (Mid:=GMid p H v mb ob pb gb i ax t) (fun y8=>?_) (fun uG=>?_) fun x e h hM=>?_
    .subst y8
     cases S with
     | none=>simp at Rf
     | some sk =>
      obtain ⟨a,k⟩:=sk;have hc:=K8.h;unfold BF at hc;rw [hS] at hc;simp only [Option.some.injEq,Prod.mk.injEq] at hc;obtain ⟨c1,c2,c3⟩:=hc;have hm:=o8.1 (List.mem_of_find?_eq_some hS);have aX:a < l.length:=nY a hm.1;rw [getElem!_pos l a aX] at c3;have Dp:=aF.1 (fe _ (List.getElem_mem aX));simp only [K5,Eu,Side.mk.injEq] at Rh;obtain ⟨d1,d2,d3⟩:=Rh;have nW:k=0\/k=1\/k=2\/k=3:=by have:=hm.2;simp only at this;omega
      clear hS Rf fe U6 XG hW w1 w2 nN hm K8 BM;subst c1;rcases nW with rfl|rfl|rfl|rfl
      .simp [bz] at c2 c3 d2 d3;subst c2 c3 d1 d2 d3;rcases hv with ⟨s,rfl,rfl⟩|⟨id,rfl,uP,lW,hg⟩
       .have ho:=FP (F+9);have xS:=rQ (k:=.i64) (f:=Box.cells) (sz:=4) (s:=s) aX;(repeat' first|simp [*,zb,Box.cells,Span.cells]|(apply za<;>intro _ h<;>try simp [-Nat.le_zero_eq] at h));exact ⟨rfl,by simp [zb],by simp [zb],by simp [zb],by simp [zb],by simp [zb],by simp [zb],by simp [zb],by simp [zb],(by repeat (first|exact Sm.refl _ _|refine Sm.alloc ?_|refine Sm.set ?_ (.inr (by first|omega|simp|(simp;omega))))),by simp,_,by simp;rfl⟩
       .have ho:=Et (F+9);have sV:=zx hg;have sN:id≠H.nx:=by omega
        have Dv:H.nx≠id:=by omega
        have l0:=zC (own:=true) (f:=Box.cells) (sz:=4) (l:=l) (i:=a) (size:=1) (off:=0) (fun _=>rfl) aX (by decide);have l1:=zC (own:=true) (f:=Box.cells) (sz:=4) (l:=l) (i:=a) (size:=1) (off:=1) (fun _=>rfl) aX (by decide);have l2:=zC (own:=true) (f:=Box.cells) (sz:=4) (l:=l) (i:=a) (size:=1) (off:=2) (fun _=>rfl) aX (by decide);have l3:=zC (own:=true) (f:=Box.cells) (sz:=4) (l:=l) (i:=a) (size:=1) (off:=3) (fun _=>rfl) aX (by decide);rw [Nat.add_zero] at l0;have e3':a*4+2+1=a*4+3:=rfl;(repeat' first|simp [*,zb,Box.cells,Span.cells]|(apply za<;>intro _ h<;>try simp [-Nat.le_zero_eq] at h));exact ⟨rfl,by simp [zb],by simp [zb],by simp [zb],by simp [zb],by simp [zb],by simp [zb],by simp [zb],by simp [zb],(by repeat (first|exact Sm.refl _ _|refine Sm.alloc ?_|refine Sm.set ?_ (.inr (by first|omega|simp|(simp;omega))))),by simp,_,by simp;rfl⟩
      .simp [bz] at c2 c3 d2 d3;subst c2 c3 d1 d2 d3;have w1:IntKind.i64.wrap (l[a].x.hi - 1)=l[a].x.hi - 1:=wrap64 (by omega) (by omega);rcases hv with ⟨s,rfl,rfl⟩|⟨id,rfl,uP,lW,hg⟩
       .have ho:=FP (F+9);have xS:=rQ (k:=.i64) (f:=Box.cells) (sz:=4) (s:=s) aX;(repeat' first|simp [*,zb,Box.cells,Span.cells]|(apply za<;>intro _ h<;>try simp [-Nat.le_zero_eq] at h));exact ⟨rfl,by simp [zb],by simp [zb],by simp [zb],by simp [zb],by simp [zb],by simp [zb],by simp [zb],by simp [zb],(by repeat (first|exact Sm.refl _ _|refine Sm.alloc ?_|refine Sm.set ?_ (.inr (by first|omega|simp|(simp;omega))))),by simp,_,by simp;rfl⟩
       .have ho:=Et (F+9);have sV:=zx hg;have sN:id≠H.nx:=by omega
        have Dv:H.nx≠id:=by omega
        have l0:=zC (own:=true) (f:=Box.cells) (sz:=4) (l:=l) (i:=a) (size:=1) (off:=0) (fun _=>rfl) aX (by decide);have l1:=zC (own:=true) (f:=Box.cells) (sz:=4) (l:=l) (i:=a) (size:=1) (off:=1) (fun _=>rfl) aX (by decide);have l2:=zC (own:=true) (f:=Box.cells) (sz:=4) (l:=l) (i:=a) (size:=1) (off:=2) (fun _=>rfl) aX (by decide);have l3:=zC (own:=true) (f:=Box.cells) (sz:=4) (l:=l) (i:=a) (size:=1) (off:=3) (fun _=>rfl) aX (by decide);rw [Nat.add_zero] at l0;have e3':a*4+2+1=a*4+3:=rfl;(repeat' first|simp [*,zb,Box.cells,Span.cells]|(apply za<;>intro _ h<;>try simp [-Nat.le_zero_eq] at h));exact ⟨rfl,by simp [zb],by simp [zb],by simp [zb],by simp [zb],by simp [zb],by simp [zb],by simp [zb],by simp [zb],(by repeat (first|exact Sm.refl _ _|refine Sm.alloc ?_|refine Sm.set ?_ (.inr (by first|omega|simp|(simp;omega))))),by simp,_,by simp;rfl⟩
      .simp [bz] at c2 c3 d2 d3;subst c2 c3 d1 d2 d3;rcases hv with ⟨s,rfl,rfl⟩|⟨id,rfl,uP,lW,hg⟩
       .have ho:=FP (F+9);have xS:=rQ (k:=.i64) (f:=Box.cells) (sz:=4) (s:=s) aX;(repeat' first|simp [*,zb,Box.cells,Span.cells]|(apply za<;>intro _ h<;>try simp [-Nat.le_zero_eq] at h));exact ⟨rfl,by simp [zb],by simp [zb],by simp [zb],by simp [zb],by simp [zb],by simp [zb],by simp [zb],by simp [zb],(by repeat (first|exact Sm.refl _ _|refine Sm.alloc ?_|refine Sm.set ?_ (.inr (by first|omega|simp|(simp;omega))))),by simp,_,by simp;rfl⟩
       .have ho:=Et (F+9);have sV:=zx hg;have sN:id≠H.nx:=by omega
        have Dv:H.nx≠id:=by omega
        have l0:=zC (own:=true) (f:=Box.cells) (sz:=4) (l:=l) (i:=a) (size:=1) (off:=0) (fun _=>rfl) aX (by decide);have l1:=zC (own:=true) (f:=Box.cells) (sz:=4) (l:=l) (i:=a) (size:=1) (off:=1) (fun _=>rfl) aX (by decide);have l2:=zC (own:=true) (f:=Box.cells) (sz:=4) (l:=l) (i:=a) (size:=1) (off:=2) (fun _=>rfl) aX (by decide);have l3:=zC (own:=true) (f:=Box.cells) (sz:=4) (l:=l) (i:=a) (size:=1) (off:=3) (fun _=>rfl) aX (by decide);rw [Nat.add_zero] at l0;have e3':a*4+2+1=a*4+3:=rfl;(repeat' first|simp [*,zb,Box.cells,Span.cells]|(apply za<;>intro _ h<;>try simp [-Nat.le_zero_eq] at h));exact ⟨rfl,by simp [zb],by simp [zb],by simp [zb],by simp [zb],by simp [zb],by simp [zb],by simp [zb],by simp [zb],(by repeat (first|exact Sm.refl _ _|refine Sm.alloc ?_|refine Sm.set ?_ (.inr (by first|omega|simp|(simp;omega))))),by simp,_,by simp;rfl⟩
      .simp [bz] at c2 c3 d2 d3;subst c2 c3 d1 d2 d3;have w1:IntKind.i64.wrap (l[a].y.hi - 1)=l[a].y.hi - 1:=wrap64 (by omega) (by omega);rcases hv with ⟨s,rfl,rfl⟩|⟨id,rfl,uP,lW,hg⟩
       .have ho:=FP (F+9);have xS:=rQ (k:=.i64) (f:=Box.cells) (sz:=4) (s:=s) aX;(repeat' first|simp [*,zb,Box.cells,Span.cells]|(apply za<;>intro _ h<;>try simp [-Nat.le_zero_eq] at h));exact ⟨rfl,by simp [zb],by simp [zb],by simp [zb],by simp [zb],by simp [zb],by simp [zb],by simp [zb],by simp [zb],(by repeat (first|exact Sm.refl _ _|refine Sm.alloc ?_|refine Sm.set ?_ (.inr (by first|omega|simp|(simp;omega))))),by simp,_,by simp;rfl⟩
       .have ho:=Et (F+9);have sV:=zx hg;have sN:id≠H.nx:=by omega
        have Dv:H.nx≠id:=by omega
        have l0:=zC (own:=true) (f:=Box.cells) (sz:=4) (l:=l) (i:=a) (size:=1) (off:=0) (fun _=>rfl) aX (by decide);have l1:=zC (own:=true) (f:=Box.cells) (sz:=4) (l:=l) (i:=a) (size:=1) (off:=1) (fun _=>rfl) aX (by decide);have l2:=zC (own:=true) (f:=Box.cells) (sz:=4) (l:=l) (i:=a) (size:=1) (off:=2) (fun _=>rfl) aX (by decide);have l3:=zC (own:=true) (f:=Box.cells) (sz:=4) (l:=l) (i:=a) (size:=1) (off:=3) (fun _=>rfl) aX (by decide);rw [Nat.add_zero] at l0;have e3':a*4+2+1=a*4+3:=rfl;(repeat' first|simp [*,zb,Box.cells,Span.cells]|(apply za<;>intro _ h<;>try simp [-Nat.le_zero_eq] at h));exact ⟨rfl,by simp [zb],by simp [zb],by simp [zb],by simp [zb],by simp [zb],by simp [zb],by simp [zb],by simp [zb],(by repeat (first|exact Sm.refl _ _|refine Sm.alloc ?_|refine Sm.set ?_ (.inr (by first|omega|simp|(simp;omega))))),by simp,_,by simp;rfl⟩
    .subst uG
     cases S with
     | some sk=>simp at Rf
     | none =>
      have hc:=K8.h;unfold BF at hc;rw [hS] at hc;simp only at hc;rw [hW] at hc;simp only at hc;have aX:wi < l.length:=nN;rw [getElem!_pos l wi aX] at hc
      by_cases JF:(bz l[wi] wk).lo=(bz l[wi] wk).hi
      .rw [if_pos JF] at hc;simp at hc
      rw [if_neg JF] at hc;simp only [Option.some.injEq,Prod.mk.injEq] at hc;obtain ⟨c1,c2,c3⟩:=hc;have Dp:=aF.1 (fe _ (List.getElem_mem aX));simp only [K5,Side.mk.injEq] at Rh;obtain ⟨d1,d2,d3⟩:=Rh;have sj:wk=0\/wk=1:=by omega
      clear hS Rf fe U6 w1 w2 K8 nN BM;subst c1 d1 d2 d3;rcases sj with rfl|rfl
      .simp only [bz,if_true,if_false,Nat.one_ne_zero] at c3 JF;subst c2 c3;have q1:Int.tdiv (l[wi].x.hi - l[wi].x.lo) 2=(l[wi].x.hi - l[wi].x.lo) / 2:=Int.tdiv_eq_ediv_of_nonneg (by omega);have u1:IntKind.i64.wrap (l[wi].x.hi - l[wi].x.lo)=l[wi].x.hi - l[wi].x.lo:=wrap64 (by omega) (by omega);have u2:IntKind.i64.wrap ((l[wi].x.hi - l[wi].x.lo) / 2)=(l[wi].x.hi - l[wi].x.lo) / 2:=wrap64 (by omega) (by omega);have u3:IntKind.i64.wrap (l[wi].x.lo+(l[wi].x.hi - l[wi].x.lo) / 2)=l[wi].x.lo+(l[wi].x.hi - l[wi].x.lo) / 2:=wrap64 (by omega) (by omega);rcases hv with ⟨s,rfl,rfl⟩|⟨id,rfl,uP,lW,hg⟩
       .have ho:=FP (F+9);have xS:=rQ (k:=.i64) (f:=Box.cells) (sz:=4) (s:=s) aX;(repeat' first|simp [*,zb,Box.cells,Span.cells]|(apply za<;>intro _ h<;>try simp [-Nat.le_zero_eq] at h));exact ⟨rfl,by simp [zb],by simp [zb],by simp [zb],by simp [zb],by simp [zb],by simp [zb],by simp [zb],by simp [zb],(by repeat (first|exact Sm.refl _ _|refine Sm.alloc ?_|refine Sm.set ?_ (.inr (by first|omega|simp|(simp;omega))))),by simp,_,by simp;rfl⟩
       .have ho:=Et (F+9);have sV:=zx hg;have sN:id≠H.nx:=by omega
        have Dv:H.nx≠id:=by omega
        have l0:=zC (own:=true) (f:=Box.cells) (sz:=4) (l:=l) (i:=wi) (size:=1) (off:=0) (fun _=>rfl) aX (by decide);have l1:=zC (own:=true) (f:=Box.cells) (sz:=4) (l:=l) (i:=wi) (size:=1) (off:=1) (fun _=>rfl) aX (by decide);have l2:=zC (own:=true) (f:=Box.cells) (sz:=4) (l:=l) (i:=wi) (size:=1) (off:=2) (fun _=>rfl) aX (by decide);have l3:=zC (own:=true) (f:=Box.cells) (sz:=4) (l:=l) (i:=wi) (size:=1) (off:=3) (fun _=>rfl) aX (by decide);rw [Nat.add_zero] at l0;have e3':wi*4+2+1=wi*4+3:=rfl;(repeat' first|simp [*,zb,Box.cells,Span.cells]|(apply za<;>intro _ h<;>try simp [-Nat.le_zero_eq] at h));exact ⟨rfl,by simp [zb],by simp [zb],by simp [zb],by simp [zb],by simp [zb],by simp [zb],by simp [zb],by simp [zb],(by repeat (first|exact Sm.refl _ _|refine Sm.alloc ?_|refine Sm.set ?_ (.inr (by first|omega|simp|(simp;omega))))),by simp,_,by simp;rfl⟩
      .simp only [bz,if_true,if_false,Nat.one_ne_zero] at c3 JF;subst c2 c3;have q1:Int.tdiv (l[wi].y.hi - l[wi].y.lo) 2=(l[wi].y.hi - l[wi].y.lo) / 2:=Int.tdiv_eq_ediv_of_nonneg (by omega);have u1:IntKind.i64.wrap (l[wi].y.hi - l[wi].y.lo)=l[wi].y.hi - l[wi].y.lo:=wrap64 (by omega) (by omega);have u2:IntKind.i64.wrap ((l[wi].y.hi - l[wi].y.lo) / 2)=(l[wi].y.hi - l[wi].y.lo) / 2:=wrap64 (by omega) (by omega);have u3:IntKind.i64.wrap (l[wi].y.lo+(l[wi].y.hi - l[wi].y.lo) / 2)=l[wi].y.lo+(l[wi].y.hi - l[wi].y.lo) / 2:=wrap64 (by omega) (by omega);rcases hv with ⟨s,rfl,rfl⟩|⟨id,rfl,uP,lW,hg⟩
       .have ho:=FP (F+9);have xS:=rQ (k:=.i64) (f:=Box.cells) (sz:=4) (s:=s) aX;(repeat' first|simp [*,zb,Box.cells,Span.cells]|(apply za<;>intro _ h<;>try simp [-Nat.le_zero_eq] at h));exact ⟨rfl,by simp [zb],by simp [zb],by simp [zb],by simp [zb],by simp [zb],by simp [zb],by simp [zb],by simp [zb],(by repeat (first|exact Sm.refl _ _|refine Sm.alloc ?_|refine Sm.set ?_ (.inr (by first|omega|simp|(simp;omega))))),by simp,_,by simp;rfl⟩
       .have ho:=Et (F+9);have sV:=zx hg;have sN:id≠H.nx:=by omega
        have Dv:H.nx≠id:=by omega
        have l0:=zC (own:=true) (f:=Box.cells) (sz:=4) (l:=l) (i:=wi) (size:=1) (off:=0) (fun _=>rfl) aX (by decide);have l1:=zC (own:=true) (f:=Box.cells) (sz:=4) (l:=l) (i:=wi) (size:=1) (off:=1) (fun _=>rfl) aX (by decide);have l2:=zC (own:=true) (f:=Box.cells) (sz:=4) (l:=l) (i:=wi) (size:=1) (off:=2) (fun _=>rfl) aX (by decide);have l3:=zC (own:=true) (f:=Box.cells) (sz:=4) (l:=l) (i:=wi) (size:=1) (off:=3) (fun _=>rfl) aX (by decide);rw [Nat.add_zero] at l0;have e3':wi*4+2+1=wi*4+3:=rfl;(repeat' first|simp [*,zb,Box.cells,Span.cells]|(apply za<;>intro _ h<;>try simp [-Nat.le_zero_eq] at h));exact ⟨rfl,by simp [zb],by simp [zb],by simp [zb],by simp [zb],by simp [zb],by simp [zb],by simp [zb],by simp [zb],(by repeat (first|exact Sm.refl _ _|refine Sm.alloc ?_|refine Sm.set ?_ (.inr (by first|omega|simp|(simp;omega))))),by simp,_,by simp;rfl⟩
    .obtain ⟨rfl,e0,e1,e2,e3,e4,e5,e8,e10,ED,bX,hbb,QV⟩:=hM;have Nr:=FR.h.sm ED;have hbse:=FR.h.bs;have bJ:=ED.nx;have hoh:ob < h.nx:=by omega
     have hgh:gb < h.nx:=by omega
     have k2:=Nr.o;have k4:=Nr.gw;have Wn:ve h ob bs v l:=hv.keep fun j h1 h2=>ED.get j (by omega) (fun h=>h);have aX:=Ns.h.il;have vF:=Ns.h.al;have htO:nP t:=by
      have h1:=Ns.h.lo;have h2:=Ns.h.hi;have Dp:=aF.1 (fe _ (List.getElem_mem aX));unfold nP;unfold bz at h1 h2
      by_cases e:ax=0
      .simp only [e,if_true] at h1 h2;omega
      .simp only [e,if_false] at h1 h2;omega
     have PI:Hide (∀ (H':Heap) (ab:Bool),(∀ j,j < bs->j≠ob->H'.get j=h.get j)->zH (zu G (F+10)) H' (.pure (.func 78 [])) [v,.pure (.int .i64 (i:Nat)),.pure (.int .i64 (ax:Nat)),.pure (.int .i64 t),.pure (.bool ab)]=some (.val (.pure ((Sl.mk false (FO l i ax t ab)).pv Box.cells 4)))):=⟨fun H' ab hk=>by
      obtain ⟨s2,Ag,iZ⟩:=(Wn.keep hk).frz;have:=JE sh78 (.cons iZ (.cons (.pure _) (.cons (.pure _) (.cons (.pure _) (.cons (.pure _) .nil))))) (e78 (F+8) s2 i ax t ab (by rw [Ag];exact aX) vF (by rw [Ag];omega) htO) (Xe _);rw [Ag] at this;exact this⟩
     have m1:=TB Ns.h;have m2:=TC Ns.h;obtain ⟨z1,z2,z3,z4⟩:=WK (hw _ (List.getElem_mem aX)) Ns.h.lo Ns.h.hi;have q1:=(aP.refl l).set (i:=i) z3;have q2:=(aP.refl l).set (i:=i) z4;rw [List.set_getElem_self,<- Gi aX] at q1;rw [List.set_getElem_self,<- Gj aX] at q2;have j1:=hw.set (i:=i) z1;have j2:=hw.set (i:=i) z2;rw [<- Gi aX] at j1;rw [<- Gj aX] at j2;have hTe:T=⟨-1,i,ax,t⟩::(vL p g m (fU l i ax t)++vL p g m (pq l i ax t)):=XF.h.symm;have hsz2:out.length+(1+((vL p g m (fU l i ax t)).length+(vL p g m (pq l i ax t)).length))<=200000000000:=by
      rw [hTe] at bZ;simp only [List.length_cons,List.length_append] at bZ;omega
     have ih1:=Hide.mk fun (H:Heap) (V:AV) (out:List Node)=>ih H (fU l i ax t) V out (by omega) (q1.trans hs) j1;have ih2:=Hide.mk fun (H:Heap) (V:AV) (out:List Node)=>ih H (pq l i ax t) V out (by omega) (q2.trans hs) j2;have hTeH:=Hide.mk hTe;have cA:=Hide.mk fun (H':Heap)=>PI.h H' false;have cB:=Hide.mk fun (H':Heap)=>PI.h H' true;have ec1:FO l i ax t false=fU l i ax t:=rfl;have ec2:FO l i ax t true=pq l i ax t:=rfl;rw [ec1] at cA;rw [ec2] at cB;have tQ:=Hide.mk Nr;have LQ:out.length < 200000000000:=by omega
     clear ih m1 m2 z1 z2 z3 z4 q1 q2 j1 j2 XF hTe Nr PI ec1 ec2 jo XG xJ fe U6 g1 g2 g3 g4 hS Rf Rh hW BM bZ hm hs hw hv;generalize vL p g m (fU l i ax t)=T1 at *;generalize vL p g m (pq l i ax t)=T2 at *;generalize fU l i ax t=L1 at *;generalize pq l i ax t=L2 at *;(repeat' first|simp [*,zb]|(apply za<;>intro _ h<;>try simp [-Nat.le_zero_eq] at h))
     refine H8 (f:=Node.cells) (sz:=4) (l:=out) ((tQ.h.gr).alloc _) (fun _=>rfl) (by decide) (fun _=>rfl) (by unfold zo;omega) ⟨⟨-1,i,ax,t⟩,by simp [Node.cells],?_⟩
     intro V4 H4 nK wG;have hnob:¬ Names V ob:=fun hn=>by have:=tQ.h.sep ob hn;have:=hb.o;omega
     have hnnx:¬ Names V H.nx:=fun hn=>by have:=FR.h.gr.1.names_lt hn;omega
     have r2:H4.get ob=.cells true [V]:=by rw [wG.get ob (by simp;omega) hnob,zg hoh];exact k2
     have r3:H4.get H.nx=.cells true [.pure (.int .i64 i),.pure (.int .i64 ax),.pure (.bool hbb)]:=by rw [wG.get H.nx (by simp;omega) hnnx,zg bX];exact QV
     have hn4:h.nx < H4.nx:=by have:=wG.nx;simp at this;omega
     have hon4:ob < H4.nx:=by omega
     have hxn4:H.nx < H4.nx:=by omega
     have tY:=zkb tQ.h nK wG (Sm.alloc (Sm.refl _ _));have XH:=tY.in hb tQ.h;have gg4:=XH.gw;have c1:=cA.h (H4.set ob (.cells true [V4])) fun j h1 h2=>tY.same.get j (by omega) fun h3=>by
      rcases h3 with h3|h3
      .exact h2 h3
      .have:=tQ.h.sep j h3;omega
     have U8:∀ id,Names V4 id->h.nx < id:=fun id hn=>by have:=wG.new id hn;simp at this;omega
     have U9:=ih1.h _ V4 (out++[⟨-1,i,ax,t⟩]) (by simp;omega) XH;have o4:=nK.1.one;have Q5:=o4.1;have Q7:=o4.2;have FB:=Hide.mk tY;have Va:=Hide.mk XH;have Vb:=Hide.mk U9;have Nu:=Hide.mk U8;rw [zf (by intro e;exact hb.go e)] at gg4;have ego:=hb.go;have hgn4:gb < H4.nx:=by omega
     clear nK wG o4 tY XH ih1 U9 U8 cA QV k2 k4;(repeat' first|simp [*,zb]|(apply za<;>intro _ h<;>try simp [-Nat.le_zero_eq] at h))
     refine BI (n:=F+9) zlm (yl Vb.h ?_)
     rintro H5 ⟨V5,o5⟩;have gi5:=o5.in hb Va.h;have s5:H5.get H.nx=.cells true [.pure (.int .i64 i),.pure (.int .i64 ax),.pure (.bool hbb)]:=by
      rw [o5.same.get H.nx (by rw [mi];exact hxn4) (fun hE=>by
       rcases hE with hE|hE
       .exact U7 hE
       .have:=Nu.h _ hE;omega),zf U7]
      exact r3
     have n5:=o5.same.nx;rw [mi] at n5;have hxn5:H.nx < H5.nx:=by omega
     have c2:=cB.h H5 fun j h1 h2=>(o5.same.get j (by rw [mi];omega) fun h3=>by
      rcases h3 with h3|h3
      .exact h2 h3
      .have:=Nu.h j h3;omega).trans (FB.h.same.get j (by omega) fun h3=>by
      rcases h3 with h3|h3
      .exact h2 h3
      .have:=tQ.h.sep j h3;omega)
     have gg5:=gi5.gw;have hgn5:gb < H5.nx:=by omega
     have Vd:=ih2.h _ V5 (out++[⟨-1,i,ax,t⟩]++T1) (by simp;omega) gi5;have Ve:=Hide.mk Vd;have hg5:=Hide.mk (FB.h.trans o5);clear o5 gi5 ih2 Vd cB r2 r3 gg4 c1 FB Va Vb;(repeat' first|simp [*,zb]|(apply za<;>intro _ h<;>try simp [-Nat.le_zero_eq] at h))
     refine BI (n:=F+9) zlm (yl Ve.h ?_)
     rintro H6 ⟨V6,o6⟩;have hg6:=Hide.mk ((hg5.h.trans o6).pre ED);clear o6 hg5 Ve c2 s5 gg5;(repeat' first|simp [*,zb]|(apply za<;>intro _ h<;>try simp [-Nat.le_zero_eq] at h));exact ⟨V6,by have:=hg6.h;rw [hTeH.h];simpa [List.append_assoc] using this⟩
 obtain ⟨v',H',h1,rfl,h2⟩:=main;exact ⟨H',h1,h2⟩
theorem zkc {p:Problem} {g:List Nat} (hp:IV p g) {mb ob pb gb bs:Nat} (hb:U5 mb ob pb gb bs) {M:AV}:∀ (m n:Nat) (H:Heap) (v:AV) (l:List Box) (V:AV) (out:List Node),iq l < m->aP l p.boxes.xs->Wf l->ve H ob bs v l->out.length+(vL p g m l).length<=200000000000->sU p g mb ob pb gb bs M H V out ->
  ∃ H',Vm.call G (n+m+10) (.fn 73) ([v]++Av p mb ob pb gb) H=some (.aQ [],H')/\∃ V',lM ob H H' V V' (out++vL p g m l)
 | 0,n,H,v,l,V,out,hm,_,_,_,_,_=>absurd hm (Nat.not_lt_zero _)
 | m+1,n,H,v,l,V,out,hm,hs,hw,hv,hl,hi =>
  zqb hp (m:=m) (F:=n+m) hb (fun H l V out hm hs hw hl hi=>zkc hp hb m n H _ l V out hm hs hw (.inl ⟨_,rfl,rfl⟩) hl hi) H v l V out hm hs hw hv hl hi
end Go.Proofs.YtmmhnfghklppiaaGreat.Vm
