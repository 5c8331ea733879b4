/- search.cut: boxes one of which is cut. search.loose and search.wide: walked. -/
import Derived.Test.YtmmhnfghklppiaaGreatUk19
import Derived.Test.YtmmhnfghklppiaaGreatUk8
import Derived.Test.YtmmhnfghklppiaaGreatUk25
import Derived.Test.YtmmhnfghklppiaaGreatUk24
import Derived.Test.YtmmhnfghklppiaaGreatUk22
namespace Go.Proofs.YtmmhnfghklppiaaGreat.Vm
open Go
set_option linter.unusedSimpArgs false
set_option linter.unusedVariables false
set_option maxHeartbeats 4000000
set_option maxRecDepth 4000
def pJ (t:Int):Prop:=-1048576<=t/\t<=1048576
def GH (l:List Box) (i ax:Nat) (t:Int) (above:Bool):List Box:=if above then pV l i ax t else fM l i ax t
theorem zs9 {l:List Box} {i:Nat} (hi:i < l.length) (ax:Nat) (t:Int) (above:Bool):GH l i ax t above=l.set i (if above then CZ l[i] ax t else pU l[i] ax t):=by
 unfold GH
 cases above
 .simp [He hi]
 .simp [Hf hi]
theorem sh78:G.shared 78=false:=by decide
theorem e78 (n:Nat) (l:Sl Box) (i ax:Nat) (t:Int) (above:Bool) (hi:i < l.xs.length) (hx:ax < 2) (hl:l.xs.length < 1000) (ht:pJ t):zF G (n+2) 78 [l.pv Box.cells 4,.int .i64 i,.int .i64 ax,.int .i64 t,.bool above]=some ((Sl.mk false (GH l.xs i ax t above)).pv Box.cells 4):=by
 refine zy (zx _) rfl g78 rfl ?_
 have ho:=Fq n;have bu:=Hide.mk (zs9 hi ax t above);have p1:=Vp hi;have p2:=Vq hi;have p3:=Vr hi;have p4:=Vs hi;have e3:i*4+2+1=i*4+3:=rfl;have hlen:∀ b,(l.xs.set i b).length=l.xs.length:=fun b=>by simp
 have ht1:=ht.1;have ht2:=ht.2;have w1:IntKind.i64.wrap (t+1)=t+1:=wrap64 (by omega) (by omega);have hxx:ax=0\/ax=1:=by omega
 clear hx;rcases hxx with rfl|rfl<;>cases above
 all_goals
  (repeat' first|simp [*,zb,c78]|(apply za<;>intro _ h<;>try simp [-Nat.le_zero_eq] at h))
  refine Gn hl ?_
  intro v' H' hv hn bU ah aS;obtain ⟨id,rfl,hg⟩:=hv.row (by intro e;rw [e] at hi;simp at hi);have aB:=zo hg;clear hv hn ah aS;have bD:=fun (H2:Heap) b (xS:H2.get id=.cells true (zq Box.cells (l.xs.set i b)))=>sI (n:=10) (f:=Box.cells) (sz:=4) (fun _=>rfl) xS (hlen b);have bD:=Hide.mk bD;(repeat' first|simp [*,zb]|(apply za<;>intro _ h<;>try simp [-Nat.le_zero_eq] at h));rw [bu.h];exact bD.h _ _ (zn aB)
def MQ (b:Box):Prop:=(pJ b.x.lo/\pJ b.x.hi)/\pJ b.y.lo/\pJ b.y.hi
theorem GI (n:Nat) (H:Heap) (uZ:Bool) (cs:List PV) (off:Nat) (a:Int):zG (zt G (n+1)) H (.pure (.func 76 [])) [.pure (.ptr uZ cs off),.pure (.int .i64 a)]=some (.upd (.pure (.ptr uZ cs (off+if a=0 then 0 else 2))) H):=by
 have h:∃ v H',Vm.call G (n+1) (.fn 76) [.pure (.ptr uZ cs off),.pure (.int .i64 a)] H=some (v,H')/\(v=.pure (.ptr uZ cs (off+if a=0 then 0 else 2))/\H'=H):=by
  refine F8 (k:=fun v H'=>v=.pure (.ptr uZ cs (off+if a=0 then 0 else 2))/\H'=H) rfl g76 rfl ?_
  by_cases ha:a=0
  .simp [*,zb,c76]
  .simp [*,zb,c76]
 obtain ⟨v,H',h1,rfl,rfl⟩:=h;have h2:(zt G (n+1)).shared 76=true:=ztE;have h3:(zt G (n+1)).run 76 [.pure (.ptr uZ cs off),.pure (.int .i64 a)] H'=some (.pure (.ptr uZ cs (off+if a=0 then 0 else 2)),H'):=h1;simp only [zG,List.map_nil,List.append_nil,h2,if_true,h3]
theorem zox {g:List Nat} {a:Nat} (h:a < g.length):OA (g.drop a)=((List.range 4).drop 0).map (fun k=>(g[a],k))++OA (g.drop (a+1)):=by
 rw [List.drop_eq_getElem_cons h];rfl
theorem zqh {i k:Nat} (h:k < 4) (r:List (Nat×Nat)):((List.range 4).drop k).map (fun k=>(i,k))++r=(i,k)::(((List.range 4).drop (k+1)).map (fun k=>(i,k))++r):=by
 rw [List.drop_eq_getElem_cons (by simpa using h)];simp
theorem zle {g:List Nat} {a:Nat} (h:a < (zL g).length):(zL g)[a]=((g[a]'(by simpa [zL] using h):Nat):Int):=by simp [zL]
def Ws (fs:List Fact) (l:List Box) (g:List Nat) (a:Nat) (R:Option (Nat×Nat)):Prop:=R=(OA (g.drop a)).find? (MO fs l)
def MR (fs:List Fact) (l:List Box) (g:List Nat) (a q k:Nat) (R:Option (Nat×Nat)):Prop:=R=(((List.range 4).drop k).map (fun k=>(q,k))++OA (g.drop (a+1))).find? (MO fs l)
def Wt (l:List Box) (g:List Nat) (a:Nat) (s R:Int×(Nat×Nat)):Prop:=(KG (g.drop a)).foldl (yc l) s=R
def QH (l:List Box) (g:List Nat) (a q k:Nat) (s R:Int×(Nat×Nat)):Prop:=(((List.range 2).drop k).map (fun k=>(q,k))++KG (g.drop (a+1))).foldl (yc l) s=R
def MS:Option (Nat×Nat)->Side
 | none=>⟨0,0,false⟩
 | some s=>Fv s.1 s.2
theorem sh75:G.shared 75=false:=by decide
theorem e75 (n:Nat) (p:Problem) (ok:ak p) (l:Sl Box) (g:List Nat) (hs:aR l.xs p.boxes.xs) (hw:Wf l.xs) (hg:∀ i∈g,i < l.xs.length) (ou:g.length<=12):zF G (n+7) 75 [.agg p.cells,l.pv Box.cells 4,lD g]=some (.aQ [.agg (MS (Gy p.facts.xs g l.xs)).cells,.bool (Gy p.facts.xs g l.xs).isSome]):=by
 refine zy (zx _) rfl g75 rfl ?_
 rw [Kv];obtain ⟨bs,fs⟩:=p;have nb:bs.xs.length<=12:=ok.nb;have nf:fs.xs.length<=60:=ok.nf;have Dh:l.xs.length=bs.xs.length:=hs.1;have Ql:=fun H=>zf (G:=G) (n:=n+6) (H:=H) (caps:=[]) (ps:=[fs.pv Fact.cells 9]) ztI (e105 (n+5) fs (by omega));simp only [List.map] at Ql;have hAbH:Hide (∀ (i:Int) H,zG (zt G (n+6)) H (.pure (.func 106 [])) [.pure (fs.pv Fact.cells 9),.pure ((Sl.mk false (jQ fs.xs.length)).pv aF 1),.pure (.int .i64 i)]=some (.val (.pure ((Sl.of (sO fs.xs (jQ fs.xs.length) i)).pv aF 1)))) :=
  ⟨fun i H=>zf (G:=G) (n:=n+6) (H:=H) (caps:=[]) (ps:=[fs.pv Fact.cells 9,(Sl.mk false (jQ fs.xs.length)).pv aF 1,.int .i64 i]) ztx (e106 (n+4) fs (Sl.mk false (jQ fs.xs.length)) i (Oe _) (by simp [Ku];omega))⟩
 have hSt:Hide (∀ (i k:Nat),i < l.xs.length->k < 4->∀ H,zG (zt G (n+6)) H (.pure (.func 107 [])) [.pure (l.pv Box.cells 4),.pure (.agg (Fv i k).cells)]=some (.val (.pure ((Sl.mk false (jP l.xs i k)).pv Box.cells 4)))) :=
  ⟨fun i k h1 h2 H=>zf (G:=G) (n:=n+6) (H:=H) (caps:=[]) (ps:=[l.pv Box.cells 4,.agg (Fv i k).cells]) zvu (e107 (n+4) l i k h1 h2 (by omega))⟩
 have hBd:Hide (∀ (i k:Nat),i < l.xs.length->k < 4->∀ H,zG (zt G (n+6)) H (.pure (.func 74 [])) [.pure (fs.pv Fact.cells 9),.pure ((Sl.of (sO fs.xs (jQ fs.xs.length) (i:Int))).pv aF 1),.pure ((Sl.mk false (jP l.xs i k)).pv Box.cells 4)]=some (.val (.pure (.int .i64 (fI fs.xs (jP l.xs i k) (sO fs.xs (jQ fs.xs.length) (i:Int))))))) :=
  ⟨fun i k h1 h2 H=>by
   have um:=zjY fs.xs (i:Int);have:=zf (G:=G) (n:=n+6) (H:=H) (caps:=[]) (ps:=[fs.pv Fact.cells 9,(Sl.of (sO fs.xs (jQ fs.xs.length) (i:Int))).pv aF 1,(Sl.mk false (jP l.xs i k)).pv Box.cells 4]) sh74 (e74 n fs (Sl.of (sO fs.xs (jQ fs.xs.length) (i:Int))) (Sl.mk false (jP l.xs i k)) (by rw [Sl.fP];exact zin _ _) (by rw [Sl.fP];omega) (fun f hf=>Qk ok ((YX hw h1 k).trans hs) (YW hw h1 k) hf));rw [Sl.fP,Sl.bL] at this;exact this⟩
 have ho:=GI (n+5);have wz:IntKind.i64.wrap 0=0:=by decide
 have wo:IntKind.i64.wrap 1=1:=by decide
 have vT:=Hide.mk hg;have aT:(zL g).length=g.length:=z8 g;generalize hR:Gy fs.xs g l.xs=R;have Wu:Hide (Ws fs.xs l.xs g 0 R):=⟨hR.symm⟩
 clear hR hg ok hs hw;(repeat' first|simp [*,zb,c75,Problem.cells]|(apply za<;>intro _ h<;>try simp [-Nat.le_zero_eq] at h))
 refine zA [(7,7),(10,14),(20,66)] (fun (a:Nat) env H=>env 20=.pure (.int .i64 a)/\a<=g.length/\0 < H.nx/\H.get 0=.cells true [.pure (.int .i64 0),.pure (.int .i64 0),.pure (.bool false)]/\Hide (Ws fs.xs l.xs g a R)) (fun a=>g.length - a) 0 ?_ ?_ ?_ ?_
 .decide
 .exact ⟨by simp,by omega,by simp,by simp,Wu⟩
 .simp only [zz];omega
 clear Wu;rintro a env H ⟨g20,ha,bU,rW,hR⟩
 by_cases aK:a < g.length
 .have w0:IntKind.i64.wrap ((a:Int)+1)=(a+1:Nat):=by rw [wrap64 (by omega) (by omega)];omega
  have jM:(a:Int) < g.length:=by omega
  have hai:a < (zL g).length:=by omega
  have hga:=zle hai;have hq:=vT.h g[a] (List.getElem_mem aK);have DT:=zox aK;obtain ⟨q,mY⟩:∃ q,q=g[a]:=⟨_,rfl⟩
  rw [<- mY] at hga hq DT;have Oj:(q:Int) < l.xs.length:=by omega
  have Js:=pR (k:=.i64) (f:=Box.cells) (sz:=4) (s:=l) hq;have hAb:=hAbH.h (q:Int);have nu:Hide (MR fs.xs l.xs g a q 0 R):=⟨by have:=hR.h;unfold Ws at this;rw [DT] at this;exact this⟩
  clear hR DT mY;(repeat' first|simp [*,zb]|(apply za<;>intro _ h<;>try simp [-Nat.le_zero_eq] at h))
  refine zA [(7,7),(12,14),(29,65)] (fun (k:Nat) env H=>env 29=.pure (.int .i64 k)/\k<=4/\0 < H.nx/\H.get 0=.cells true [.pure (.int .i64 0),.pure (.int .i64 0),.pure (.bool false)]/\Hide (MR fs.xs l.xs g a q k R)) (fun k=>4 - k) 0 ?_ ?_ ?_ ?_
  .decide
  .exact ⟨by simp,by omega,bU,rW,nu⟩
  .simp only [zz];omega
  clear nu bU rW;rintro k env H ⟨g29,hk,bU,rW,hR⟩
  by_cases nE:k < 4
  .have w1:IntKind.i64.wrap ((k:Int)+1)=(k+1:Nat):=by rw [wrap64 (by omega) (by omega)];omega
   have Hu:(k:Int) < 4:=by omega
   have q1:=zpf k;have q2:=zoK k;have u1:IntKind.i64.wrap ((k / 2:Nat):Int)=(k / 2:Nat):=wrap64 (by omega) (by omega);obtain ⟨ax,DD⟩:∃ ax:Nat,ax=k / 2:=⟨_,rfl⟩
   obtain ⟨xS,LZ⟩:∃ m:Nat,m=k % 2:=⟨_,rfl⟩
   rw [<- DD] at q1 u1;rw [<- LZ] at q2;have bu:=hSt.h q k hq nE;have hbd:=hBd.h q k hq nE;have Bt:(Fv q k).cells=[.int .i64 q,.int .i64 ax,.bool (decide (xS=1))]:=by simp [Fv,Side.cells,DD,LZ]
   rw [Bt] at bu;have Wv:ax=0\/ax=1:=by omega
   have Wx:decide ((xS:Int)=1)=decide (xS=1):=by rw [decide_eq_decide];omega
   have hP:Hide (MO fs.xs l.xs (q,k)=(decide ((bA l.xs[q] ax).lo < (bA l.xs[q] ax).hi)&&decide (0<=fI fs.xs (jP l.xs q k) (sO fs.xs (jQ fs.xs.length) (q:Int))))):=⟨by
    unfold MO;simp only;rw [getElem!_pos l.xs q hq,<- DD]⟩
   have vY:Hide (R=((q,k)::(((List.range 4).drop (k+1)).map (fun k=>(q,k))++OA (g.drop (a+1)))).find? (MO fs.xs l.xs)):=⟨by have:=hR.h;unfold MR at this;rw [zqh nE] at this;exact this⟩
   have Ep:Hide ((MS (some (q,k))).point=(q:Int)/\(MS (some (q,k))).nY=(ax:Int)/\(MS (some (q,k))).high=decide (xS=1)):=⟨rfl,by rw [DD];rfl,by rw [LZ];rfl⟩
   clear hR LZ DD Bt;generalize fI fs.xs (jP l.xs q k) (sO fs.xs (jQ fs.xs.length) (q:Int))=B at *;generalize VD:decide (xS=1)=hb at *;clear VD;have Qe:(0:Nat)≠H.nx:=by omega
   by_cases pg:0<=B
   .rcases Wv with rfl|rfl<;>push_cast at bu
    .by_cases iG:l.xs[q].x.lo < l.xs[q].x.hi
     .have Ea:R=some (q,k):=by
       rw [vY.h,List.find?_cons_of_pos (by rw [hP.h];simp [bA,iG,pg])]
      subst Ea;obtain ⟨e1,e2,e3⟩:=Ep.h
      push_cast at e2
      clear vY hP Ep;simp [*,zb,Box.cells,Span.cells]
     .have jk:Hide (MR fs.xs l.xs g a q (k+1) R):=⟨by
       unfold MR;rw [vY.h,List.find?_cons_of_neg (by rw [hP.h];simp [bA,iG])]⟩
      clear vY hP Ep;(repeat' first|simp [*,zb,Box.cells,Span.cells]|(apply za<;>intro _ h<;>try simp [-Nat.le_zero_eq] at h));exact ⟨k+1,by omega,by omega,by omega,jk⟩
    .by_cases iG:l.xs[q].y.lo < l.xs[q].y.hi
     .have Ea:R=some (q,k):=by
       rw [vY.h,List.find?_cons_of_pos (by rw [hP.h];simp [bA,iG,pg])]
      subst Ea;obtain ⟨e1,e2,e3⟩:=Ep.h
      push_cast at e2
      clear vY hP Ep;simp [*,zb,Box.cells,Span.cells]
     .have jk:Hide (MR fs.xs l.xs g a q (k+1) R):=⟨by
       unfold MR;rw [vY.h,List.find?_cons_of_neg (by rw [hP.h];simp [bA,iG])]⟩
      clear vY hP Ep;(repeat' first|simp [*,zb,Box.cells,Span.cells]|(apply za<;>intro _ h<;>try simp [-Nat.le_zero_eq] at h));exact ⟨k+1,by omega,by omega,by omega,jk⟩
   .have jk:Hide (MR fs.xs l.xs g a q (k+1) R):=⟨by
     unfold MR;rw [vY.h,List.find?_cons_of_neg (by rw [hP.h];simp [pg])]⟩
    clear vY hP Ep;rcases Wv with rfl|rfl<;>push_cast at bu
    .by_cases iG:l.xs[q].x.lo < l.xs[q].x.hi
     ·(repeat' first|simp [*,zb,Box.cells,Span.cells]|(apply za<;>intro _ h<;>try simp [-Nat.le_zero_eq] at h));exact ⟨k+1,by omega,by omega,by omega,jk⟩
     ·(repeat' first|simp [*,zb,Box.cells,Span.cells]|(apply za<;>intro _ h<;>try simp [-Nat.le_zero_eq] at h));exact ⟨k+1,by omega,by omega,by omega,jk⟩
    .by_cases iG:l.xs[q].y.lo < l.xs[q].y.hi
     ·(repeat' first|simp [*,zb,Box.cells,Span.cells]|(apply za<;>intro _ h<;>try simp [-Nat.le_zero_eq] at h));exact ⟨k+1,by omega,by omega,by omega,jk⟩
     ·(repeat' first|simp [*,zb,Box.cells,Span.cells]|(apply za<;>intro _ h<;>try simp [-Nat.le_zero_eq] at h));exact ⟨k+1,by omega,by omega,by omega,jk⟩
  .have Qo:k=4:=by omega
   subst Qo;have jk:Hide (Ws fs.xs l.xs g (a+1) R):=⟨hR.h⟩
   clear hR;(repeat' first|simp [*,zb]|(apply za<;>intro _ h<;>try simp [-Nat.le_zero_eq] at h));exact ⟨a+1,by omega,by omega,by omega,jk⟩
 .have Du:a=g.length:=by omega
  subst Du;have Zh:R=none:=by have:=hR.h;unfold Ws at this;rw [List.drop_length] at this;exact this
  subst Zh;clear hR;(repeat' first|simp [*,zb]|(apply za<;>intro _ h<;>try simp [-Nat.le_zero_eq] at h));exact ⟨rfl,rfl,rfl⟩
theorem zql {g:List Nat} {a:Nat} (h:a < g.length):KG (g.drop a)=((List.range 2).drop 0).map (fun k=>(g[a],k))++KG (g.drop (a+1)):=by
 rw [List.drop_eq_getElem_cons h];rfl
theorem zpL {i k:Nat} (h:k < 2) (r:List (Nat×Nat)):((List.range 2).drop k).map (fun k=>(i,k))++r=(i,k)::(((List.range 2).drop (k+1)).map (fun k=>(i,k))++r):=by
 rw [List.drop_eq_getElem_cons (by simpa using h)];simp
theorem sh77:G.shared 77=false:=by decide
theorem e77 (n:Nat) (l:Sl Box) (g:List Nat) (hg:∀ i∈g,i < l.xs.length) (bC:g≠[]) (hb:∀ b∈l.xs,MQ b) (ou:g.length<=12):zF G (n+2) 77 [l.pv Box.cells 4,lD g]=some (.aQ [.int .i64 ((Ai g l.xs).1:Nat),.int .i64 ((Ai g l.xs).2:Nat)]):=by
 refine zy (zx _) rfl g77 rfl ?_
 rw [Kv];have ho:=GI n;have wz:IntKind.i64.wrap 0=0:=by decide
 have wo:IntKind.i64.wrap 1=1:=by decide
 have wt:IntKind.i64.wrap 2=2:=by decide
 have fF:Hide (∀ (s:Span),pJ s.lo->pJ s.hi->∀ H,zG (zt G (n+1)) H (.pure (.func 92 [])) [.pure (.agg s.cells)]=some (.val (.pure (.int .i64 (s.hi - s.lo+1))))):=⟨fun s h1 h2 H=>zf (G:=G) (n:=n+1) (H:=H) (caps:=[]) (ps:=[.agg s.cells]) sh92 (e92 n s (by unfold pJ at *;omega) (by unfold pJ at *;omega))⟩
 have vT:=Hide.mk hg;have LW:=Hide.mk hb;have aT:(zL g).length=g.length:=z8 g;have rW:0 < g.length:=List.length_pos_iff.2 bC;have hg0I:(0:Int) < g.length:=by omega
 have h00:(zL g)[0]'(by omega)=((g[0]:Nat):Int):=zle (by omega);obtain ⟨p0,Wy⟩:∃ p0,p0=g[0]:=⟨_,rfl⟩
 rw [<- Wy] at h00;have QA:=pR (k:=.i64) (f:=aF) (sz:=1) (s:=Sl.mk false (zL g)) (n:=0) (by rw [Sl.bL];omega);simp only [Sl.bL,h00] at QA;rw [show (((0:Nat):Int))=0 from rfl] at QA;obtain ⟨R,hR⟩:∃ R,R=(KG g).foldl (yc l.xs) (0,(g.headD 0,0)):=⟨_,rfl⟩
 have hRw:Ai g l.xs=R.2:=by rw [hR];rfl
 rw [hRw];have hhd:g.headD 0=p0:=by
  rw [Wy]
  cases g with
  | nil=>exact absurd rfl bC
  | cons x g=>rfl
 rw [hhd] at hR;have Wu:Hide (Wt l.xs g 0 (0,(p0,0)) R):=⟨hR.symm⟩
 clear hR hRw hhd Wy hg hb bC;obtain ⟨R1,ri,rk⟩:=R;simp only;(repeat' first|simp [*,zb,c77]|(apply za<;>intro _ h<;>try simp [-Nat.le_zero_eq] at h))
 refine zA [(6,8),(10,12),(18,40)] (fun (s:Nat×(Int×(Nat×Nat))) env H=>env 18=.pure (.int .i64 s.1)/\s.1<=g.length/\env 6=.pure (.int .i64 s.2.1)/\env 7=.pure (.int .i64 (s.2.2.1:Nat))/\env 8=.pure (.int .i64 (s.2.2.2:Nat))/\Hide (Wt l.xs g s.1 s.2 (R1,(ri,rk)))) (fun s=>g.length - s.1) (0,(0,(p0,0))) ?_ ?_ ?_ ?_
 .decide
 .exact ⟨by simp,by simp,by simp,by simp,by simp,Wu⟩
 .simp only [zz];omega
 clear Wu;rintro ⟨a,best,pt,kx⟩ env H ⟨g18,ha,g6,g7,g8,hR⟩;simp only at g18 ha g6 g7 g8 hR
 by_cases aK:a < g.length
 .have w0:IntKind.i64.wrap ((a:Int)+1)=(a+1:Nat):=by rw [wrap64 (by omega) (by omega)];omega
  have jM:(a:Int) < g.length:=by omega
  have hai:a < (zL g).length:=by omega
  have hga:=zle hai;have hq:=vT.h g[a] (List.getElem_mem aK);have DT:=zql aK;obtain ⟨q,mY⟩:∃ q,q=g[a]:=⟨_,rfl⟩
  rw [<- mY] at hga hq DT;have Oj:(q:Int) < l.xs.length:=by omega
  have Js:=pR (k:=.i64) (f:=Box.cells) (sz:=4) (s:=l) hq;have nu:Hide (QH l.xs g a q 0 (best,(pt,kx)) (R1,(ri,rk))):=⟨by have:=hR.h;unfold Wt at this;rw [DT] at this;exact this⟩
  have xm:=LW.h _ (List.getElem_mem hq);unfold MQ pJ at xm;have s1:=fF.h l.xs[q].x (by unfold pJ;omega) (by unfold pJ;omega);have s2:=fF.h l.xs[q].y (by unfold pJ;omega) (by unfold pJ;omega);simp only [Span.cells] at s1 s2;clear hR DT mY xm;(repeat' first|simp [*,zb]|(apply za<;>intro _ h<;>try simp [-Nat.le_zero_eq] at h))
  refine zA [(6,8),(11,12),(22,39)] (fun (s:Nat×(Int×(Nat×Nat))) env H=>env 22=.pure (.int .i64 s.1)/\s.1<=2/\env 6=.pure (.int .i64 s.2.1)/\env 7=.pure (.int .i64 (s.2.2.1:Nat))/\env 8=.pure (.int .i64 (s.2.2.2:Nat))/\Hide (QH l.xs g a q s.1 s.2 (R1,(ri,rk)))) (fun s=>2 - s.1) (0,(best,(pt,kx))) ?_ ?_ ?_ ?_
  .decide
  .exact ⟨by simp,by simp,by simp [g6],by simp [g7],by simp [g8],nu⟩
  .simp only [zz];omega
  clear nu g6 g7 g8;rintro ⟨k,best,pt,kx⟩ env H ⟨g22,hk,g6,g7,g8,hR⟩;simp only at g22 hk g6 g7 g8 hR
  by_cases nM:k < 2
  .have w1:IntKind.i64.wrap ((k:Int)+1)=(k+1:Nat):=by rw [wrap64 (by omega) (by omega)];omega
   have Hu:(k:Int) < 2:=by omega
   have vY:Hide ((((List.range 2).drop (k+1)).map (fun k=>(q,k))++KG (g.drop (a+1))).foldl (yc l.xs) (yc l.xs (best,(pt,kx)) (q,k))=(R1,(ri,rk))):=⟨by have:=hR.h;unfold QH at this;rw [zpL nM] at this;exact this⟩
   have hW:Hide (yc l.xs (best,(pt,kx)) (q,k)=if best < (bA l.xs[q] k).hi - (bA l.xs[q] k).lo+1 then ((bA l.xs[q] k).hi - (bA l.xs[q] k).lo+1,(q,k)) else (best,(pt,kx))):=⟨by
    unfold yc Eo;simp only;rw [getElem!_pos l.xs q hq]⟩
   clear hR;have hk01:k=0\/k=1:=by omega
   rcases hk01 with rfl|rfl
   .by_cases pM:best < l.xs[q].x.hi - l.xs[q].x.lo+1
    .have jk:Hide (QH l.xs g a q (0+1) (l.xs[q].x.hi - l.xs[q].x.lo+1,(q,0)) (R1,(ri,rk))):=⟨by
      have:=hW.h;simp only [bA,if_true] at this;rw [if_pos pM] at this;rw [this] at vY;exact vY.h⟩
     clear vY hW;(repeat' first|simp [*,zb,Box.cells,Span.cells]|(apply za<;>intro _ h<;>try simp [-Nat.le_zero_eq] at h));exact ⟨1,by omega,by simp,by omega,q,rfl,0,rfl,jk⟩
    .have jk:Hide (QH l.xs g a q (0+1) (best,(pt,kx)) (R1,(ri,rk))):=⟨by
      have:=hW.h;simp only [bA,if_true] at this;rw [if_neg pM] at this;rw [this] at vY;exact vY.h⟩
     clear vY hW;(repeat' first|simp [*,zb,Box.cells,Span.cells]|(apply za<;>intro _ h<;>try simp [-Nat.le_zero_eq] at h));exact ⟨1,by omega,by simp,by omega,pt,rfl,kx,rfl,jk⟩
   .by_cases pM:best < l.xs[q].y.hi - l.xs[q].y.lo+1
    .have jk:Hide (QH l.xs g a q (1+1) (l.xs[q].y.hi - l.xs[q].y.lo+1,(q,1)) (R1,(ri,rk))):=⟨by
      have:=hW.h;simp only [bA,Nat.one_ne_zero,if_false] at this;rw [if_pos pM] at this;rw [this] at vY;exact vY.h⟩
     clear vY hW;(repeat' first|simp [*,zb,Box.cells,Span.cells]|(apply za<;>intro _ h<;>try simp [-Nat.le_zero_eq] at h));exact ⟨2,by omega,by simp [wt],by omega,q,rfl,1,rfl,jk⟩
    .have jk:Hide (QH l.xs g a q (1+1) (best,(pt,kx)) (R1,(ri,rk))):=⟨by
      have:=hW.h;simp only [bA,Nat.one_ne_zero,if_false] at this;rw [if_neg pM] at this;rw [this] at vY;exact vY.h⟩
     clear vY hW;(repeat' first|simp [*,zb,Box.cells,Span.cells]|(apply za<;>intro _ h<;>try simp [-Nat.le_zero_eq] at h));exact ⟨2,by omega,by simp [wt],by omega,pt,rfl,kx,rfl,jk⟩
  .have hk2':k=2:=by omega
   subst hk2';have jk:Hide (Wt l.xs g (a+1) (best,(pt,kx)) (R1,(ri,rk))):=⟨hR.h⟩
   clear hR;(repeat' first|simp [*,zb]|(apply za<;>intro _ h<;>try simp [-Nat.le_zero_eq] at h));exact ⟨a+1,by omega,by omega,by omega,pt,rfl,kx,rfl,jk⟩
 .have Du:a=g.length:=by omega
  subst Du;have Zh:(best,(pt,kx))=(R1,(ri,rk)):=by have:=hR.h;unfold Wt at this;rw [List.drop_length] at this;exact this
  simp only [Prod.mk.injEq] at Zh;obtain ⟨rfl,rfl,rfl⟩:=Zh;clear hR;simp [*,zb]
end Go.Proofs.YtmmhnfghklppiaaGreat.Vm
