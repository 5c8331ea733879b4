/- search.Extent: walked. search.CheckExtent, where all is well: walked. -/
import Derived.Test.YtmmhnfghklppiaaGreatUk43
import Derived.Test.YtmmhnfghklppiaaGreatUk25
namespace Go.Proofs.YtmmhnfghklppiaaGreat.Vm
open Go
set_option linter.unusedSimpArgs false
set_option linter.unusedVariables false
set_option maxHeartbeats 8000000
set_option maxRecDepth 4000
structure oW where
 box:Box
 ends:Nat->Sl Pt
 trees:Nat->Sl Node
def oW.cells (x:oW):List PV:=[.int .i64 x.box.x.lo,.int .i64 x.box.x.hi,.int .i64 x.box.y.lo,.int .i64 x.box.y.hi,(x.ends 0).pv Pt.cells 2,(x.ends 1).pv Pt.cells 2,(x.ends 2).pv Pt.cells 2,(x.ends 3).pv Pt.cells 2,(x.trees 0).pv Node.cells 4,(x.trees 1).pv Node.cells 4,(x.trees 2).pv Node.cells 4,(x.trees 3).pv Node.cells 4]
def ni:oW:=⟨⟨⟨0,0⟩,⟨0,0⟩⟩,fun _=>.nil,fun _=>.nil⟩
def zoA (p:Problem) (pt:Nat) (D:aN) (cs:Nat->List (List Pt)) (gs:Nat->List (List Nat)) (k:Nat->Nat):oW:=⟨(zZ pt D.aa 0).1,fun t=>.mk false (sZ D p.boxes.xs.length cs t),fun t=>Sl.of (rM p pt (zZ pt D.aa 0).1 gs k t)⟩
structure FN (p:Problem) (pt:Nat) (D:aN) (x:oW):Prop where
 lt:pt < p.boxes.xs.length
 empty:D.empty=false
 Et:jU p pt (zZ pt D.aa 0).1
 sl:D.aa.length<=12
 good:∀ s∈D.aa,lI s
 ex:∃ j k0 c cs gs k,OU p D pt j k0 c cs/\OW p pt (zZ pt D.aa 0).1 gs k/\x=zoA p pt D cs gs k
def zgR (p:Problem) (pt:Int) (x:oW) (e:Int):Prop :=
 (jL p≠0/\x=ni/\e=jL p) \/
 (jL p=0/\¬ (0<=pt/\pt < p.boxes.xs.length)/\x=ni/\e=1) \/
 (jL p=0/\(0<=pt/\pt < p.boxes.xs.length)/\∃ D e',fV p D e'/\((e'≠0/\x=ni/\e=e')\/(e'=0/\D.empty=true/\x=ni/\e=9)\/(e'=0/\e=0/\FN p pt.toNat D x)))
def qH (b:Box) (es ts:Nat->PV) (k:Nat):List AV:=[.pure (.int .i64 b.x.lo),.pure (.int .i64 b.x.hi),.pure (.int .i64 b.y.lo),.pure (.int .i64 b.y.hi),.pure (if 0 < k then es 0 else .nils),.pure (if 1 < k then es 1 else .nils),.pure (if 2 < k then es 2 else .nils),.pure (if 3 < k then es 3 else .nils),.pure (if 0 < k then ts 0 else .nils),.pure (if 1 < k then ts 1 else .nils),.pure (if 2 < k then ts 2 else .nils),.pure (if 3 < k then ts 3 else .nils)]
theorem FO:ni.cells=[.int .i64 0,.int .i64 0,.int .i64 0,.int .i64 0,.nils,.nils,.nils,.nils,.nils,.nils,.nils,.nils]:=rfl
theorem sh21:G.shared 21=false:=by decide
theorem e21 (n:Nat) (p:Problem) (pt:Int) (x:oW) (e:Int) (h:zgR p pt x e):zF G (n+700) 21 [.agg p.cells,.int .i64 pt]=some (.aQ [.agg x.cells,.int .i64 e]):=by
 refine zy (zx _) rfl g21 rfl ?_
 have hc:=fun H=>zf (G:=G) (n:=n+699) (H:=H) (caps:=[]) (ps:=[.agg p.cells]) sh45 (e45 (n+696) p);simp only [Problem.cells,List.map] at hc;rcases h with ⟨h0,rfl,rfl⟩|⟨h0,hnp,rfl,rfl⟩|⟨h0,AR,D,e',hf,h⟩
 .rw [FO];generalize jL p=c at *;(repeat' first|simp [*,zb,c21,Problem.cells]|(apply za<;>intro _ h<;>try simp [-Nat.le_zero_eq] at h))
 .have ok:=bT.1 h0;have nb:=ok.nb;rw [h0] at hc;have wK:nP pt 0 ((p.boxes.xs.length:Int) - 1)=false:=by
   unfold nP;rw [Bool.and_eq_false_iff,decide_eq_false_iff_not,decide_eq_false_iff_not];omega
  have w3:IntKind.i64.wrap ((p.boxes.xs.length:Int) - 1)=(p.boxes.xs.length:Int) - 1:=wrap64 (by omega) (by omega);have iZ:=fun H=>zf (G:=G) (n:=n+699) (H:=H) (caps:=[]) (ps:=[.int .i64 pt,.int .i64 0,.int .i64 ((p.boxes.xs.length:Int) - 1)]) sh52 (e52 (n+698) pt 0 ((p.boxes.xs.length:Int) - 1));rw [wK] at iZ;simp only [List.map] at iZ;rw [FO];clear h0 ok hnp wK;(repeat' first|simp [*,zb,c21,Problem.cells]|(apply za<;>intro _ h<;>try simp [-Nat.le_zero_eq] at h))
 .have ok:=bT.1 h0;have nb:=ok.nb;rw [h0] at hc;obtain ⟨q,rfl⟩:∃ q:Nat,pt=q:=⟨pt.toNat,by omega⟩
  have wK:nP (q:Int) 0 ((p.boxes.xs.length:Int) - 1)=true:=by
   unfold nP;rw [Bool.and_eq_true,decide_eq_true_eq,decide_eq_true_eq];omega
  have w3:IntKind.i64.wrap ((p.boxes.xs.length:Int) - 1)=(p.boxes.xs.length:Int) - 1:=wrap64 (by omega) (by omega);have iZ:=fun H=>zf (G:=G) (n:=n+699) (H:=H) (caps:=[]) (ps:=[.int .i64 (q:Int),.int .i64 0,.int .i64 ((p.boxes.xs.length:Int) - 1)]) sh52 (e52 (n+698) (q:Int) 0 ((p.boxes.xs.length:Int) - 1));rw [wK] at iZ;have nV:=fun H=>zf (G:=G) (n:=n+699) (H:=H) (caps:=[]) (ps:=[.agg p.cells]) sh48 (e48 (n+648) p ok D e' hf);have JC:D.cells=[.bool D.empty,(Sl.of D.aa).pv x9 1]:=rfl;simp only [Problem.cells,List.map] at iZ nV;rw [JC] at nV;rcases h with ⟨he,rfl,rfl⟩|⟨rfl,he,rfl,rfl⟩|⟨rfl,rfl,hx⟩
  .rw [FO];generalize D.empty=B at *;clear h0 ok AR wK hf JC nb;(repeat' first|simp [*,zb,c21,Problem.cells]|(apply za<;>intro _ h<;>try simp [-Nat.le_zero_eq] at h))
  .rw [FO];rw [he] at nV;clear h0 ok AR wK hf JC nb he;(repeat' first|simp [*,zb,c21,Problem.cells]|(apply za<;>intro _ h<;>try simp [-Nat.le_zero_eq] at h))
  .rw [Int.toNat_natCast] at hx;obtain ⟨j,k0,c,cs,gs,kk,ha,ht,rfl⟩:=hx.ex;rw [hx.empty] at nV;have MN:=fun H=>zf (G:=G) (n:=n+699) (H:=H) (caps:=[]) (ps:=[.agg D.cells,.int .i64 (q:Nat)]) sh53 (e53 (n+697) D q hx.sl hx.good);rw [ha.h1,ha.h2,JC,hx.empty] at MN;have hso:=Hide.mk fun (t:Nat) (ht:t < 4) H=>zf (G:=G) (n:=n+699) (H:=H) (caps:=[]) (ps:=[.agg D.cells,.int .i64 (p.boxes.xs.length:Nat),.int .i64 (j:Int),(Sl.mk false (c t)).pv Pt.cells 2]) sh54 (e54 (n+698) D p.boxes.xs.length (cs t) j (.mk false (c t)) (ha.ZN t ht));rw [JC,hx.empty] at hso;have hq:=hx.lt;have hqw:=xX ok;have xm:∀ t,t < 4->pJ (uz (zZ q D.aa 0).1 t):=fun t uk=>by
    have hs:=ha.side t uk;have hv:=ha.Xq t uk;have CF:q < (sZ D p.boxes.xs.length cs t).length:=by rw [hv.len];exact hq
    have iZ:=hv.y8 q CF hq;have KI:=aH.1 (ok.valid _ (List.getElem_mem hq));rw [<- hs,getElem!_pos _ q CF];unfold bF at iZ;unfold pJ Xp
    split<;>omega
   have pY:=Hide.mk fun (t:Nat) (uk:t < 4) H=>zf (G:=G) (n:=n+699) (H:=H) (caps:=[]) (ps:=[.agg p.cells,.int .i64 (q:Nat),.int .i64 (t:Nat),.agg (zZ q D.aa 0).1.cells]) sh55 (e55 (n+697) p q t (zZ q D.aa 0).1 ⟨hq,by omega,uk,xm t uk⟩);have hrf:=Hide.mk fun (t:Nat) (uk:t < 4) (hs:zP p.boxes.xs[q]! (zZ q D.aa 0).1 t=true) H=>zf (G:=G) (n:=n+699) (H:=H) (caps:=[]) (ps:=[.agg (bI p q t (zZ q D.aa 0).1).cells]) sh39 (e39 (n+59) (bI p q t (zZ q D.aa 0).1) (gs t) (kk t) (ht.gi t uk hs) (ht.mu t uk hs) (Nat.le_trans (ht.tr t uk hs).2 (by decide)));obtain ⟨es,Xu⟩:∃ es:Nat->PV,es=fun t=>(Sl.mk false (sZ D p.boxes.xs.length cs t)).pv Pt.cells 2:=⟨_,rfl⟩
   obtain ⟨ts,Nk⟩:∃ ts:Nat->PV,ts=fun t=>(Sl.of (rM p q (zZ q D.aa 0).1 gs kk t)).pv Node.cells 4:=⟨_,rfl⟩
   have xB:Hide (∀ t,t < 4->∀ H,zG (zt G (n+699)) H (.pure (.func 54 [])) [.pure (.agg [.bool false,(Sl.of D.aa).pv x9 1]),.pure (.int .i64 (p.boxes.xs.length:Nat)),.pure (.int .i64 (j:Int)),.pure ((Sl.mk false (c t)).pv Pt.cells 2)]=some (.val (.pure (es t)))):=⟨fun t uk H=>by rw [Xu];exact hso.h t uk H⟩
   have Nl:Hide (∀ t,t < 4->zP p.boxes.xs[q]! (zZ q D.aa 0).1 t=true->∀ H,zG (zt G (n+699)) H (.pure (.func 39 [])) [.pure (.agg (bI p q t (zZ q D.aa 0).1).cells)]=some (.val (.pure (ts t)))):=⟨fun t uk hs H=>by
    have h1:=hrf.h t uk hs H;rw [Nk];simp only;have h2:rM p q (zZ q D.aa 0).1 gs kk t=OO (bI p q t (zZ q D.aa 0).1) (gs t) (kk t):=by unfold rM;rw [if_pos hs]
    rw [h2];exact h1⟩
   have Nn:Hide (∀ t,zP p.boxes.xs[q]! (zZ q D.aa 0).1 t=false->ts t=.nils):=⟨fun t hs=>by
    rw [Nk];simp only;have h2:rM p q (zZ q D.aa 0).1 gs kk t=[]:=by unfold rM;rw [if_neg (by rw [hs];simp)]
    rw [h2];rfl⟩
   have oe1:∀ t,AV.one (.pure (es t))=true:=fun t=>by rw [Xu];simp
   have oe2:∀ t,AV.cells (.pure (es t))=[.pure (es t)]:=fun t=>by rw [Xu];simp
   have ot1:∀ t,AV.one (.pure (ts t))=true:=fun t=>by rw [Nk];simp
   have ot2:∀ t,AV.cells (.pure (ts t))=[.pure (ts t)]:=fun t=>by rw [Nk];simp
   have bD:(zoA p q D cs gs kk).cells=[.int .i64 (zZ q D.aa 0).1.x.lo,.int .i64 (zZ q D.aa 0).1.x.hi,.int .i64 (zZ q D.aa 0).1.y.lo,.int .i64 (zZ q D.aa 0).1.y.hi,es 0,es 1,es 2,es 3,ts 0,ts 1,ts 2,ts 3]:=by rw [Xu,Nk];rfl
   rw [bD];have uS:=ha.hj;have hlen:=ha.len;have Eu:=ha.kl;have vQ:=Hide.mk ha.ends;have hBc:(zZ q D.aa 0).1.cells=[.int .i64 (zZ q D.aa 0).1.x.lo,.int .i64 (zZ q D.aa 0).1.x.hi,.int .i64 (zZ q D.aa 0).1.y.lo,.int .i64 (zZ q D.aa 0).1.y.hi]:=rfl;rw [hBc] at MN pY;generalize (zZ q D.aa 0).1=bb at *;obtain ⟨⟨bx0,bx1⟩,⟨KN,KO⟩⟩:=bb;simp only at bD pY MN hBc;obtain ⟨s,hs⟩:∃ s,s=Sl.of D.aa:=⟨_,rfl⟩
   have qE:s.xs=D.aa:=by rw [hs,Sl.fP]
   rw [<- hs] at nV MN xB;have hjs2:j < s.xs.length:=by rw [qE];exact uS
   obtain ⟨D',BH⟩:∃ D',s.xs[j]=D':=⟨_,rfl⟩
   have Rb:D.aa[j]! = D':=by rw [getElem!_pos D.aa j uS,<- BH];simp only [qE]
   rw [Rb] at hlen Eu vQ;have EX:x9 s.xs[j]=[.ptr false [lD D'.part,.int .i64 D'.n,.slice false 4 (chunks 4 D'.part.length (D'.ends.map iN)),iN D'.first] 0]:=by rw [BH];rfl
   have HZ:yV 4 (.pure (.slice false 4 (chunks 4 D'.part.length (D'.ends.map iN)))) (.pure (.int .i64 k0))=some (.val (.pure (.ptr false [iN (some (c 0)),iN (some (c 1)),iN (some (c 2)),iN (some (c 3))] 0))):=by
    have y:∀ t,t < 4->∃ h:4*k0+t < D'.ends.length,D'.ends[4*k0+t]=some (c t):=fun t uk=>by
     have h1:4*k0+t < D'.ends.length:=by omega
     exact ⟨h1,by have:=vQ.h t uk;rwa [getElem!_pos D'.ends _ h1] at this⟩
    obtain ⟨y0,z0⟩:=y 0 (by omega);obtain ⟨y1,z1⟩:=y 1 (by omega);obtain ⟨y2,z2⟩:=y 2 (by omega);obtain ⟨y3,z3⟩:=y 3 (by omega)
    refine Yg ?_
    rw [zg1 _ _ _ Eu,ztG (by simp;omega)];simp only [Nat.add_zero] at z0;simp [z0,z1,z2,z3]
   have aA:∀ t,iN (some (c t))=(Sl.mk false (c t)).pv Pt.cells 2:=fun t=>rfl;rw [aA,aA,aA,aA] at HZ;simp only [Problem.cells,List.map] at MN;have Oj:(q:Int) < p.boxes.xs.length:=by omega
   have SX:(j:Int) < s.xs.length:=by omega
   clear hso hrf Xu Nk bD ha ht hx hf h0 AR wK JC hBc hs qE BH Rb hlen Eu vQ uS aA xm hqw ok;generalize lD D'.part=pp at *;generalize (chunks 4 D'.part.length (D'.ends.map iN))=cc at *;generalize iN D'.first=oo at *;generalize (D'.n:Int)=nn at *;(repeat' first|simp [*,zb,c21,Problem.cells,Box.cells,Span.cells,zH,zU,qi]|(apply za<;>intro _ h<;>try simp [-Nat.le_zero_eq] at h))
   refine zA [(13,15),(53,92)] (fun (k:Nat) env H=>env 53=.pure (.int .i64 k)/\k<=4/\3 < H.nx/\H.get 0=.cells true (ni.cells.map .pure)/\H.get 1=.cells true [.pure (.bool false),.pure (s.pv x9 1)]/\H.get 2=.cells true [.pure (.int .i64 bx0),.pure (.int .i64 bx1),.pure (.int .i64 KN),.pure (.int .i64 KO)]/\H.get 3=.cells true (qH ⟨⟨bx0,bx1⟩,⟨KN,KO⟩⟩ es ts k)) (fun k=>4 - k) 0 ?_ ?_ ?_ ?_
   .decide
   .exact ⟨by simp,by omega,by simp,by simp [FO],by simp,by simp,by simp [qH]⟩
   .simp only [zz];omega
   rintro k env H ⟨g53,hk,bU,h0,h1,h2,h3⟩;have n0:0 < H.nx:=by omega
   have n1:1 < H.nx:=by omega
   have n2:2 < H.nx:=by omega
   have x0:(0:Nat)≠H.nx:=by omega
   have x1:(1:Nat)≠H.nx:=by omega
   have x2:(2:Nat)≠H.nx:=by omega
   have x3:(3:Nat)≠H.nx:=by omega
   rw [FO] at h0;have YJ:=Hide.mk h0;have Xv:k=0\/k=1\/k=2\/k=3\/k=4:=by omega
   rcases Xv with rfl|rfl|rfl|rfl|rfl
   .have Bt:=xB.h 0 (by decide);have iK:=pY.h 0 (by decide);have wu:=Nl.h 0 (by decide);have EH:=Nn.h 0;have w1:IntKind.i64.wrap (0+1)=1:=by decide
    obtain ⟨⟨qb,qf⟩,mY⟩:∃ q',bI p q 0 ⟨⟨bx0,bx1⟩,⟨KN,KO⟩⟩=q':=⟨_,rfl⟩
    rw [mY] at iK wu;simp only [Problem.cells,List.map] at iK wu
    push_cast at iK
    simp [qH] at h3;clear mY xB pY Nl Nn
    cases o7:zP p.boxes.xs[q]! ⟨⟨bx0,bx1⟩,⟨KN,KO⟩⟩ 0 with
    | true =>
     have Rt:=wu o7;rw [o7] at iK;clear o7 wu EH;(repeat' first|simp [*,zb,zH,zU,qi]|(apply za<;>intro _ h<;>try simp [-Nat.le_zero_eq] at h))
     refine ⟨1,by omega,by decide,by omega,by omega,by simp [FO],?_⟩
     rw [zn (by simp;omega)];simp [qH]
    | false =>
     have EI:=EH o7;rw [o7] at iK;clear o7 wu EH;(repeat' first|simp [*,zb,zH,zU,qi]|(apply za<;>intro _ h<;>try simp [-Nat.le_zero_eq] at h))
     refine ⟨1,by omega,by decide,by omega,by omega,by simp [FO],?_⟩
     simp [qH,EI]
   .have Bt:=xB.h 1 (by decide);have iK:=pY.h 1 (by decide);have wu:=Nl.h 1 (by decide);have EH:=Nn.h 1;have w1:IntKind.i64.wrap (1+1)=2:=by decide
    obtain ⟨⟨qb,qf⟩,mY⟩:∃ q',bI p q 1 ⟨⟨bx0,bx1⟩,⟨KN,KO⟩⟩=q':=⟨_,rfl⟩
    rw [mY] at iK wu;simp only [Problem.cells,List.map] at iK wu
    push_cast at iK
    simp [qH] at h3;clear mY xB pY Nl Nn
    cases o7:zP p.boxes.xs[q]! ⟨⟨bx0,bx1⟩,⟨KN,KO⟩⟩ 1 with
    | true =>
     have Rt:=wu o7;rw [o7] at iK;clear o7 wu EH;(repeat' first|simp [*,zb,zH,zU,qi]|(apply za<;>intro _ h<;>try simp [-Nat.le_zero_eq] at h))
     refine ⟨2,by omega,by decide,by omega,by omega,by simp [FO],?_⟩
     rw [zn (by simp;omega)];simp [qH]
    | false =>
     have EI:=EH o7;rw [o7] at iK;clear o7 wu EH;(repeat' first|simp [*,zb,zH,zU,qi]|(apply za<;>intro _ h<;>try simp [-Nat.le_zero_eq] at h))
     refine ⟨2,by omega,by decide,by omega,by omega,by simp [FO],?_⟩
     simp [qH,EI]
   .have Bt:=xB.h 2 (by decide);have iK:=pY.h 2 (by decide);have wu:=Nl.h 2 (by decide);have EH:=Nn.h 2;have w1:IntKind.i64.wrap (2+1)=3:=by decide
    obtain ⟨⟨qb,qf⟩,mY⟩:∃ q',bI p q 2 ⟨⟨bx0,bx1⟩,⟨KN,KO⟩⟩=q':=⟨_,rfl⟩
    rw [mY] at iK wu;simp only [Problem.cells,List.map] at iK wu
    push_cast at iK
    simp [qH] at h3;clear mY xB pY Nl Nn
    cases o7:zP p.boxes.xs[q]! ⟨⟨bx0,bx1⟩,⟨KN,KO⟩⟩ 2 with
    | true =>
     have Rt:=wu o7;rw [o7] at iK;clear o7 wu EH;(repeat' first|simp [*,zb,zH,zU,qi]|(apply za<;>intro _ h<;>try simp [-Nat.le_zero_eq] at h))
     refine ⟨3,by omega,by decide,by omega,by omega,by simp [FO],?_⟩
     rw [zn (by simp;omega)];simp [qH]
    | false =>
     have EI:=EH o7;rw [o7] at iK;clear o7 wu EH;(repeat' first|simp [*,zb,zH,zU,qi]|(apply za<;>intro _ h<;>try simp [-Nat.le_zero_eq] at h))
     refine ⟨3,by omega,by decide,by omega,by omega,by simp [FO],?_⟩
     simp [qH,EI]
   .have Bt:=xB.h 3 (by decide);have iK:=pY.h 3 (by decide);have wu:=Nl.h 3 (by decide);have EH:=Nn.h 3;have w1:IntKind.i64.wrap (3+1)=4:=by decide
    obtain ⟨⟨qb,qf⟩,mY⟩:∃ q',bI p q 3 ⟨⟨bx0,bx1⟩,⟨KN,KO⟩⟩=q':=⟨_,rfl⟩
    rw [mY] at iK wu;simp only [Problem.cells,List.map] at iK wu
    push_cast at iK
    simp [qH] at h3;clear mY xB pY Nl Nn
    cases o7:zP p.boxes.xs[q]! ⟨⟨bx0,bx1⟩,⟨KN,KO⟩⟩ 3 with
    | true =>
     have Rt:=wu o7;rw [o7] at iK;clear o7 wu EH;(repeat' first|simp [*,zb,zH,zU,qi]|(apply za<;>intro _ h<;>try simp [-Nat.le_zero_eq] at h))
     refine ⟨4,by omega,by decide,by omega,by omega,by simp [FO],?_⟩
     rw [zn (by simp;omega)];simp [qH]
    | false =>
     have EI:=EH o7;rw [o7] at iK;clear o7 wu EH;(repeat' first|simp [*,zb,zH,zU,qi]|(apply za<;>intro _ h<;>try simp [-Nat.le_zero_eq] at h))
     refine ⟨4,by omega,by decide,by omega,by omega,by simp [FO],?_⟩
     simp [qH,EI]
   .simp [qH] at h3;clear xB pY Nl Nn;(repeat' first|simp [*,zb]|(apply za<;>intro _ h<;>try simp [-Nat.le_zero_eq] at h))
structure EJ (p:Problem) (q:Nat) (x:oW) (k:Nat):Prop where
 al:(aO p (x.ends k).xs).2=true
 len:(x.ends k).xs.length=p.boxes.xs.length
 side:Xp (x.ends k).xs[q]! k=uz x.box k
 ok:pJ (uz x.box k)
 tl:(x.trees k).xs.length<=262144
 tr:(zP p.boxes.xs[q]! x.box k=true/\iU (bI p q k x.box).boxes.xs<=600/\GD (bI p q k x.box).facts.xs (bI p q k x.box).boxes.xs (x.trees k).xs=true)\/(zP p.boxes.xs[q]! x.box k=false/\(x.trees k).xs.length=0)
structure Ap (p:Problem) (q:Nat) (x:oW):Prop where
 ok:jL p=0
 lt:q < p.boxes.xs.length
 bx:x.box.x.lo<=x.box.x.hi
 by_:x.box.y.lo<=x.box.y.hi
 sides:∀ k,k < 4->EJ p q x k
theorem sh22:G.shared 22=false:=by decide
theorem e22 (n:Nat) (p:Problem) (q:Nat) (x:oW) (h:Ap p q x):zF G (n+700) 22 [.agg p.cells,.int .i64 (q:Nat),.agg x.cells]=some (.int .i64 0):=by
 refine zy (zx _) rfl g22 rfl ?_
 have hc:=fun H=>zf (G:=G) (n:=n+699) (H:=H) (caps:=[]) (ps:=[.agg p.cells]) sh45 (e45 (n+696) p);rw [h.ok] at hc;have ok:=bT.1 h.ok;have nb:=ok.nb;have hq:=h.lt;have Oj:(q:Int) < p.boxes.xs.length:=by omega
 have wK:nP (q:Int) 0 ((p.boxes.xs.length:Int) - 1)=true:=by
  unfold nP;rw [Bool.and_eq_true,decide_eq_true_eq,decide_eq_true_eq];omega
 have w3:IntKind.i64.wrap ((p.boxes.xs.length:Int) - 1)=(p.boxes.xs.length:Int) - 1:=wrap64 (by omega) (by omega);have iZ:=fun H=>zf (G:=G) (n:=n+699) (H:=H) (caps:=[]) (ps:=[.int .i64 (q:Int),.int .i64 0,.int .i64 ((p.boxes.xs.length:Int) - 1)]) sh52 (e52 (n+698) (q:Int) 0 ((p.boxes.xs.length:Int) - 1));rw [wK] at iZ;have um:=Hide.mk fun (k:Nat) (hk:k < 4) H=>zf (G:=G) (n:=n+699) (H:=H) (caps:=[]) (ps:=[.agg p.cells,(x.ends k).pv Pt.cells 2]) sh28 (e28 (n+692) p (x.ends k) (by rw [(h.sides k hk).len];omega));have pY:=Hide.mk fun (k:Nat) (hk:k < 4) H=>zf (G:=G) (n:=n+699) (H:=H) (caps:=[]) (ps:=[.agg p.cells,.int .i64 (q:Nat),.int .i64 (k:Nat),.agg x.box.cells]) sh55 (e55 (n+697) p q k x.box ⟨hq,by omega,hk,(h.sides k hk).ok⟩);have nV:=Hide.mk fun (k:Nat) (hk:k < 4) (hs:zP p.boxes.xs[q]! x.box k=true) (hm:iU (bI p q k x.box).boxes.xs<=600) H=>zf (G:=G) (n:=n+699) (H:=H) (caps:=[]) (ps:=[.agg (bI p q k x.box).cells,(x.trees k).pv Node.cells 4]) sh46 (e46 (n+59) (bI p q k x.box) (ZM ok hq hs) (x.trees k) (by have:=(h.sides k hk).tl;omega) hm);have Aq:=Hide.mk h.sides;have b1:=h.bx;have b2:=h.by_;have nb1:¬ x.box.x.hi < x.box.x.lo:=by omega
 have nb2:¬ x.box.y.hi < x.box.y.lo:=by omega
 simp only [Problem.cells,Box.cells,Span.cells,List.map] at hc iZ;have hbc:x.box.cells=[.int .i64 x.box.x.lo,.int .i64 x.box.x.hi,.int .i64 x.box.y.lo,.int .i64 x.box.y.hi]:=rfl;have BC:p.cells=[p.boxes.pv Box.cells 4,p.facts.pv Fact.cells 9]:=rfl;rw [hbc,BC] at pY;rw [BC] at um;clear h wK ok b1 b2;(repeat' first|simp [*,zb,c22,Problem.cells,oW.cells,zH,zU,qi]|(apply za<;>intro _ h<;>try simp [-Nat.le_zero_eq] at h))
 refine zA [(6,6),(9,14),(64,141)] (fun (k:Nat) env H=>env 64=.pure (.int .i64 k)/\k<=4/\0 < H.nx/\H.get 0=.cells true [.pure (.int .i64 x.box.x.lo),.pure (.int .i64 x.box.x.hi),.pure (.int .i64 x.box.y.lo),.pure (.int .i64 x.box.y.hi)]) (fun k=>4 - k) 0 ?_ ?_ ?_ ?_
 .decide
 .exact ⟨by simp,by omega,by simp,by simp⟩
 .simp only [zz];omega
 rintro k env H ⟨g64,hk,bU,h0⟩;have x0:(0:Nat)≠H.nx:=by omega
 have Xv:k=0\/k=1\/k=2\/k=3\/k=4:=by omega
 rcases Xv with rfl|rfl|rfl|rfl|rfl
 .have s:=Aq.h 0 (by decide);have rY:=um.h 0 (by decide);have iK:=pY.h 0 (by decide);have l7:=nV.h 0 (by decide);have w1:IntKind.i64.wrap (0+1)=1:=by decide
  have hl:q < (x.ends 0).xs.length:=by rw [s.len];exact hq
  have Jd:(q:Int) < (x.ends 0).xs.length:=by omega
  have yt:(x.ends 0).xs[q].x=x.box.x.lo:=by
   have:=s.side;rw [getElem!_pos (x.ends 0).xs q hl] at this;exact this
  have qx:¬ (262144:Int) < (x.trees 0).xs.length:=by have:=s.tl;omega
  rw [s.al] at rY;generalize (aO p (x.ends 0).xs).1=av at *;obtain ⟨q',mY⟩:∃ q',bI p q 0 x.box=q':=⟨_,rfl⟩
  have qJ:=pR (k:=.i64) (f:=Pt.cells) (sz:=2) (s:=x.ends 0) hl;have str:=s.tr;rw [mY] at iK l7 str;obtain ⟨qb,qf⟩:=q';simp only [Problem.cells,Pt.cells,List.map] at iK rY qJ
  push_cast at iK
  clear mY um pY nV Aq s;rcases str with ⟨t1,t2,t3⟩|⟨t1,t2⟩
  .have pF:=l7 t1 t2;rw [t3] at pF;rw [t1] at iK;simp only [Problem.cells,List.map] at pF;clear l7 t1 t2 t3;(repeat' first|simp [*,zb,zH,zU,qi,Pt.cells]|(apply za<;>intro _ h<;>try simp [-Nat.le_zero_eq] at h));exact ⟨1,by omega,by decide,by omega⟩
  .have Ru:((x.trees 0).xs.length:Int)=0:=by omega
   rw [t1] at iK;clear l7 t1;(repeat' first|simp [*,zb,zH,zU,qi,Pt.cells]|(apply za<;>intro _ h<;>try simp [-Nat.le_zero_eq] at h));exact ⟨1,by omega,by decide,by omega⟩
 .have s:=Aq.h 1 (by decide);have rY:=um.h 1 (by decide);have iK:=pY.h 1 (by decide);have l7:=nV.h 1 (by decide);have w1:IntKind.i64.wrap (1+1)=2:=by decide
  have hl:q < (x.ends 1).xs.length:=by rw [s.len];exact hq
  have Jd:(q:Int) < (x.ends 1).xs.length:=by omega
  have yt:(x.ends 1).xs[q].x=x.box.x.hi:=by
   have:=s.side;rw [getElem!_pos (x.ends 1).xs q hl] at this;exact this
  have qx:¬ (262144:Int) < (x.trees 1).xs.length:=by have:=s.tl;omega
  rw [s.al] at rY;generalize (aO p (x.ends 1).xs).1=av at *;obtain ⟨q',mY⟩:∃ q',bI p q 1 x.box=q':=⟨_,rfl⟩
  have qJ:=pR (k:=.i64) (f:=Pt.cells) (sz:=2) (s:=x.ends 1) hl;have str:=s.tr;rw [mY] at iK l7 str;obtain ⟨qb,qf⟩:=q';simp only [Problem.cells,Pt.cells,List.map] at iK rY qJ
  push_cast at iK
  clear mY um pY nV Aq s;rcases str with ⟨t1,t2,t3⟩|⟨t1,t2⟩
  .have pF:=l7 t1 t2;rw [t3] at pF;rw [t1] at iK;simp only [Problem.cells,List.map] at pF;clear l7 t1 t2 t3;(repeat' first|simp [*,zb,zH,zU,qi,Pt.cells]|(apply za<;>intro _ h<;>try simp [-Nat.le_zero_eq] at h));exact ⟨2,by omega,by decide,by omega⟩
  .have Ru:((x.trees 1).xs.length:Int)=0:=by omega
   rw [t1] at iK;clear l7 t1;(repeat' first|simp [*,zb,zH,zU,qi,Pt.cells]|(apply za<;>intro _ h<;>try simp [-Nat.le_zero_eq] at h));exact ⟨2,by omega,by decide,by omega⟩
 .have s:=Aq.h 2 (by decide);have rY:=um.h 2 (by decide);have iK:=pY.h 2 (by decide);have l7:=nV.h 2 (by decide);have w1:IntKind.i64.wrap (2+1)=3:=by decide
  have hl:q < (x.ends 2).xs.length:=by rw [s.len];exact hq
  have Jd:(q:Int) < (x.ends 2).xs.length:=by omega
  have yt:(x.ends 2).xs[q].y=x.box.y.lo:=by
   have:=s.side;rw [getElem!_pos (x.ends 2).xs q hl] at this;exact this
  have qx:¬ (262144:Int) < (x.trees 2).xs.length:=by have:=s.tl;omega
  rw [s.al] at rY;generalize (aO p (x.ends 2).xs).1=av at *;obtain ⟨q',mY⟩:∃ q',bI p q 2 x.box=q':=⟨_,rfl⟩
  have qJ:=pR (k:=.i64) (f:=Pt.cells) (sz:=2) (s:=x.ends 2) hl;have str:=s.tr;rw [mY] at iK l7 str;obtain ⟨qb,qf⟩:=q';simp only [Problem.cells,Pt.cells,List.map] at iK rY qJ
  push_cast at iK
  clear mY um pY nV Aq s;rcases str with ⟨t1,t2,t3⟩|⟨t1,t2⟩
  .have pF:=l7 t1 t2;rw [t3] at pF;rw [t1] at iK;simp only [Problem.cells,List.map] at pF;clear l7 t1 t2 t3;(repeat' first|simp [*,zb,zH,zU,qi,Pt.cells]|(apply za<;>intro _ h<;>try simp [-Nat.le_zero_eq] at h));exact ⟨3,by omega,by decide,by omega⟩
  .have Ru:((x.trees 2).xs.length:Int)=0:=by omega
   rw [t1] at iK;clear l7 t1;(repeat' first|simp [*,zb,zH,zU,qi,Pt.cells]|(apply za<;>intro _ h<;>try simp [-Nat.le_zero_eq] at h));exact ⟨3,by omega,by decide,by omega⟩
 .have s:=Aq.h 3 (by decide);have rY:=um.h 3 (by decide);have iK:=pY.h 3 (by decide);have l7:=nV.h 3 (by decide);have w1:IntKind.i64.wrap (3+1)=4:=by decide
  have hl:q < (x.ends 3).xs.length:=by rw [s.len];exact hq
  have Jd:(q:Int) < (x.ends 3).xs.length:=by omega
  have yt:(x.ends 3).xs[q].y=x.box.y.hi:=by
   have:=s.side;rw [getElem!_pos (x.ends 3).xs q hl] at this;exact this
  have qx:¬ (262144:Int) < (x.trees 3).xs.length:=by have:=s.tl;omega
  rw [s.al] at rY;generalize (aO p (x.ends 3).xs).1=av at *;obtain ⟨q',mY⟩:∃ q',bI p q 3 x.box=q':=⟨_,rfl⟩
  have qJ:=pR (k:=.i64) (f:=Pt.cells) (sz:=2) (s:=x.ends 3) hl;have str:=s.tr;rw [mY] at iK l7 str;obtain ⟨qb,qf⟩:=q';simp only [Problem.cells,Pt.cells,List.map] at iK rY qJ
  push_cast at iK
  clear mY um pY nV Aq s;rcases str with ⟨t1,t2,t3⟩|⟨t1,t2⟩
  .have pF:=l7 t1 t2;rw [t3] at pF;rw [t1] at iK;simp only [Problem.cells,List.map] at pF;clear l7 t1 t2 t3;(repeat' first|simp [*,zb,zH,zU,qi,Pt.cells]|(apply za<;>intro _ h<;>try simp [-Nat.le_zero_eq] at h));exact ⟨4,by omega,by decide,by omega⟩
  .have Ru:((x.trees 3).xs.length:Int)=0:=by omega
   rw [t1] at iK;clear l7 t1;(repeat' first|simp [*,zb,zH,zU,qi,Pt.cells]|(apply za<;>intro _ h<;>try simp [-Nat.le_zero_eq] at h));exact ⟨4,by omega,by decide,by omega⟩
 .clear um pY nV Aq;(repeat' first|simp [*,zb]|(apply za<;>intro _ h<;>try simp [-Nat.le_zero_eq] at h))
end Go.Proofs.YtmmhnfghklppiaaGreat.Vm
