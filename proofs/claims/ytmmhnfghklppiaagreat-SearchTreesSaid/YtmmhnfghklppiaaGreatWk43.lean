/- Where nothing was found: what is left of the guilty part is small. Plain Lean. What CheckExtent answers. Plain Lean. search.CheckExtent in all cases, search.Refute: walked. -/
import Derived.Test.YtmmhnfghklppiaaGreatWk41
import Derived.Test.YtmmhnfghklppiaaGreatWk42
namespace Go.Proofs.YtmmhnfghklppiaaGreat.Vm
open Go
set_option linter.unusedSimpArgs false
set_option linter.unusedVariables false
set_option maxHeartbeats 4000000
def znM (gs:List (List Nat)) (j:Nat):List Nat:=(gs.find? fun g=>g.contains j).getD []
theorem zp3 {gs:List (List Nat)} (hn:gs.flatten.Nodup) {g:List Nat} (hg:g∈gs) {j:Nat} (hj:j∈g):znM gs j=g:=by
 unfold znM
 cases hf:gs.find? fun g=>g.contains j with
 | none =>
  have:=List.find?_eq_none.1 hf g hg;simp [hj] at this
 | some g' =>
  have h1:=List.mem_of_find?_eq_some hf;have h2:=List.find?_some hf;simp only [List.contains_iff_mem] at h2;exact UN hn h1 hg h2 hj
def DL (gs:List (List Nat)) (F:List Nat->List Box) (n:Nat):List Box:=(List.range n).map fun j=>(F (znM gs j))[j]!
theorem zmV (gs:List (List Nat)) (F:List Nat->List Box) (n:Nat):(DL gs F n).length=n:=by simp [DL]
theorem zsM {gs:List (List Nat)} {F:List Nat->List Box} {n j:Nat} (hn:gs.flatten.Nodup) {g:List Nat} (hg:g∈gs) (hj:j∈g) (h:j < n):(DL gs F n)[j]! = (F g)[j]! := by
 rw [getElem!_pos _ j (by rw [zmV];exact h)];simp only [DL,List.getElem_map,List.getElem_range];rw [zp3 hn hg hj]
theorem zoT {q:Problem} (ok:ae q) {gs:List (List Nat)} (hd:fO q.facts.xs q.boxes.xs.length gs) {F:List Nat->List Box} (hF:∀ g∈gs,Wf (F g)/\aP (F g) q.boxes.xs/\Stable zX (fC q.facts.xs g) (F g)) :
  ∃ M,Wf M/\aP M q.boxes.xs/\Stable zX q.facts.xs M/\∀ g∈gs,∀ j∈g,M[j]! = (F g)[j]! := by
 have hl:=zmV gs F q.boxes.xs.length;have at_:∀ g∈gs,∀ j∈g,(DL gs F q.boxes.xs.length)[j]! = (F g)[j]! := fun g hg j hj=>zsM hd.nodup hg hj ((hd.one g hg).2 j hj)
 refine ⟨DL gs F q.boxes.xs.length,fun b hb=>?_,⟨hl,fun i h1 h2=>?_⟩,fun i hi k hk f hf Np=>?_,at_⟩
 .obtain ⟨j,hj,rfl⟩:=List.mem_iff_getElem.1 hb;obtain ⟨g,hg,BL⟩:=List.mem_flatten.1 ((hd.all j).1 (by omega));have e:=at_ g hg j BL;have Vz:j < (F g).length:=by rw [(hF g hg).2.1.1];omega
  rw [getElem!_pos _ j hj,getElem!_pos _ j Vz] at e;rw [e];exact (hF g hg).1 _ (List.getElem_mem Vz)
 .obtain ⟨g,hg,BL⟩:=List.mem_flatten.1 ((hd.all i).1 h2);have e:=at_ g hg i BL;have Vz:i < (F g).length:=by rw [(hF g hg).2.1.1];exact h2
  rw [getElem!_pos _ i h1,getElem!_pos _ i Vz] at e;rw [e];exact (hF g hg).2.1.2 i Vz h2
 .have hn:=hd.named f hf;obtain ⟨g,hg,xR⟩:=List.mem_flatten.1 ((hd.all f.a.toNat).1 (by have:=hn.a;omega));have nN:=hd.within f hf g hg xR;have hFl:(F g).length=q.boxes.xs.length:=(hF g hg).2.1.1;have hiF:i < (F g).length:=by omega
  have key:∀ j∈g,(jW (DL gs F q.boxes.xs.length) i k)[j]! = (jW (F g) i k)[j]! := fun j hj=>by
   have j4:j < q.boxes.xs.length:=(hd.one g hg).2 j hj;rw [UT hi (by omega),UT hiF (by omega),at_ g hg j hj]
  refine (hF g hg).2.2 i hiF k hk f (bB.2 ⟨hf,xR⟩) ?_
  unfold zX at Np ⊢;rw [<- Np];exact (Jp ⟨key _ nN.a,key _ nN.b,fun h2=>key _ (nN.c h2)⟩).symm
theorem zjN {a b:List Box}:∀ {g:List Nat},(∀ i∈g,a[i]! = b[i]!)->fB a g=fB b g
 | [],_=>rfl
 | i::g,h=>by
  simp only [fB];rw [h i List.mem_cons_self,zjN fun j hj=>h j (List.mem_cons_of_mem _ hj)]
theorem zqx {q:Problem} (ok:ae q) {gs:List (List Nat)} (hd:fO q.facts.xs q.boxes.xs.length gs) {g:List Nat} (hg:g∈gs) {r:Option (List Box)} (hr:bM zX (fC q.facts.xs g) q.boxes.xs r) {l:List Box} (hl:bM zX q.facts.xs q.boxes.xs (some l))
  (hv:∀ m,Wf m->aP m q.boxes.xs->Stable zX q.facts.xs m->fB m g<=65536):uT r g<=65536:=by
 cases r with
 | none=>simp [uT]
 | some N =>
  obtain ⟨h1,h2⟩:=hr;have pV:∀ g',Stable zX (fC q.facts.xs g') l:=fun g' i hi k hk f hf=>hl.2 i hi k hk f (bB.1 hf).1;obtain ⟨M,w,s,st,e⟩:=zoT ok hd (F:=fun g'=>if g'=g then N else l) fun g' tX=>by
   by_cases hc:g'=g
   .subst hc;simp only [if_true];exact ⟨h1.wf,h1.sub,h2⟩
   .simp only [hc,if_false];exact ⟨hl.1.wf,hl.1.sub,pV g'⟩
  have h3:=hv M w s st;rw [zjN (b:=N) fun j hj=>by have:=e g hg j hj;simpa using this] at h3;exact h3
theorem zqg {q:Problem} (ok:ae q) {gs:List (List Nat)} (hd:fO q.facts.xs q.boxes.xs.length gs) (hn:bM zX q.facts.xs q.boxes.xs none):∃ g∈gs,bM zX (fC q.facts.xs g) q.boxes.xs none:=by
 refine Classical.byContradiction fun hc=>?_
 have hex:∀ g,∃ N,g∈gs->bM zX (fC q.facts.xs g) q.boxes.xs (some N):=fun g=>by
  obtain ⟨r,hr⟩:=TA (Xw ok g) (vI ok)
  cases r with
  | none=>exact ⟨[],fun hg=>absurd ⟨g,hg,hr⟩ hc⟩
  | some N=>exact ⟨N,fun _=>hr⟩
 obtain ⟨F,hF⟩:=Classical.axiomOfChoice hex;obtain ⟨M,w,s,st,_⟩:=zoT ok hd (F:=F) fun g hg=>⟨(hF g hg).1.wf,(hF g hg).1.sub,(hF g hg).2⟩
 exact hn M w s st
theorem znR {q:Problem} (ok:ae q) {g:List Nat} (hn:bM zX (fC q.facts.xs g) q.boxes.xs none):EI q g:=fun pts h=>by
 exact zhl (p:=q) (q:=⟨q.boxes,Sl.mk false (fC q.facts.xs g)⟩) (g:=g) rfl rfl hn pts h
theorem zpO {n:Nat} {fs:List Fact} {gs:List (List Nat)} (hd:fO fs n gs) {g h:List Nat} (hg:g∈gs) (hh:h∈gs) (bJ:g≠h):g.length+h.length<=n:=by
 have h1:=zjW (g:=g++h) (n:=n) (List.nodup_append.2 ⟨(hd.one g hg).1,(hd.one h hh).1,fun a ha b hb e=>by
  subst e;exact bJ (UN hd.nodup hg hh ha hb)⟩) fun i hi=>by
  rcases List.mem_append.1 hi with hi|hi
  .exact (hd.one g hg).2 i hi
  .exact (hd.one h hh).2 i hi
 rwa [List.length_append] at h1
theorem zp6 {p:Problem} {D:aZ} (tu:oO p=true) (h0:zQ p=0) (h:iD p D 0) (he:D.empty=true):∃ gs k,ja p gs k/\iq p.boxes.xs<=600/\(wH p gs k).length<=200000000000:=by
 have ok:=bW.1 h0;have few:=zrF ok tu;have nX:=zqG tu ok;have qQ:=(ziF ok h).1 he;obtain ⟨m,gs,k,hm,vJ,gi⟩:=zlI ok few.nb few.side qQ;have hd:fO p.facts.xs p.boxes.xs.length gs:=by rw [vJ];exact MS hm (JC ok)
 have hg:gs[k]! ∈ gs:=by rw [getElem!_pos gs k gi.lt];exact List.getElem_mem gi.lt
 have mO:=Xy ok hd hg gi.no;have bJ:gs[k]! ≠ []:=fun e=>by rw [e] at mO;simp at mO
 obtain ⟨r,hr⟩:=TA (Xw ok gs[k]!) (vI ok);obtain ⟨_,h2⟩:=zki ok hd hg bJ gi.no hr (m:=iq p.boxes.xs+1) (Nat.lt_succ_self (iq p.boxes.xs))
 refine ⟨gs,k,gi,nX,?_⟩
 have hT:(wH p gs k).length=(vL p gs[k]! (iq p.boxes.xs+1) p.boxes.xs).length:=rfl;have htop:uT r gs[k]! <= 51520374361:=by
  rcases h with ⟨vB,_,_⟩|⟨l,m',vB,DY,h⟩
  .obtain ⟨g0,Jz,vS⟩:=zqg ok hd vB
   by_cases e:gs[k]! = g0
   .rw [<- e] at vS;rw [hr.unique vS];simp [uT]
   .have uG:=Xy ok hd Jz (znR ok vS);have h3:=zpO hd hg Jz e;have nb:=few.nb;have h4:gs[k]!.length<=3:=by omega
    cases r with
    | none=>simp [uT]
    | some N =>
     show fB N gs[k]! <= _;have h5:=Xx hr.1.sub (g:=gs[k]!) fun i hi=>by rw [hr.1.sub.1];exact (hd.one _ hg).2 i hi
     have h6:=zkC few.side (hd.one _ hg).2;have h7:3721 ^ gs[k]!.length<=3721 ^ 3:=Nat.pow_le_pow_right (by decide) h4;have h8:3721 ^ 3=51520374361:=by decide
     omega
  .have h3:=zqx ok hd hg hr vB (zlY ok (.inr ⟨l,m',vB,DY,h⟩) hm (by rw [<- vJ];exact hg) mO);omega
 omega
set_option maxHeartbeats 8000000
set_option maxRecDepth 4000
noncomputable def bn (p:Problem) (q:Nat) (x:iC) (k:Nat):Bool:=(ak p (x.ends k).xs).2&&decide (rH (x.ends k).xs[q]! k=mY x.box k)&&decide ((x.trees k).xs.length<=262144)&&(if zI p.boxes.xs[q]! x.box k=true then rf (aN p q k x.box).facts.xs (aN p q k x.box).boxes.xs (x.trees k).xs else decide ((x.trees k).xs.length=0))
noncomputable def jY (p:Problem) (pt:Int) (x:iC):Int:=if zQ p≠0 then zQ p else if ¬ (0<=pt/\pt < p.boxes.xs.length) then 1 else if x.box.x.hi < x.box.x.lo\/x.box.y.hi < x.box.y.lo then 8 else
 if (bn p pt.toNat x 0&&bn p pt.toNat x 1&&bn p pt.toNat x 2&&bn p pt.toNat x 3)=true then 0 else 8
section
variable {p:Problem} {q:Nat} {x:iC} {k:Nat}
theorem ND (h:(ak p (x.ends k).xs).2=false):bn p q x k=false:=by unfold bn;rw [h];rfl
theorem NF (h:rH (x.ends k).xs[q]! k≠mY x.box k):bn p q x k=false:=by
 unfold bn;rw [decide_eq_false h];simp
theorem NG (h:262144 < (x.trees k).xs.length):bn p q x k=false:=by
 unfold bn;rw [decide_eq_false (p:=(x.trees k).xs.length<=262144) (by omega)];simp
theorem NH (h1:zI p.boxes.xs[q]! x.box k=true) (h2:rf (aN p q k x.box).facts.xs (aN p q k x.box).boxes.xs (x.trees k).xs=false):bn p q x k=false:=by
 unfold bn;rw [if_pos h1,h2];simp
theorem NI (h1:zI p.boxes.xs[q]! x.box k=false) (h2:¬ (x.trees k).xs.length=0):bn p q x k=false:=by
 unfold bn;rw [if_neg (by rw [h1];decide),decide_eq_false h2];simp
theorem NJ (ha:(ak p (x.ends k).xs).2=true) (hs:rH (x.ends k).xs[q]! k=mY x.box k) (ht:¬ 262144 < (x.trees k).xs.length) (h1:zI p.boxes.xs[q]! x.box k=true) (h2:rf (aN p q k x.box).facts.xs (aN p q k x.box).boxes.xs (x.trees k).xs=true):bn p q x k=true:=by
 unfold bn;rw [if_pos h1,h2,ha,decide_eq_true hs,decide_eq_true (p:=(x.trees k).xs.length<=262144) (by omega)];rfl
theorem NK (ha:(ak p (x.ends k).xs).2=true) (hs:rH (x.ends k).xs[q]! k=mY x.box k) (ht:¬ 262144 < (x.trees k).xs.length) (h1:zI p.boxes.xs[q]! x.box k=false) (h2:(x.trees k).xs.length=0):bn p q x k=true:=by
 unfold bn;rw [if_neg (by rw [h1];decide),ha,decide_eq_true hs,decide_eq_true (p:=(x.trees k).xs.length<=262144) (by omega),decide_eq_true h2];rfl
structure P6 (p:Problem) (q:Nat) (x:iC) (k:Nat):Prop where
 len:(x.ends k).xs.length=p.boxes.xs.length
 ok:rH (x.ends k).xs[q]! k=mY x.box k->nP (mY x.box k)/\xV p q k x.box
theorem zoG (ok:ae p) (hq:q < p.boxes.xs.length) (hk:k < 4) (ha:(ak p (x.ends k).xs).2=true):P6 p q x k:=by
 have nb:=ok.nb;obtain ⟨_,NA⟩:=zhx ha
 refine ⟨NA.len,fun hs=>?_⟩
 have I8:q < (x.ends k).xs.length:=by rw [NA.len];exact hq
 have bD:=NA.xK q I8 hq;have Vj:=aF.1 (ok.valid _ (List.getElem_mem hq));rw [getElem!_pos (x.ends k).xs q I8] at hs;have IW:=vI ok _ (List.getElem_mem hq);have bH:nP (mY x.box k):=by
  rw [<- hs];unfold bO at bD;unfold nP rH
  split<;>omega
 refine ⟨bH,?_⟩
 unfold bO at bD;unfold rH at hs
 refine ⟨hq,by omega,hk,bH,by rw [getElem!_pos p.boxes.xs q hq];exact IW,?_,?_⟩<;>rw [getElem!_pos p.boxes.xs q hq,<- hs]<;>unfold bz<;>(have nW:k=0\/k=1\/k=2\/k=3:=by omega)<;>rcases nW with rfl|rfl|rfl|rfl<;>simp<;>omega
theorem zrX (ok:ae p) (hq:q < p.boxes.xs.length) (h:zI p.boxes.xs[q]! x.box k=true) (nX:iq p.boxes.xs<=600):iq (aN p q k x.box).boxes.xs<=600 :=
 Nat.le_trans (zqO (UX (vI ok) hq h).2) nX
end
def Rn (p:Problem) (q:Nat) (x:iC) (k:Nat):Prop:=∀ j,j < k->bn p q x j=true
theorem zjE (p:Problem) (q:Nat) (x:iC):Rn p q x 0:=fun j hj=>by omega
theorem BN {p:Problem} {q:Nat} {x:iC} {k:Nat} (h:Rn p q x k) (hk:bn p q x k=true):Rn p q x (k+1):=fun j hj=>by
 by_cases e:j=k
 .subst e;exact hk
 .exact h j (by omega)
structure I9 (p:Problem) (x:iC):Prop where
 ends:∀ k,k < 4->(x.ends k).xs.length < 1000
 trees:∀ k,k < 4->(x.trees k).xs.length < 4000000000000000000
 mu:zQ p=0->iq p.boxes.xs<=600
theorem zo1 {p:Problem} {q:Nat} {x:iC} (h0:zQ p=0) (hq:q < p.boxes.xs.length) (hb:¬ (x.box.x.hi < x.box.x.lo\/x.box.y.hi < x.box.y.lo)):(Rn p q x 4->jY p (q:Nat) x=0)/\∀ k,k < 4->bn p q x k=false->jY p (q:Nat) x=8:=by
 have e:jY p (q:Nat) x=if (bn p q x 0&&bn p q x 1&&bn p q x 2&&bn p q x 3)=true then 0 else 8:=by
  unfold jY;rw [if_neg (by simp [h0]),if_neg (fun h=>h (by omega)),if_neg hb];simp
 refine ⟨fun h=>?_,fun k hk h=>?_⟩
 .rw [e,h 0 (by omega),h 1 (by omega),h 2 (by omega),h 3 (by omega)];rfl
 .rw [e];have nW:k=0\/k=1\/k=2\/k=3:=by omega
  rcases nW with rfl|rfl|rfl|rfl<;>simp [h]
def Gw (b:Bool) (e:Int) (T:List Node):List Node×Int:=if e≠0 then ([],e) else if b=false then ([],5) else (T,0)
theorem e11b (n:Nat) (p:Problem) (D:aZ) (e:Int) (h:jL p D e) (gs:List (List Nat)) (k:Nat) (hg:e=0->D.empty=true->ja p gs k/\iq p.boxes.xs<=600/\(wH p gs k).length<=200000000000):zK G (n+700) 11 [.agg p.cells]=some (.aQ [(Sl.of (Gw D.empty e (wH p gs k)).1).pv Node.cells 4,.int .i64 (Gw D.empty e (wH p gs k)).2]):=by
 refine zz (zy _) rfl g11 rfl ?_
 have hn:=fun H=>ze (G:=G) (n:=n+699) (H:=H) (caps:=[]) (ps:=[.agg p.cells]) sh38 (e38 (n+647) p D e h);have EH:D.cells=[.bool D.empty,(Sl.of D.ag).pv ym 1]:=rfl;rw [EH] at hn;simp only [Problem.cells,List.map] at hn;clear h EH
 by_cases he:e=0
 case neg =>
  have hp:Gw D.empty e (wH p gs k)=([],e):=by unfold Gw;rw [if_pos he]
  rw [hp];generalize D.empty=B at *;clear hp hg;(repeat' first|simp [*,zb,c11,Problem.cells]|(apply za<;>intro _ h<;>try simp [-Nat.le_zero_eq] at h))
 subst he
 cases hb:D.empty with
 | false =>
  have hp:Gw false 0 (wH p gs k)=([],5):=by unfold Gw;simp
  rw [hp];rw [hb] at hn;clear hp hg hb;(repeat' first|simp [*,zb,c11,Problem.cells]|(apply za<;>intro _ h<;>try simp [-Nat.le_zero_eq] at h))
 | true =>
  obtain ⟨gi,nX,bZ⟩:=hg rfl hb;have XP:=fun H=>ze (G:=G) (n:=n+699) (H:=H) (caps:=[]) (ps:=[.agg p.cells]) sh39 (e39 (n+59) p gs k gi nX bZ);have hp:Gw true 0 (wH p gs k)=(wH p gs k,0):=by unfold Gw;simp
  rw [hp];rw [hb] at hn;generalize wH p gs k=T at *;simp only [Problem.cells,List.map] at XP;clear hp hg hb gi nX bZ;(repeat' first|simp [*,zb,c11,Problem.cells]|(apply za<;>intro _ h<;>try simp [-Nat.le_zero_eq] at h))
theorem e22b (n:Nat) (p:Problem) (pt:Int) (x:iC) (h:I9 p x):zK G (n+700) 22 [.agg p.cells,.int .i64 pt,.agg x.cells]=some (.int .i64 (jY p pt x)):=by
 refine zz (zy _) rfl g22 rfl ?_
 have hc:=fun H=>ze (G:=G) (n:=n+699) (H:=H) (caps:=[]) (ps:=[.agg p.cells]) sh45 (e45 (n+696) p);have JA:p.cells=[p.boxes.pv Box.cells 4,p.facts.pv Fact.cells 9]:=rfl;have Lp:x.box.cells=[.int .i64 x.box.x.lo,.int .i64 x.box.x.hi,.int .i64 x.box.y.lo,.int .i64 x.box.y.hi]:=rfl;simp only [JA,List.map] at hc
 by_cases h0:zQ p=0
 case neg =>
  have hp:jY p pt x=zQ p:=by unfold jY;rw [if_pos h0]
  rw [hp];generalize zQ p=c at *;clear hp h Lp;(repeat' first|simp [*,zb,c22,Problem.cells,iC.cells]|(apply za<;>intro _ h<;>try simp [-Nat.le_zero_eq] at h))
 rw [h0] at hc;have ok:=bW.1 h0;have nb:=ok.nb;have w3:IntKind.i64.wrap ((p.boxes.xs.length:Int) - 1)=(p.boxes.xs.length:Int) - 1:=wrap64 (by omega) (by omega);have bD:=fun H=>ze (G:=G) (n:=n+699) (H:=H) (caps:=[]) (ps:=[.int .i64 pt,.int .i64 0,.int .i64 ((p.boxes.xs.length:Int) - 1)]) sh52 (e52 (n+698) pt 0 ((p.boxes.xs.length:Int) - 1));simp only [List.map] at bD
 by_cases hr:0<=pt/\pt < p.boxes.xs.length
 case neg =>
  have hp:jY p pt x=1:=by unfold jY;rw [if_neg (by simp [h0]),if_pos hr]
  rw [hp];have Jc:mZ pt 0 ((p.boxes.xs.length:Int) - 1)=false:=by
   unfold mZ;rw [Bool.and_eq_false_iff,decide_eq_false_iff_not,decide_eq_false_iff_not];omega
  rw [Jc] at bD;clear hp h Lp ok hr Jc h0;(repeat' first|simp [*,zb,c22,Problem.cells,iC.cells]|(apply za<;>intro _ h<;>try simp [-Nat.le_zero_eq] at h))
 obtain ⟨q,rfl⟩:∃ q:Nat,pt=(q:Int):=⟨pt.toNat,by omega⟩
 have hq:q < p.boxes.xs.length:=by omega
 have Un:(q:Int) < p.boxes.xs.length:=by omega
 have vK:mZ (q:Int) 0 ((p.boxes.xs.length:Int) - 1)=true:=by
  unfold mZ;rw [Bool.and_eq_true,decide_eq_true_eq,decide_eq_true_eq];omega
 rw [vK] at bD;clear vK hr
 by_cases hb:x.box.x.hi < x.box.x.lo\/x.box.y.hi < x.box.y.lo
 .have hp:jY p (q:Nat) x=8:=by unfold jY;rw [if_neg (by simp [h0]),if_neg (fun h=>h (by omega)),if_pos hb]
  rw [hp];clear hp h Lp ok h0
  by_cases h1:x.box.x.hi < x.box.x.lo
  .clear hb;(repeat' first|simp [*,zb,c22,Problem.cells,iC.cells]|(apply za<;>intro _ h<;>try simp [-Nat.le_zero_eq] at h))
  .have h2:x.box.y.hi < x.box.y.lo:=by rcases hb with h|h;exact absurd h h1;exact h
   clear hb;(repeat' first|simp [*,zb,c22,Problem.cells,iC.cells]|(apply za<;>intro _ h<;>try simp [-Nat.le_zero_eq] at h))
 obtain ⟨z0,z8⟩:=zo1 h0 hq hb;have nb1:¬ x.box.x.hi < x.box.x.lo:=fun h=>hb (.inl h);have nb2:¬ x.box.y.hi < x.box.y.lo:=fun h=>hb (.inr h);clear hb;generalize jY p (q:Nat) x=R at *;have z0:=Hide.mk z0;have z8:=Hide.mk z8;have iI:=Hide.mk fun (k:Nat) (hk:k < 4) H=>ze (G:=G) (n:=n+699) (H:=H) (caps:=[]) (ps:=[.agg p.cells,(x.ends k).pv Pt.cells 2]) sh28 (e28 (n+692) p (x.ends k) (h.ends k hk));have fV:=Hide.mk fun (k:Nat) (hk:k < 4) (hs:nP (mY x.box k)) H=>ze (G:=G) (n:=n+699) (H:=H) (caps:=[]) (ps:=[.agg p.cells,.int .i64 (q:Nat),.int .i64 (k:Nat),.agg x.box.cells]) sh55 (e55 (n+697) p q k x.box ⟨hq,by omega,hk,hs⟩);have fF:=Hide.mk fun (k:Nat) (hk:k < 4) (hs:zI p.boxes.xs[q]! x.box k=true) H=>ze (G:=G) (n:=n+699) (H:=H) (caps:=[]) (ps:=[.agg (aN p q k x.box).cells,(x.trees k).pv Node.cells 4]) sh46 (e46 (n+59) (aN p q k x.box) (XA ok hq hs) (x.trees k) (h.trees k hk) (zrX ok hq hs (h.mu h0)));have iQ:=Hide.mk fun (k:Nat) (hk:k < 4) (ha:(ak p (x.ends k).xs).2=true)=>zoG (q:=q) (x:=x) ok hq hk ha;rw [Lp,JA] at fV;rw [JA] at iI;clear h ok h0;(repeat' first|simp [*,zb,c22,Problem.cells,iC.cells,zk,zl,zM]|(apply za<;>intro _ h<;>try simp [-Nat.le_zero_eq] at h))
 refine zL [(6,6),(9,14),(64,141)] (fun (k:Nat) env H=>env 64=.pure (.int .i64 k)/\k<=4/\0 < H.nx/\H.get 0=.cells true [.pure (.int .i64 x.box.x.lo),.pure (.int .i64 x.box.x.hi),.pure (.int .i64 x.box.y.lo),.pure (.int .i64 x.box.y.hi)]/\Rn p q x k) (fun k=>4 - k) 0 ?_ ?_ ?_ ?_
 .decide
 .exact ⟨by simp,by omega,by simp,by simp,zjE p q x⟩
 .simp only [zF];omega
 rintro k env H ⟨g64,hk,bX,h0,aB⟩;have x0:(0:Nat)≠H.nx:=by omega
 have aB:=Hide.mk aB;have Vy:k=0\/k=1\/k=2\/k=3\/k=4:=by omega
 rcases Vy with rfl|rfl|rfl|rfl|rfl
 .have nJ:=iI.h 0 (by decide);have w1:IntKind.i64.wrap (0+1)=1:=by decide
  cases ha:(ak p (x.ends 0).xs).2 with
  | false =>
   obtain rfl:=z8.h 0 (by decide) (ND ha);rw [ha] at nJ;generalize (ak p (x.ends 0).xs).1=av at *;simp only [Pt.cells,List.map] at nJ;clear iI fV fF iQ z0 z8 aB ha ;(repeat' first|simp [*,zb,zk,zl,zM,Pt.cells]|(apply za<;>intro _ h<;>try simp [-Nat.le_zero_eq] at h))
  | true =>
   have sa:=iQ.h 0 (by decide) ha;have pV:=sa.len;have hl:q < (x.ends 0).xs.length:=by rw [sa.len];exact hq
   have Ii:(q:Int) < (x.ends 0).xs.length:=by omega
   have iJ:rH (x.ends 0).xs[q]! 0=(x.ends 0).xs[q].x:=by rw [getElem!_pos (x.ends 0).xs q hl];rfl
   have qm:=rQ (k:=.i64) (f:=Pt.cells) (sz:=2) (s:=x.ends 0) hl;rw [ha] at nJ;generalize vV:(ak p (x.ends 0).xs).1=av at *;simp only [Pt.cells,List.map] at nJ qm;clear vV pV
   by_cases hs:(x.ends 0).xs[q].x=x.box.x.lo
   case neg =>
    obtain rfl:=z8.h 0 (by decide) (NF (by rw [iJ];exact hs));clear iI fV fF iQ z0 z8 aB ha  sa iJ;(repeat' first|simp [*,zb,zk,zl,zM,Pt.cells]|(apply za<;>intro _ h<;>try simp [-Nat.le_zero_eq] at h))
   by_cases ht:262144 < (x.trees 0).xs.length
   .obtain rfl:=z8.h 0 (by decide) (NG ht);have pQ:(262144:Int) < (x.trees 0).xs.length:=by omega
    clear iI fV fF iQ z0 z8 aB ha  sa iJ ht;(repeat' first|simp [*,zb,zk,zl,zM,Pt.cells]|(apply za<;>intro _ h<;>try simp [-Nat.le_zero_eq] at h))
   have pQ:¬ (262144:Int) < (x.trees 0).xs.length:=by omega
   have jd:rH (x.ends 0).xs[q]! 0=mY x.box 0:=by rw [iJ];exact hs
   obtain ⟨so,sb⟩:=sa.ok jd;have bu:=fV.h 0 (by decide) so;have mr:=fF.h 0 (by decide)
   cases hm:zI p.boxes.xs[q]! x.box 0 with
   | true =>
    have iZ:=mr hm
    cases jM:rf (aN p q 0 x.box).facts.xs (aN p q 0 x.box).boxes.xs (x.trees 0).xs with
    | false =>
     obtain rfl:=z8.h 0 (by decide) (NH hm jM);rw [jM] at iZ;rw [hm] at bu;obtain ⟨q',bU⟩:∃ q',aN p q 0 x.box=q':=⟨_,rfl⟩
     rw [bU] at bu iZ;obtain ⟨qb,qf⟩:=q';simp only [Problem.cells,Pt.cells,List.map] at bu iZ
     push_cast at bu
     clear iI fV fF iQ z0 z8 aB ha  sa iJ ht jd so sb mr hm jM bU;(repeat' first|simp [*,zb,zk,zl,zM,Pt.cells]|(apply za<;>intro _ h<;>try simp [-Nat.le_zero_eq] at h))
    | true =>
     have mP:=Hide.mk (BN aB.h (NJ ha jd ht hm jM));rw [jM] at iZ;rw [hm] at bu;obtain ⟨q',bU⟩:∃ q',aN p q 0 x.box=q':=⟨_,rfl⟩
     rw [bU] at bu iZ;obtain ⟨qb,qf⟩:=q';simp only [Problem.cells,Pt.cells,List.map] at bu iZ
     push_cast at bu
     clear iI fV fF iQ z0 z8 aB ha  sa iJ ht jd so sb mr hm jM bU;(repeat' first|simp [*,zb,zk,zl,zM,Pt.cells]|(apply za<;>intro _ h<;>try simp [-Nat.le_zero_eq] at h));exact ⟨1,by omega,by decide,by omega,mP.h⟩
   | false =>
    clear mr;rw [hm] at bu;obtain ⟨q',bU⟩:∃ q',aN p q 0 x.box=q':=⟨_,rfl⟩
    rw [bU] at bu;obtain ⟨qb,qf⟩:=q';simp only [Problem.cells,Pt.cells,List.map] at bu
    push_cast at bu
    by_cases hz:(x.trees 0).xs.length=0
    .have mP:=Hide.mk (BN aB.h (NK ha jd ht hm hz));have DN:((x.trees 0).xs.length:Int)=0:=by omega
     clear iI fV fF iQ z0 z8 aB ha  sa iJ ht jd so sb hm bU;(repeat' first|simp [*,zb,zk,zl,zM,Pt.cells]|(apply za<;>intro _ h<;>try simp [-Nat.le_zero_eq] at h));exact ⟨1,by omega,by decide,by omega,mP.h⟩
    .obtain rfl:=z8.h 0 (by decide) (NI hm hz);have DN:¬ ((x.trees 0).xs.length:Int)=0:=by omega
     have DR:(0:Int) < (x.trees 0).xs.length:=by omega
     clear iI fV fF iQ z0 z8 aB ha  sa iJ ht jd so sb hm bU;(repeat' first|simp [*,zb,zk,zl,zM,Pt.cells]|(apply za<;>intro _ h<;>try simp [-Nat.le_zero_eq] at h))
 .have nJ:=iI.h 1 (by decide);have w1:IntKind.i64.wrap (1+1)=2:=by decide
  cases ha:(ak p (x.ends 1).xs).2 with
  | false =>
   obtain rfl:=z8.h 1 (by decide) (ND ha);rw [ha] at nJ;generalize (ak p (x.ends 1).xs).1=av at *;simp only [Pt.cells,List.map] at nJ;clear iI fV fF iQ z0 z8 aB ha ;(repeat' first|simp [*,zb,zk,zl,zM,Pt.cells]|(apply za<;>intro _ h<;>try simp [-Nat.le_zero_eq] at h))
  | true =>
   have sa:=iQ.h 1 (by decide) ha;have pV:=sa.len;have hl:q < (x.ends 1).xs.length:=by rw [sa.len];exact hq
   have Ii:(q:Int) < (x.ends 1).xs.length:=by omega
   have iJ:rH (x.ends 1).xs[q]! 1=(x.ends 1).xs[q].x:=by rw [getElem!_pos (x.ends 1).xs q hl];rfl
   have qm:=rQ (k:=.i64) (f:=Pt.cells) (sz:=2) (s:=x.ends 1) hl;rw [ha] at nJ;generalize vV:(ak p (x.ends 1).xs).1=av at *;simp only [Pt.cells,List.map] at nJ qm;clear vV pV
   by_cases hs:(x.ends 1).xs[q].x=x.box.x.hi
   case neg =>
    obtain rfl:=z8.h 1 (by decide) (NF (by rw [iJ];exact hs));clear iI fV fF iQ z0 z8 aB ha  sa iJ;(repeat' first|simp [*,zb,zk,zl,zM,Pt.cells]|(apply za<;>intro _ h<;>try simp [-Nat.le_zero_eq] at h))
   by_cases ht:262144 < (x.trees 1).xs.length
   .obtain rfl:=z8.h 1 (by decide) (NG ht);have pQ:(262144:Int) < (x.trees 1).xs.length:=by omega
    clear iI fV fF iQ z0 z8 aB ha  sa iJ ht;(repeat' first|simp [*,zb,zk,zl,zM,Pt.cells]|(apply za<;>intro _ h<;>try simp [-Nat.le_zero_eq] at h))
   have pQ:¬ (262144:Int) < (x.trees 1).xs.length:=by omega
   have jd:rH (x.ends 1).xs[q]! 1=mY x.box 1:=by rw [iJ];exact hs
   obtain ⟨so,sb⟩:=sa.ok jd;have bu:=fV.h 1 (by decide) so;have mr:=fF.h 1 (by decide)
   cases hm:zI p.boxes.xs[q]! x.box 1 with
   | true =>
    have iZ:=mr hm
    cases jM:rf (aN p q 1 x.box).facts.xs (aN p q 1 x.box).boxes.xs (x.trees 1).xs with
    | false =>
     obtain rfl:=z8.h 1 (by decide) (NH hm jM);rw [jM] at iZ;rw [hm] at bu;obtain ⟨q',bU⟩:∃ q',aN p q 1 x.box=q':=⟨_,rfl⟩
     rw [bU] at bu iZ;obtain ⟨qb,qf⟩:=q';simp only [Problem.cells,Pt.cells,List.map] at bu iZ
     push_cast at bu
     clear iI fV fF iQ z0 z8 aB ha  sa iJ ht jd so sb mr hm jM bU;(repeat' first|simp [*,zb,zk,zl,zM,Pt.cells]|(apply za<;>intro _ h<;>try simp [-Nat.le_zero_eq] at h))
    | true =>
     have mP:=Hide.mk (BN aB.h (NJ ha jd ht hm jM));rw [jM] at iZ;rw [hm] at bu;obtain ⟨q',bU⟩:∃ q',aN p q 1 x.box=q':=⟨_,rfl⟩
     rw [bU] at bu iZ;obtain ⟨qb,qf⟩:=q';simp only [Problem.cells,Pt.cells,List.map] at bu iZ
     push_cast at bu
     clear iI fV fF iQ z0 z8 aB ha  sa iJ ht jd so sb mr hm jM bU;(repeat' first|simp [*,zb,zk,zl,zM,Pt.cells]|(apply za<;>intro _ h<;>try simp [-Nat.le_zero_eq] at h));exact ⟨2,by omega,by decide,by omega,mP.h⟩
   | false =>
    clear mr;rw [hm] at bu;obtain ⟨q',bU⟩:∃ q',aN p q 1 x.box=q':=⟨_,rfl⟩
    rw [bU] at bu;obtain ⟨qb,qf⟩:=q';simp only [Problem.cells,Pt.cells,List.map] at bu
    push_cast at bu
    by_cases hz:(x.trees 1).xs.length=0
    .have mP:=Hide.mk (BN aB.h (NK ha jd ht hm hz));have DN:((x.trees 1).xs.length:Int)=0:=by omega
     clear iI fV fF iQ z0 z8 aB ha  sa iJ ht jd so sb hm bU;(repeat' first|simp [*,zb,zk,zl,zM,Pt.cells]|(apply za<;>intro _ h<;>try simp [-Nat.le_zero_eq] at h));exact ⟨2,by omega,by decide,by omega,mP.h⟩
    .obtain rfl:=z8.h 1 (by decide) (NI hm hz);have DN:¬ ((x.trees 1).xs.length:Int)=0:=by omega
     have DR:(0:Int) < (x.trees 1).xs.length:=by omega
     clear iI fV fF iQ z0 z8 aB ha  sa iJ ht jd so sb hm bU;(repeat' first|simp [*,zb,zk,zl,zM,Pt.cells]|(apply za<;>intro _ h<;>try simp [-Nat.le_zero_eq] at h))
 .have nJ:=iI.h 2 (by decide);have w1:IntKind.i64.wrap (2+1)=3:=by decide
  cases ha:(ak p (x.ends 2).xs).2 with
  | false =>
   obtain rfl:=z8.h 2 (by decide) (ND ha);rw [ha] at nJ;generalize (ak p (x.ends 2).xs).1=av at *;simp only [Pt.cells,List.map] at nJ;clear iI fV fF iQ z0 z8 aB ha ;(repeat' first|simp [*,zb,zk,zl,zM,Pt.cells]|(apply za<;>intro _ h<;>try simp [-Nat.le_zero_eq] at h))
  | true =>
   have sa:=iQ.h 2 (by decide) ha;have pV:=sa.len;have hl:q < (x.ends 2).xs.length:=by rw [sa.len];exact hq
   have Ii:(q:Int) < (x.ends 2).xs.length:=by omega
   have iJ:rH (x.ends 2).xs[q]! 2=(x.ends 2).xs[q].y:=by rw [getElem!_pos (x.ends 2).xs q hl];rfl
   have qm:=rQ (k:=.i64) (f:=Pt.cells) (sz:=2) (s:=x.ends 2) hl;rw [ha] at nJ;generalize vV:(ak p (x.ends 2).xs).1=av at *;simp only [Pt.cells,List.map] at nJ qm;clear vV pV
   by_cases hs:(x.ends 2).xs[q].y=x.box.y.lo
   case neg =>
    obtain rfl:=z8.h 2 (by decide) (NF (by rw [iJ];exact hs));clear iI fV fF iQ z0 z8 aB ha  sa iJ;(repeat' first|simp [*,zb,zk,zl,zM,Pt.cells]|(apply za<;>intro _ h<;>try simp [-Nat.le_zero_eq] at h))
   by_cases ht:262144 < (x.trees 2).xs.length
   .obtain rfl:=z8.h 2 (by decide) (NG ht);have pQ:(262144:Int) < (x.trees 2).xs.length:=by omega
    clear iI fV fF iQ z0 z8 aB ha  sa iJ ht;(repeat' first|simp [*,zb,zk,zl,zM,Pt.cells]|(apply za<;>intro _ h<;>try simp [-Nat.le_zero_eq] at h))
   have pQ:¬ (262144:Int) < (x.trees 2).xs.length:=by omega
   have jd:rH (x.ends 2).xs[q]! 2=mY x.box 2:=by rw [iJ];exact hs
   obtain ⟨so,sb⟩:=sa.ok jd;have bu:=fV.h 2 (by decide) so;have mr:=fF.h 2 (by decide)
   cases hm:zI p.boxes.xs[q]! x.box 2 with
   | true =>
    have iZ:=mr hm
    cases jM:rf (aN p q 2 x.box).facts.xs (aN p q 2 x.box).boxes.xs (x.trees 2).xs with
    | false =>
     obtain rfl:=z8.h 2 (by decide) (NH hm jM);rw [jM] at iZ;rw [hm] at bu;obtain ⟨q',bU⟩:∃ q',aN p q 2 x.box=q':=⟨_,rfl⟩
     rw [bU] at bu iZ;obtain ⟨qb,qf⟩:=q';simp only [Problem.cells,Pt.cells,List.map] at bu iZ
     push_cast at bu
     clear iI fV fF iQ z0 z8 aB ha  sa iJ ht jd so sb mr hm jM bU;(repeat' first|simp [*,zb,zk,zl,zM,Pt.cells]|(apply za<;>intro _ h<;>try simp [-Nat.le_zero_eq] at h))
    | true =>
     have mP:=Hide.mk (BN aB.h (NJ ha jd ht hm jM));rw [jM] at iZ;rw [hm] at bu;obtain ⟨q',bU⟩:∃ q',aN p q 2 x.box=q':=⟨_,rfl⟩
     rw [bU] at bu iZ;obtain ⟨qb,qf⟩:=q';simp only [Problem.cells,Pt.cells,List.map] at bu iZ
     push_cast at bu
     clear iI fV fF iQ z0 z8 aB ha  sa iJ ht jd so sb mr hm jM bU;(repeat' first|simp [*,zb,zk,zl,zM,Pt.cells]|(apply za<;>intro _ h<;>try simp [-Nat.le_zero_eq] at h));exact ⟨3,by omega,by decide,by omega,mP.h⟩
   | false =>
    clear mr;rw [hm] at bu;obtain ⟨q',bU⟩:∃ q',aN p q 2 x.box=q':=⟨_,rfl⟩
    rw [bU] at bu;obtain ⟨qb,qf⟩:=q';simp only [Problem.cells,Pt.cells,List.map] at bu
    push_cast at bu
    by_cases hz:(x.trees 2).xs.length=0
    .have mP:=Hide.mk (BN aB.h (NK ha jd ht hm hz));have DN:((x.trees 2).xs.length:Int)=0:=by omega
     clear iI fV fF iQ z0 z8 aB ha  sa iJ ht jd so sb hm bU;(repeat' first|simp [*,zb,zk,zl,zM,Pt.cells]|(apply za<;>intro _ h<;>try simp [-Nat.le_zero_eq] at h));exact ⟨3,by omega,by decide,by omega,mP.h⟩
    .obtain rfl:=z8.h 2 (by decide) (NI hm hz);have DN:¬ ((x.trees 2).xs.length:Int)=0:=by omega
     have DR:(0:Int) < (x.trees 2).xs.length:=by omega
     clear iI fV fF iQ z0 z8 aB ha  sa iJ ht jd so sb hm bU;(repeat' first|simp [*,zb,zk,zl,zM,Pt.cells]|(apply za<;>intro _ h<;>try simp [-Nat.le_zero_eq] at h))
 .have nJ:=iI.h 3 (by decide);have w1:IntKind.i64.wrap (3+1)=4:=by decide
  cases ha:(ak p (x.ends 3).xs).2 with
  | false =>
   obtain rfl:=z8.h 3 (by decide) (ND ha);rw [ha] at nJ;generalize (ak p (x.ends 3).xs).1=av at *;simp only [Pt.cells,List.map] at nJ;clear iI fV fF iQ z0 z8 aB ha ;(repeat' first|simp [*,zb,zk,zl,zM,Pt.cells]|(apply za<;>intro _ h<;>try simp [-Nat.le_zero_eq] at h))
  | true =>
   have sa:=iQ.h 3 (by decide) ha;have pV:=sa.len;have hl:q < (x.ends 3).xs.length:=by rw [sa.len];exact hq
   have Ii:(q:Int) < (x.ends 3).xs.length:=by omega
   have iJ:rH (x.ends 3).xs[q]! 3=(x.ends 3).xs[q].y:=by rw [getElem!_pos (x.ends 3).xs q hl];rfl
   have qm:=rQ (k:=.i64) (f:=Pt.cells) (sz:=2) (s:=x.ends 3) hl;rw [ha] at nJ;generalize vV:(ak p (x.ends 3).xs).1=av at *;simp only [Pt.cells,List.map] at nJ qm;clear vV pV
   by_cases hs:(x.ends 3).xs[q].y=x.box.y.hi
   case neg =>
    obtain rfl:=z8.h 3 (by decide) (NF (by rw [iJ];exact hs));clear iI fV fF iQ z0 z8 aB ha  sa iJ;(repeat' first|simp [*,zb,zk,zl,zM,Pt.cells]|(apply za<;>intro _ h<;>try simp [-Nat.le_zero_eq] at h))
   by_cases ht:262144 < (x.trees 3).xs.length
   .obtain rfl:=z8.h 3 (by decide) (NG ht);have pQ:(262144:Int) < (x.trees 3).xs.length:=by omega
    clear iI fV fF iQ z0 z8 aB ha  sa iJ ht;(repeat' first|simp [*,zb,zk,zl,zM,Pt.cells]|(apply za<;>intro _ h<;>try simp [-Nat.le_zero_eq] at h))
   have pQ:¬ (262144:Int) < (x.trees 3).xs.length:=by omega
   have jd:rH (x.ends 3).xs[q]! 3=mY x.box 3:=by rw [iJ];exact hs
   obtain ⟨so,sb⟩:=sa.ok jd;have bu:=fV.h 3 (by decide) so;have mr:=fF.h 3 (by decide)
   cases hm:zI p.boxes.xs[q]! x.box 3 with
   | true =>
    have iZ:=mr hm
    cases jM:rf (aN p q 3 x.box).facts.xs (aN p q 3 x.box).boxes.xs (x.trees 3).xs with
    | false =>
     obtain rfl:=z8.h 3 (by decide) (NH hm jM);rw [jM] at iZ;rw [hm] at bu;obtain ⟨q',bU⟩:∃ q',aN p q 3 x.box=q':=⟨_,rfl⟩
     rw [bU] at bu iZ;obtain ⟨qb,qf⟩:=q';simp only [Problem.cells,Pt.cells,List.map] at bu iZ
     push_cast at bu
     clear iI fV fF iQ z0 z8 aB ha  sa iJ ht jd so sb mr hm jM bU;(repeat' first|simp [*,zb,zk,zl,zM,Pt.cells]|(apply za<;>intro _ h<;>try simp [-Nat.le_zero_eq] at h))
    | true =>
     have mP:=Hide.mk (BN aB.h (NJ ha jd ht hm jM));rw [jM] at iZ;rw [hm] at bu;obtain ⟨q',bU⟩:∃ q',aN p q 3 x.box=q':=⟨_,rfl⟩
     rw [bU] at bu iZ;obtain ⟨qb,qf⟩:=q';simp only [Problem.cells,Pt.cells,List.map] at bu iZ
     push_cast at bu
     clear iI fV fF iQ z0 z8 aB ha  sa iJ ht jd so sb mr hm jM bU;(repeat' first|simp [*,zb,zk,zl,zM,Pt.cells]|(apply za<;>intro _ h<;>try simp [-Nat.le_zero_eq] at h));exact ⟨4,by omega,by decide,by omega,mP.h⟩
   | false =>
    clear mr;rw [hm] at bu;obtain ⟨q',bU⟩:∃ q',aN p q 3 x.box=q':=⟨_,rfl⟩
    rw [bU] at bu;obtain ⟨qb,qf⟩:=q';simp only [Problem.cells,Pt.cells,List.map] at bu
    push_cast at bu
    by_cases hz:(x.trees 3).xs.length=0
    .have mP:=Hide.mk (BN aB.h (NK ha jd ht hm hz));have DN:((x.trees 3).xs.length:Int)=0:=by omega
     clear iI fV fF iQ z0 z8 aB ha  sa iJ ht jd so sb hm bU;(repeat' first|simp [*,zb,zk,zl,zM,Pt.cells]|(apply za<;>intro _ h<;>try simp [-Nat.le_zero_eq] at h));exact ⟨4,by omega,by decide,by omega,mP.h⟩
    .obtain rfl:=z8.h 3 (by decide) (NI hm hz);have DN:¬ ((x.trees 3).xs.length:Int)=0:=by omega
     have DR:(0:Int) < (x.trees 3).xs.length:=by omega
     clear iI fV fF iQ z0 z8 aB ha  sa iJ ht jd so sb hm bU;(repeat' first|simp [*,zb,zk,zl,zM,Pt.cells]|(apply za<;>intro _ h<;>try simp [-Nat.le_zero_eq] at h))
 .obtain rfl:=z0.h aB.h;clear iI fV fF iQ z8 aB ;(repeat' first|simp [*,zb]|(apply za<;>intro _ h<;>try simp [-Nat.le_zero_eq] at h))
end Go.Proofs.YtmmhnfghklppiaaGreat.Vm
