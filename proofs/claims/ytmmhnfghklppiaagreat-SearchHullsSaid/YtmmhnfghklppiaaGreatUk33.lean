/- Parts in the specification: the labels fall, round by round. Plain Lean, then the walk. Parts in the specification: classes, walked. Volumes of parts: the specification's, walked. -/
import Derived.Test.YtmmhnfghklppiaaGreatUk22
import Derived.Test.YtmmhnfghklppiaaGreatUk27
namespace Go.Proofs.YtmmhnfghklppiaaGreat.Vm
open Go
set_option linter.unusedSimpArgs false
set_option linter.unusedVariables false
set_option maxHeartbeats 4000000
set_option maxRecDepth 4000
def om (g:Nat->Nat) (f:Fact):Nat:=if f.kind=2 then min (min (g f.a.toNat) (g f.b.toNat)) (g f.c.toNat) else min (g f.a.toNat) (g f.b.toNat)
def stepG (g:Nat->Nat) (f:Fact):Nat->Nat:=fun i=>if i=f.a.toNat\/i=f.b.toNat\/(f.kind=2/\i=f.c.toNat) then om g f else g i
theorem znz (g:Nat->Nat) (f:Fact):om g f<=g f.a.toNat:=by unfold om;split<;>omega
theorem zrT (g:Nat->Nat) (f:Fact):om g f<=g f.b.toNat:=by unfold om;split<;>omega
theorem zsd (g:Nat->Nat) (f:Fact) (h:f.kind=2):om g f<=g f.c.toNat:=by unfold om;rw [if_pos h];omega
theorem Zk (g:Nat->Nat) (f:Fact) (i:Nat):stepG g f i<=g i:=by
 unfold stepG
 split
 .rename_i h;rcases h with rfl|rfl|⟨h,rfl⟩
  .exact znz g f
  .exact zrT g f
  .exact zsd g f h
 .exact Nat.le_refl _
theorem znM (g:Nat->Nat) (f:Fact) {e:Nat×Nat} (he:e∈AB f):stepG g f e.1<=g e.2/\stepG g f e.2<=g e.1:=by
 unfold AB at he;rcases List.mem_cons.1 he with rfl|he
 .have h1:stepG g f f.a.toNat=om g f:=by simp [stepG]
  have h2:stepG g f f.b.toNat=om g f:=by simp [stepG]
  simp only [h1,h2];exact ⟨zrT g f,znz g f⟩
 .by_cases hk:f.kind=2
  .rw [if_pos hk] at he;simp at he;subst he;have h1:stepG g f f.a.toNat=om g f:=by simp [stepG]
   have h2:stepG g f f.c.toNat=om g f:=by simp [stepG,hk]
   simp only [h1,h2];exact ⟨zsd g f hk,znz g f⟩
  .rw [if_neg hk] at he;simp at he
theorem zpW {E:List (Nat×Nat)} {n:Nat} {g:Nat->Nat} {f:Fact} (h:mR E n g) (he:∀ e∈AB f,e∈E) (ha:f.a.toNat < n) (hb:f.b.toNat < n) (hc:f.kind=2->f.c.toNat < n):lT E f.a.toNat (om g f):=by
 have eab:lT E f.a.toNat f.b.toNat:=.edge (he _ (by simp [AB]));have ca:=h.conn _ ha;have cb:=eab.trans (h.conn _ hb);have cab:lT E f.a.toNat (min (g f.a.toNat) (g f.b.toNat)):=by
  rcases Nat.le_total (g f.a.toNat) (g f.b.toNat) with hl|hl
  .rw [Nat.min_eq_left hl];exact ca
  .rw [Nat.min_eq_right hl];exact cb
 unfold om
 split
 .rename_i hk;have eac:lT E f.a.toNat f.c.toNat:=.edge (he _ (by simp [AB,hk]));have cc:=eac.trans (h.conn _ (hc hk));rcases Nat.le_total (min (g f.a.toNat) (g f.b.toNat)) (g f.c.toNat) with hl|hl
  .rw [Nat.min_eq_left hl];exact cab
  .rw [Nat.min_eq_right hl];exact cc
 .exact cab
theorem mR.step {E:List (Nat×Nat)} {n:Nat} {g:Nat->Nat} {f:Fact} (h:mR E n g) (he:∀ e∈AB f,e∈E) (ha:f.a.toNat < n) (hb:f.b.toNat < n) (hc:f.kind=2->f.c.toNat < n):mR E n (stepG g f):=by
 have hl:=zpW h he ha hb hc;have eab:lT E f.a.toNat f.b.toNat:=.edge (he _ (by simp [AB]))
 refine ⟨fun i hi=>Nat.le_trans (Zk g f i) (h.le i hi),fun i hi=>?_⟩
 unfold stepG
 split
 .rename_i hx;rcases hx with rfl|rfl|⟨hk,rfl⟩
  .exact hl
  .exact eab.symm.trans hl
  .have eac:lT E f.a.toNat f.c.toNat:=.edge (he _ (by simp [AB,hk]));exact eac.symm.trans hl
 .exact h.conn i hi
structure RD (fs:List Fact) (n:Nat) (g0 g:Nat->Nat) (k:Nat):Prop where
 on:mR (mM fs) n g
 le:∀ i,g i<=g0 i
 ed:∀ e∈mM (fs.take k),g e.1<=g0 e.2/\g e.2<=g0 e.1
theorem RD.start {fs:List Fact} {n:Nat} {g:Nat->Nat} (h:mR (mM fs) n g):RD fs n g g 0:=⟨h,fun _=>Nat.le_refl _,fun e he=>by simp [mM] at he⟩
theorem RD.step {fs:List Fact} {n:Nat} {g0 g:Nat->Nat} {k:Nat} (h:RD fs n g0 g k) (hk:k < fs.length) (ha:fs[k].a.toNat < n) (hb:fs[k].b.toNat < n) (hc:fs[k].kind=2->fs[k].c.toNat < n):RD fs n g0 (stepG g fs[k]) (k+1):=by
 refine ⟨h.on.step (fun e he=>List.mem_flatMap.2 ⟨_,List.getElem_mem hk,he⟩) ha hb hc,fun i=>Nat.le_trans (Zk _ _ i) (h.le i),fun e he=>?_⟩
 rw [zfX hk] at he;rcases List.mem_append.1 he with he|he
 .have:=h.ed e he;have h1:=Zk g fs[k] e.1;have h2:=Zk g fs[k] e.2;omega
 .have:=znM g fs[k] he;have h1:=h.le e.1;have h2:=h.le e.2;omega
structure RR (fs:List Fact) (n:Nat) (m g:Nat->Nat) (r:Nat):Prop where
 on:mR (mM fs) n g
 done:n<=AA m g n\/r<=AA m g n
theorem RR.start (fs:List Fact) (n:Nat) (m:Nat->Nat):RR fs n m (fun i=>i) 0:=⟨mR.start _ _,.inr (Nat.zero_le _)⟩
theorem RD.next {fs:List Fact} {n:Nat} {m g0 g:Nat->Nat} {r:Nat} (hm:bH (mM fs) n m) (hE:∀ e∈mM fs,e.1 < n/\e.2 < n) (h0:RR fs n m g0 r) (h:RD fs n g0 g fs.length):RR fs n m g (r+1):=by
 have hed:=h.ed;rw [zj4] at hed;rcases znJ hm hE h0.on h.on (fun i _=>h.le i) hed with h1|h1
 .exact ⟨h.on,.inl h1⟩
 .refine ⟨h.on,?_⟩
  have:=zl7 m g n;rcases h0.done with h2|h2
  .left;omega
  .right;omega
theorem RR.all {fs:List Fact} {n:Nat} {m g:Nat->Nat} (h:RR fs n m g n):∀ i,i < n->g i=m i:=zqs (by rcases h.done with h|h<;>exact h)
theorem znt {g g':Nat->Nat} {n:Nat} (h:∀ i,i < n->g i=g' i):bG g n=bG g' n:=by
 refine List.ext_getElem (by simp [zT]) fun j h1 h2=>?_
 rw [zT] at h1;rw [sP,sP,h j h1]
theorem zrD {fs:List Fact} {n:Nat} (h:∀ f∈fs,qh f n=true):∀ e∈mM fs,e.1 < n/\e.2 < n:=fun e he=>by
 obtain ⟨f,hf,he⟩:=List.mem_flatMap.1 he;have h1:=(vR _ _).1 (h f hf);unfold AB at he;rcases List.mem_cons.1 he with rfl|he
 .simp only;omega
 .by_cases hk:f.kind=2
  .rw [if_pos hk] at he;simp at he;subst he;have:=h1.2.2.2.2.2.1 hk;simp only;omega
  .rw [if_neg hk] at he;simp at he
theorem zqp {g:Nat->Nat} {f:Fact} {N a b lo:Nat} (ha:f.a=a) (hb:f.b=b) (hk:f.kind≠2) (hl:om g f=lo):((bG g N).set a lo).set b lo=bG (stepG g f) N:=by
 have ea:f.a.toNat=a:=by omega
 have eb:f.b.toNat=b:=by omega
 refine List.ext_getElem (by simp [zT]) fun j h1 h2=>?_
 rw [List.getElem_set,List.getElem_set,sP,sP];unfold stepG;simp only [hk,false_and,or_false,hl,ea,eb]
 by_cases e1:b=j
 .subst e1;simp
 .by_cases e2:a=j
  .subst e2;simp
  .have h1:¬ (j=a\/j=b):=by omega
   simp only [e1,e2,h1,if_false]
theorem zpj {g:Nat->Nat} {f:Fact} {N a b c lo:Nat} (ha:f.a=a) (hb:f.b=b) (hc:f.c=c) (hk:f.kind=2) (hl:om g f=lo):(((bG g N).set c lo).set a lo).set b lo=bG (stepG g f) N:=by
 have ea:f.a.toNat=a:=by omega
 have eb:f.b.toNat=b:=by omega
 have ec:f.c.toNat=c:=by omega
 refine List.ext_getElem (by simp [zT]) fun j h1 h2=>?_
 rw [List.getElem_set,List.getElem_set,List.getElem_set,sP,sP];unfold stepG;simp only [hk,true_and,hl,ea,eb,ec]
 by_cases e1:b=j
 .subst e1;simp
 .by_cases e2:a=j
  .subst e2;simp
  .by_cases e3:c=j
   .subst e3;simp
   .have h1:¬ (j=a\/j=b\/j=c):=by omega
    simp only [e1,e2,e3,h1,if_false]
theorem zpH (i:Nat):bG (fun j=>j) (i+1)=bG (fun j=>j) i++[(i:Int)]:=by
 unfold bG;rw [List.range_succ,List.map_append];rfl
theorem sh83:G.shared 83=false:=by decide
theorem e83 (n:Nat) (p:Problem) (ok:ak p) (m:Nat->Nat) (hm:bH (mM p.facts.xs) p.boxes.xs.length m):zF G (n+1) 83 [.agg p.cells]=some ((Sl.of (bG m p.boxes.xs.length)).pv aF 1):=by
 refine zy (zx _) rfl g83 rfl ?_
 obtain ⟨bs,fs⟩:=p;have nb:bs.xs.length<=12:=ok.nb;have nf:fs.xs.length<=60:=ok.nf;have Db:Hide (∀ f∈fs.xs,qh f bs.xs.length=true):=⟨ok.fact⟩
 have KD:=Hide.mk hm;clear hm ok;simp only at KD ⊢;obtain ⟨N,hN⟩:∃ N,N=bs.xs.length:=⟨_,rfl⟩
 rw [<- hN] at nb Db KD ⊢;have hN':=hN.symm;clear hN;have hE:=Hide.mk (zrD Db.h);(repeat' first|simp [*,zb,c83,Problem.cells]|(apply za<;>intro _ h<;>try simp [-Nat.le_zero_eq] at h)|(show wpE 0 (zh ..) ..;refine zm ?_)|(refine ze fun v2 H2 aV aD ae af ai aj=>?_))
 refine zA [(3,4),(9,19)] (fun (i:Nat) env H=>env 4=.pure (.int .i64 i)/\i<=N/\∃ v,env 3=v/\Hide (aC aF 1 H v (bG (fun j=>j) i))) (fun i=>N - i) 0 ?_ ?_ ?_ ?_
 .decide
 .exact ⟨by simp,by omega,_,by simp,⟨aC.nil⟩⟩
 .simp only [zz];omega
 rintro i env H ⟨g28,hi,v,g3,hV⟩;have bn:=hV.h.1.one
 by_cases aK:i < N
 .have w1:IntKind.i64.wrap ((i:Int)+1)=(i+1:Nat):=by rw [wrap64 (by omega) (by omega)];omega
  have jM:(i:Int) < N:=by omega
  (repeat' first|simp [*,zb]|(apply za<;>intro _ h<;>try simp [-Nat.le_zero_eq] at h)|(show wpE 0 (zh ..) ..;refine zm ?_)|(refine ze fun v2 H2 aV aD ae af ai aj=>?_))
  refine Fp (hV.h.alloc _) (fun _=>rfl) (by decide) (fun _=>rfl) (by rw [zT];unfold zu;omega) ⟨(i:Int),by simp [aF],?_⟩
  intro u4 H4 j5 ha;rw [<- zpH] at j5;have Zl:=Hide.mk j5;clear j5 ha hV bn;(repeat' first|simp [*,zb]|(apply za<;>intro _ h<;>try simp [-Nat.le_zero_eq] at h)|(show wpE 0 (zh ..) ..;refine zm ?_)|(refine ze fun v2 H2 aV aD ae af ai aj=>?_));exact ⟨i+1,by omega,by omega,by omega,Zl⟩
 .have qy:i=N:=by omega
  subst qy
  by_cases YZ:i=0
  .subst YZ;have hv:v=.pure .nils:=hV.h.2 rfl;have wE:(Sl.of (bG m 0)).pv aF 1=.nils:=rfl;subst hv;clear hV bn;(repeat' first|simp [*,zb]|(apply za<;>intro _ h<;>try simp [-Nat.le_zero_eq] at h)|(show wpE 0 (zh ..) ..;refine zm ?_)|(refine ze fun v2 H2 aV aD ae af ai aj=>?_))
   refine zA [(5,8),(20,74)] (fun (u:Unit) env H=>env 5=.pure (.int .i64 0)) (fun u=>0) () ?_ ?_ ?_ ?_
   .decide
   .simp
   .simp only [zz];omega
   rintro u env H g5;simp [*,zb]
  .obtain ⟨id,rfl,hg⟩:=hV.h.1.row (by intro h;have:=congrArg List.length h;rw [zT] at this;simp at this;omega);rw [zT] at *;have aB:=zo hg;have hR:=Hide.mk (RR.start fs.xs i m);clear hV bn aK;(repeat' first|simp [*,zb]|(apply za<;>intro _ h<;>try simp [-Nat.le_zero_eq] at h)|(show wpE 0 (zh ..) ..;refine zm ?_)|(refine ze fun v2 H2 aV aD ae af ai aj=>?_))
   refine zA [(5,8),(20,74)] (fun (r:Nat) env H=>env 5=.pure (.int .i64 r)/\r<=i/\id < H.nx/\∃ g,H.get id=.cells true (zq aF (bG g i))/\Hide (RR fs.xs i m g r)) (fun r=>i - r) 0 ?_ ?_ ?_ ?_
   .decide
   .exact ⟨by simp,by omega,aB,_,hg,hR⟩
   .simp only [zz];omega
   clear hR hg aB;rintro r env H ⟨g5,hr,aB,g0,hg,hR⟩
   by_cases hrl:r < i
   .have w1:IntKind.i64.wrap ((r:Int)+1)=(r+1:Nat):=by rw [wrap64 (by omega) (by omega)];omega
    have hrI:(r:Int) < i:=by omega
    have hD0:=Hide.mk (RD.start hR.h.on);(repeat' first|simp [*,zb]|(apply za<;>intro _ h<;>try simp [-Nat.le_zero_eq] at h)|(show wpE 0 (zh ..) ..;refine zm ?_)|(refine ze fun v2 H2 aV aD ae af ai aj=>?_))
    refine zA [(6,8),(27,74)] (fun (k:Nat) env H=>env 6=.pure (.int .i64 k)/\k<=fs.xs.length/\id < H.nx/\∃ g,H.get id=.cells true (zq aF (bG g i))/\Hide (RD fs.xs i g0 g k)) (fun k=>fs.xs.length - k) 0 ?_ ?_ ?_ ?_
    .decide
    .exact ⟨by simp,by omega,aB,_,hg,hD0⟩
    .simp only [zz];omega
    have g5':=g5;clear hD0 hg aB g5;rintro k env H ⟨g6,hk,aB,g,hg,hD⟩
    by_cases Eu:k < fs.xs.length
    .have w2:IntKind.i64.wrap ((k:Int)+1)=(k+1:Nat):=by rw [wrap64 (by omega) (by omega)];omega
     have Hu:(k:Int) < fs.xs.length:=by omega
     have hf:=(vR _ _).1 (Db.h fs.xs[k] (List.getElem_mem Eu));obtain ⟨a,ha⟩:∃ a:Nat,fs.xs[k].a=a:=⟨fs.xs[k].a.toNat,by omega⟩
     obtain ⟨b,hb⟩:∃ b:Nat,fs.xs[k].b=b:=⟨fs.xs[k].b.toNat,by omega⟩
     have Gp:a < i:=by omega
     have Qd:b < i:=by omega
     have haI:(a:Int) < i:=by omega
     have hbI:(b:Int) < i:=by omega
     have bC:id≠H.nx:=by omega
     have oh:H.nx≠id:=by omega
     have sH:id < H.nx+1:=by omega
     have hl:=zT g i;have ga:=sP (g:=g) (n:=i) (i:=a) (by rw [hl];exact Gp);have gb:=sP (g:=g) (n:=i) (i:=b) (by rw [hl];exact Qd);have ra:=Lx (own:=true) (f:=aF) (l:=bG g i) (i:=a) (fun _=>rfl) (by rw [hl];exact Gp);have rb:=Lx (own:=true) (f:=aF) (l:=bG g i) (i:=b) (fun _=>rfl) (by rw [hl];exact Qd);rw [ga] at ra;rw [gb] at rb;obtain ⟨lo,iG⟩:∃ lo:Nat,om g fs.xs[k]=lo:=⟨_,rfl⟩
     by_cases nM:fs.xs[k].kind=2
     .have pF:=hf.2.2.2.2.2.1 nM;obtain ⟨c,hc⟩:∃ c:Nat,fs.xs[k].c=c:=⟨fs.xs[k].c.toNat,by omega⟩
      have SS:c < i:=by omega
      have hcI:(c:Int) < i:=by omega
      have gc:=sP (g:=g) (n:=i) (i:=c) (by rw [hl];exact SS);have rc:=Lx (own:=true) (f:=aF) (l:=bG g i) (i:=c) (fun _=>rfl) (by rw [hl];exact SS);rw [gc] at rc;simp only [aF,List.map] at ra rb rc;have p1:=PZ (l:=bG g i) (i:=c) (x:=lo) (by rw [hl];exact SS);have p2:=PZ (l:=(bG g i).set c lo) (i:=a) (x:=lo) (by rw [List.length_set,hl];exact Gp);have p3:=PZ (l:=((bG g i).set c lo).set a lo) (i:=b) (x:=lo) (by rw [List.length_set,List.length_set,hl];exact Qd);rw [zpj ha hb hc nM iG] at p3;have m1:min (min (g a:Int) (g b:Int)) (g c:Int)=(lo:Int):=by
       unfold om at iG;rw [if_pos nM,ha,hb,hc] at iG;simp only [Int.toNat_natCast] at iG;omega
      have hD2:=Hide.mk (hD.h.step Eu (by omega) (by omega) (fun _=>by omega));clear hf pF hl ga gb gc hD iG Db;(repeat' first|simp [*,zb,Fact.cells]|(apply za<;>intro _ h<;>try simp [-Nat.le_zero_eq] at h)|(show wpE 0 (zh ..) ..;refine zm ?_)|(refine ze fun v2 H2 aV aD ae af ai aj=>?_));exact ⟨k+1,by omega,by omega,by omega,_,rfl,hD2⟩
     .simp only [aF,List.map] at ra rb;have p2:=PZ (l:=bG g i) (i:=a) (x:=lo) (by rw [hl];exact Gp);have p3:=PZ (l:=(bG g i).set a lo) (i:=b) (x:=lo) (by rw [List.length_set,hl];exact Qd);rw [zqp ha hb nM iG] at p3;have m1:min (g a:Int) (g b:Int)=(lo:Int):=by
       unfold om at iG;rw [if_neg nM,ha,hb] at iG;simp only [Int.toNat_natCast] at iG;omega
      have hD2:=Hide.mk (hD.h.step Eu (by omega) (by omega) (fun h=>absurd h nM));clear hf hl ga gb hD iG Db;(repeat' first|simp [*,zb,Fact.cells]|(apply za<;>intro _ h<;>try simp [-Nat.le_zero_eq] at h)|(show wpE 0 (zh ..) ..;refine zm ?_)|(refine ze fun v2 H2 aV aD ae af ai aj=>?_));exact ⟨k+1,by omega,by omega,by omega,_,rfl,hD2⟩
    .have Vw:k=fs.xs.length:=by omega
     subst Vw;have jk:=Hide.mk (hD.h.next KD.h hE.h hR.h);clear hD hR;(repeat' first|simp [*,zb]|(apply za<;>intro _ h<;>try simp [-Nat.le_zero_eq] at h)|(show wpE 0 (zh ..) ..;refine zm ?_)|(refine ze fun v2 H2 aV aD ae af ai aj=>?_));exact ⟨r+1,by omega,by omega,by omega,_,rfl,jk⟩
   .have hri:r=i:=by omega
    subst hri;have he:bG g0 r=bG m r:=znt hR.h.all;rw [he] at hg;have bD:=Hide.mk (sI (n:=10) (f:=aF) (sz:=1) (fun _=>rfl) hg (zT _ _));have e2:(Sl.of (bG m r)).pv aF 1=(Sl.mk false (bG m r)).pv aF 1:=by
     have:bG m r≠[]:=by intro h;have:=congrArg List.length h;rw [zT] at this;simp at this;omega
     cases hx:bG m r with
     | nil=>exact absurd hx this
     | cons x xs=>rfl
    rw [e2];clear hR he e2;(repeat' first|simp [*,zb]|(apply za<;>intro _ h<;>try simp [-Nat.le_zero_eq] at h)|(show wpE 0 (zh ..) ..;refine zm ?_)|(refine ze fun v2 H2 aV aD ae af ai aj=>?_));exact bD.h
theorem sh41:G.shared 41=false:=by decide
theorem e41 (n:Nat) (p:Problem) (ok:ak p) (m:Nat->Nat) (hm:bH (mM p.facts.xs) p.boxes.xs.length m):zF G (n+2) 41 [.agg p.cells]=some (Qc (zK m p.boxes.xs.length)):=by
 refine zy (zx _) rfl g41 rfl ?_
 have nb:p.boxes.xs.length<=12:=ok.nb;obtain ⟨i,hN⟩:∃ N,N=p.boxes.xs.length:=⟨_,rfl⟩
 have bW:=fun H=>zf (G:=G) (n:=n+1) (H:=H) (caps:=[]) (ps:=[.agg p.cells]) sh83 (e83 n p ok m hm);rw [<- hN] at nb bW ⊢;obtain ⟨s,hs⟩:∃ s:Sl Int,Sl.of (bG m i)=s:=⟨_,rfl⟩
 have Bd:s.xs=bG m i:=by rw [<- hs,Sl.fP]
 rw [hs] at bW;have Ah:s.xs.length=i:=by rw [Bd,zT]
 have hsg:Hide (∀ j (h:j < s.xs.length),s.xs[j]=(m j:Int)):=⟨fun j h=>by simp only [Bd,sP]⟩
 clear hN hs Bd hm ok;simp only [Problem.cells,List.map] at bW;have o9:FC m i i=zK m i:=rfl;have Jj:=Hide.mk (Ac.nil 0 Heap.empty);rw [<- o9];clear o9;(repeat' first|simp [*,zb,c41,Problem.cells]|(apply za<;>intro _ h<;>try simp [-Nat.le_zero_eq] at h)|(show wpE 0 (zh ..) ..;refine zm ?_)|(refine ze fun v2 H2 aV aD ae af ai aj=>?_));clear bW
 refine zA [(4,7),(10,42)] (fun (t:Nat) env H=>env 5=.pure (.int .i64 t)/\t<=i/\∃ v,env 4=v/\Hide (Ac 0 H v (FC m i t))) (fun t=>i - t) 0 ?_ ?_ ?_ ?_
 .decide
 .exact ⟨by simp,by omega,_,by simp,Jj⟩
 .simp only [zz];omega
 clear Jj;rintro t env H ⟨g52,ht,v,g8,hP⟩
 by_cases qx:t < i
 .have w1:IntKind.i64.wrap ((t:Int)+1)=(t+1:Nat):=by rw [wrap64 (by omega) (by omega)];omega
  have FY:(t:Int) < i:=by omega
  have htx:t < s.xs.length:=by omega
  have gt:=hsg.h t htx
  by_cases e:m t=t
  .have eI:(m t:Int)=(t:Int):=by rw [e]
   have Ec:aC aF 1 H (.pure .nils) (zL (AO m t 0)):=aC.nil;have Ec:=Hide.mk Ec;(repeat' first|simp [*,zb]|(apply za<;>intro _ h<;>try simp [-Nat.le_zero_eq] at h)|(show wpE 0 (zh ..) ..;refine zm ?_)|(refine ze fun v2 H2 aV aD ae af ai aj=>?_));clear eI gt
   refine zA [(6,7),(22,37)] (fun (j:Nat) env H2=>env 7=.pure (.int .i64 j)/\j<=i/\H.nx<=H2.nx/\Hide (∀ c,c < H.nx->H2.get c=H.get c)/\∃ u,env 6=u/\Hide (aC aF 1 H2 u (zL (AO m t j))/\∀ id,Names u id->H.nx<=id)) (fun j=>i - j) 0 ?_ ?_ ?_ ?_
   .decide
   .exact ⟨by simp,by omega,Nat.le_refl _,⟨fun _ _=>rfl⟩,_,by simp,⟨Ec.h,fun id ⟨_,_,_,h⟩=>by simp at h⟩⟩
   .simp only [zz];omega
   clear Ec;have g52':=g52;rintro j env H2 ⟨g63,hj,aD,ah,u,g10,hU⟩;have bn:=hU.h.1.1.one
   by_cases iX:j < i
   .have w2:IntKind.i64.wrap ((j:Int)+1)=(j+1:Nat):=by rw [wrap64 (by omega) (by omega)];omega
    have SX:(j:Int) < i:=by omega
    have SY:j < s.xs.length:=by omega
    have gj:=hsg.h j SY
    by_cases ej:m j=t
    .have eJ:(m j:Int)=(t:Int):=by rw [ej]
     (repeat' first|simp [*,zb]|(apply za<;>intro _ h<;>try simp [-Nat.le_zero_eq] at h)|(show wpE 0 (zh ..) ..;refine zm ?_)|(refine ze fun v2 H2 aV aD ae af ai aj=>?_))
     refine Fp (hU.h.1.alloc _) (fun _=>rfl) (by decide) (fun _=>rfl) (by rw [z8];have:=zf8 m t j;unfold zu;omega) ⟨(j:Int),by simp [aF],?_⟩
     intro u4 H4 j5 ha;have Qg:Hide (aC aF 1 H4 u4 (zL (AO m t (j+1)))/\∀ id,Names u4 id->H.nx<=id):=⟨by rw [YQ,if_pos ej];simpa [zL] using j5,fun id hn=>by have:=ha.new id hn;simp at this;omega⟩
     have hs4:Hide (∀ c,c < H.nx->H4.get c=H.get c):=⟨fun c hc=>by rw [ha.get c (by simp;omega) (fun hn=>by have:=hU.h.2 c hn;omega),zi (by omega)];exact ah.h c hc⟩
     have Vi:H.nx<=H4.nx:=by have:=ha.nx;simp at this;omega
     clear j5 ha hU ah bn gj eJ;(repeat' first|simp [*,zb]|(apply za<;>intro _ h<;>try simp [-Nat.le_zero_eq] at h)|(show wpE 0 (zh ..) ..;refine zm ?_)|(refine ze fun v2 H2 aV aD ae af ai aj=>?_));exact ⟨j+1,by omega,by omega,by omega,Qg⟩
    .have eJ:¬ (m j:Int)=(t:Int):=by omega
     have vU:=hU.h;rw [show AO m t j=AO m t (j+1) by rw [YQ,if_neg ej]] at vU;have hU3:=Hide.mk vU;clear vU hU;(repeat' first|simp [*,zb]|(apply za<;>intro _ h<;>try simp [-Nat.le_zero_eq] at h)|(show wpE 0 (zh ..) ..;refine zm ?_)|(refine ze fun v2 H2 aV aD ae af ai aj=>?_));exact ⟨j+1,by omega,by omega,by omega,hU3⟩
   .have Aw:j=i:=by omega
    have vU:=hU.h;rw [Aw] at vU;have Qh:AO m t i=nZ m i t:=rfl;rw [Qh] at vU;have bC:zL (nZ m i t)≠[]:=by
     intro h;have h2:nZ m i t=[]:=by simpa [zL] using h
     have h3:t∈nZ m i t:=by simp [nZ,qx,e]
     rw [h2] at h3;simp at h3
    obtain ⟨id,rfl,vk⟩:=vU.1.1.row bC;have Bv:=vU.2 id ⟨_,_,_,rfl⟩;have Lj:¬ (j:Int) < i:=by omega
    have Jh:=ah.h;have jD:=zo vk;have vT:=Hide.mk vk;have hel2:=z8 (nZ m i t);clear hU vU ah Aw vk bn Qh bC;(repeat' first|simp [*,zb]|(apply za<;>intro _ h<;>try simp [-Nat.le_zero_eq] at h)|(show wpE 0 (zh ..) ..;refine zm ?_)|(refine ze fun v2 H2 aV aD ae af ai aj=>?_))
    refine zgB (B:=0) (id:=id) (l:=nZ m i t) (hP.h.keep fun c _ hc=>by rw [zi (by omega)];exact Jh c hc) (by omega) (by simp [z8]) (by omega) (fun h=>by have:=hP.h.lt h;omega) (by rw [zi jD];exact vT.h) (by have:=zfr m i t;unfold zu;omega) ?_
    intro v4 H4 Vx LV e01;have hP5:Hide (Ac 0 H4 v4 (FC m i (t+1))):=⟨by rw [YR,if_pos e];exact Vx⟩
    clear Vx e01 hP vT Jh;(repeat' first|simp [*,zb]|(apply za<;>intro _ h<;>try simp [-Nat.le_zero_eq] at h)|(show wpE 0 (zh ..) ..;refine zm ?_)|(refine ze fun v2 H2 aV aD ae af ai aj=>?_));exact ⟨t+1,by omega,by omega,by omega,hP5⟩
  .have eI:¬ (m t:Int)=(t:Int):=by omega
   have rV:Hide (Ac 0 H v (FC m i (t+1))):=⟨by rw [YR,if_neg e];exact hP.h⟩
   clear hP;(repeat' first|simp [*,zb]|(apply za<;>intro _ h<;>try simp [-Nat.le_zero_eq] at h)|(show wpE 0 (zh ..) ..;refine zm ?_)|(refine ze fun v2 H2 aV aD ae af ai aj=>?_));exact ⟨t+1,by omega,by omega,by omega,rV⟩
 .have Oc:t=i:=by omega
  subst Oc;have bD:=Hide.mk hP.h.res;clear hP;(repeat' first|simp [*,zb]|(apply za<;>intro _ h<;>try simp [-Nat.le_zero_eq] at h)|(show wpE 0 (zh ..) ..;refine zm ?_)|(refine ze fun v2 H2 aV aD ae af ai aj=>?_));exact bD.h
theorem sh85:G.shared 85=false:=by decide
theorem e85 (n:Nat) (b:Box) (hv:mJ b=true):zF G (n+1) 85 [.agg b.cells]=some (.int .i64 (oq b)):=by
 refine zy (zx _) rfl g85 rfl ?_
 have wG:=aH.1 hv;have w1:IntKind.i64.wrap (b.x.hi - b.x.lo)=b.x.hi - b.x.lo:=wrap64 (by omega) (by omega);have w2:IntKind.i64.wrap (b.x.hi - b.x.lo+1)=b.x.hi - b.x.lo+1:=wrap64 (by omega) (by omega);have w3:IntKind.i64.wrap (b.y.hi - b.y.lo)=b.y.hi - b.y.lo:=wrap64 (by omega) (by omega);have w4:IntKind.i64.wrap (b.y.hi - b.y.lo+1)=b.y.hi - b.y.lo+1:=wrap64 (by omega) (by omega);have w5:IntKind.i64.wrap ((b.x.hi - b.x.lo+1)*(b.y.hi - b.y.lo+1))=(b.x.hi - b.x.lo+1)*(b.y.hi - b.y.lo+1):=zkG (by clear w1 w2 w3 w4;omega) (by clear w1 w2 w3 w4;omega) (by clear w1 w2 w3 w4;omega) (by clear w1 w2 w3 w4;omega);clear wG hv;simp [*,zb,c85,Box.cells,Span.cells,oq]
def QL (f:Fact) (i:Int):Bool:=decide (f.a=i)||decide (f.b=i)||(decide (f.kind=2)&&decide (f.c=i))
def MZ (fs:List Fact) (i:Int):Bool:=fs.any fun f=>QL f i
def ztP (fs:List Fact) (i:Int) (k:Nat):Prop:=∀ j (h:j < fs.length),j < k->QL fs[j] i=false
theorem sh84:G.shared 84=false:=by decide
theorem e84 (n:Nat) (p:Problem) (i:Int) (hl:p.facts.xs.length<=60):zF G (n+1) 84 [.agg p.cells,.int .i64 i]=some (.bool (MZ p.facts.xs i)):=by
 refine zy (zx _) rfl g84 rfl ?_
 obtain ⟨bs,fs⟩:=p;generalize hR:MZ fs.xs i=R;have hR:=Hide.mk hR;have hl:fs.xs.length<=60:=hl;(repeat' first|simp [*,zb,c84,Problem.cells]|(apply za<;>intro _ h<;>try simp [-Nat.le_zero_eq] at h))
 refine zA [(4,39)] (fun (k:Nat) env H=>env 5=.pure (.int .i64 k)/\k<=fs.xs.length/\Hide (ztP fs.xs i k)) (fun k=>fs.xs.length - k) 0 ?_ ?_ ?_ ?_
 .decide
 .exact ⟨by simp,by omega,⟨fun _ _ h=>by omega⟩⟩
 .simp only [zz];omega
 rintro k env H ⟨g0,hi,hn⟩
 by_cases aK:k < fs.xs.length
 .have w1:IntKind.i64.wrap ((k:Int)+1)=(k+1:Nat):=by rw [wrap64 (by omega) (by omega)];omega
  have jM:(k:Int) < fs.xs.length:=by omega
  cases hf:QL fs.xs[k] i with
  | true =>
   have Ea:R=true:=by rw [<- hR.h];exact List.any_eq_true.2 ⟨_,List.getElem_mem aK,hf⟩
   unfold QL at hf;clear hn hR;subst Ea;simp only [Bool.or_eq_true,Bool.and_eq_true,decide_eq_true_eq] at hf
   by_cases e1:fs.xs[k].a=i
   .clear hf;simp [*,zb,Fact.cells]
   .by_cases e2:fs.xs[k].b=i
    .clear hf;simp [*,zb,Fact.cells]
    .have e3:fs.xs[k].kind=2:=by omega
     have e4:fs.xs[k].c=i:=by omega
     clear hf;simp [*,zb,Fact.cells]
  | false =>
   have jc:Hide (ztP fs.xs i (k+1)):=⟨fun j h hj=>by
    by_cases e:j=k
    .subst e;exact hf
    .exact hn.h j h (by omega)⟩
   unfold QL at hf;clear hn hR;simp only [Bool.or_eq_false_iff,Bool.and_eq_false_iff,decide_eq_false_iff_not] at hf;have e1:¬ fs.xs[k].a=i:=by omega
   have e2:¬ fs.xs[k].b=i:=by omega
   by_cases e3:fs.xs[k].kind=2
   .have e4:¬ fs.xs[k].c=i:=by omega
    clear hf;(repeat' first|simp [*,zb,Fact.cells]|(apply za<;>intro _ h<;>try simp [-Nat.le_zero_eq] at h));exact ⟨k+1,by omega,by omega,by omega,jc⟩
   .clear hf;(repeat' first|simp [*,zb,Fact.cells]|(apply za<;>intro _ h<;>try simp [-Nat.le_zero_eq] at h));exact ⟨k+1,by omega,by omega,by omega,jc⟩
 .have aT:k=fs.xs.length:=by omega
  subst aT;have Ea:R=false:=by
   rw [<- hR.h,<- Bool.not_eq_true];intro h;obtain ⟨f,hf,h⟩:=List.any_eq_true.1 h;obtain ⟨j,hj,rfl⟩:=List.mem_iff_getElem.1 hf;rw [hn.h j hj hj] at h;simp at h
  subst Ea;clear hn hR;simp [*,zb]
theorem sh42:G.shared 42=false:=by decide
theorem e42 (n:Nat) (p:Problem) (bs:Sl Box) (l:List Nat) (nf:p.facts.xs.length<=60) (nb:bs.xs.length<=12) (nl:l.length<=12) (GY:0 < l.length) (hb:∀ b∈bs.xs,mJ b=true) (Bw:∀ k∈l,k < bs.xs.length) (wC:MZ p.facts.xs (l[0]:Nat)=decide (1 < l.length)):zF G (n+2) 42 [.agg p.cells,bs.pv Box.cells 4,.agg (qz l)]=some (.int .i64 (iM bs.xs l)):=by
 refine zy (zx _) rfl g42 rfl ?_
 obtain ⟨k0,AX⟩:∃ k,l[0]=k:=⟨_,rfl⟩
 have c1:=fun H=>zf (G:=G) (n:=n+1) (H:=H) (caps:=[]) (ps:=[.agg p.cells,.int .i64 (k0:Int)]) sh84 (e84 n p (k0:Int) nf);rw [<- AX,wC] at c1;rw [AX] at c1;have har:Hide (∀ (k:Nat) (h:k < bs.xs.length) (H:Heap),zG (zt G (n+1)) H (.pure (.func 85 [])) [.pure (.agg bs.xs[k].cells)]=some (.val (.pure (.int .i64 (oq bs.xs[k]))))):=⟨fun k h H=>zf (caps:=[]) (ps:=[_]) sh85 (e85 n bs.xs[k] (hb _ (List.getElem_mem h)))⟩
 have ha:Hide (∀ k,k < bs.xs.length->1<=oq bs.xs[k]!):=⟨fun k h=>by
  have hv:=aH.1 (hb _ (List.getElem_mem h));rw [getElem!_pos bs.xs k h];exact Qb ⟨by omega,by omega⟩⟩
 have WH:=Hide.mk Bw;have e1:(zL l).length=l.length:=z8 l;have R8:0 < (zL l).length:=by rw [e1];exact GY
 have gj0:(zL l)[0]=(k0:Int):=by simp [zL,AX]
 have hl0I:(0:Int) < l.length:=by omega
 have Zm:yV 1 (.pure ((Sl.mk false (zL l)).pv aF 1)) (.pure (.int .i64 0))=some (.val (.pure (.ptr false [.int .i64 (k0:Int)] 0))):=by
  have:=pR (k:=.i64) (n:=0) (f:=aF) (sz:=1) (s:=Sl.mk false (zL l)) R8;simp only [Sl.bL,gj0,aF] at this;exact this
 simp only [Problem.cells,List.map] at c1;clear hb Bw wC AX
 by_cases Qi:1 < l.length
 .have hd:decide (1 < l.length)=true:=by simp [Qi]
  rw [hd] at c1;clear hd;have hvP:=Hide.mk (show iM bs.xs l=Ae bs.xs l l.length from (zky _ _).symm);(repeat' first|simp [*,zb,c42,qz,Problem.cells]|(apply za<;>intro _ h<;>try simp [-Nat.le_zero_eq] at h))
  refine zA [(8,9),(18,38)] (fun (j:Nat) env H=>env 9=.pure (.int .i64 j)/\j<=l.length/\∃ y:Int,env 8=.pure (.int .i64 y)/\Hide (y=Ae bs.xs l j)) (fun j=>l.length - j) 0 ?_ ?_ ?_ ?_
  .decide
  .exact ⟨by simp,by omega,1,by simp,⟨(ziW _ _).symm⟩⟩
  .simp only [zz];omega
  clear c1 Zm;rintro j env H ⟨g19,hj,y,g8,hy⟩
  by_cases iX:j < l.length
  .have w2:IntKind.i64.wrap ((j:Int)+1)=(j+1:Nat):=by rw [wrap64 (by omega) (by omega)];omega
   have SX:(j:Int) < l.length:=by omega
   have hk:=WH.h _ (List.getElem_mem iX);obtain ⟨k,wR⟩:∃ k,l[j]=k:=⟨_,rfl⟩
   rw [wR] at hk;have SY:j < (zL l).length:=by rw [e1];exact iX
   have gj:(zL l)[j]=(k:Int):=by simp [zL,wR]
   have Hu:(k:Int) < bs.xs.length:=by omega
   have c2:=har.h k hk;have hr:=zj5 ha.h WH.h j;rw [<- hy.h] at hr;have rY:=ha.h k hk;rw [getElem!_pos bs.xs k hk] at rY;obtain ⟨A,hA⟩:∃ A,oq bs.xs[k]=A:=⟨_,rfl⟩
   rw [hA] at c2 rY;obtain ⟨z,hz⟩:∃ z,min 65537 A=z:=⟨_,rfl⟩
   have hw:IntKind.i64.wrap (y*z)=y*z:=zkG (by omega) (by omega) (by omega) (by omega);have Vy:Hide (min (y*z) 65537=Ae bs.xs l (j+1)):=⟨by rw [ziP iX Qi,wR,getElem!_pos bs.xs k hk,hy.h,hA,<- hz,<- hy.h];exact zq9 hr.1 rY (by omega)⟩
   simp only [Box.cells,Span.cells] at c2;clear hr hy wR hA rY;(repeat' first|simp [*,zb,Box.cells,Span.cells]|(apply za<;>intro _ h<;>try simp [-Nat.le_zero_eq] at h));exact ⟨j+1,by omega,by omega,by omega,Vy⟩
  .have hjN:j=l.length:=by omega
   subst hjN;have yw:=hy.h;rw [<- hvP.h] at yw;subst yw;clear hy hvP;simp [*,zb]
 .have hd:decide (1 < l.length)=false:=by simp [Qi]
  rw [hd] at c1;have hv:iM bs.xs l=1:=by unfold iM;rw [if_neg Qi]
  rw [hv];clear hd hv;simp [*,zb,c42,qz,Problem.cells]
end Go.Proofs.YtmmhnfghklppiaaGreat.Vm
