/- Parts in the specification: the labels fall, round by round. Plain Lean, then the walk. Parts in the specification: classes, walked. Volumes of parts: the specification's, walked. -/
import Derived.Test.YtmmhnfghklppiaaGreatPk23
import Derived.Test.YtmmhnfghklppiaaGreatPk28
namespace Go.Proofs.YtmmhnfghklppiaaGreat.Vm
open Go
set_option linter.unusedSimpArgs false
set_option linter.unusedVariables false
set_option maxHeartbeats 4000000
set_option maxRecDepth 4000
def lowF (g:Nat->Nat) (f:Fact):Nat:=if f.kind=2 then min (min (g f.a.toNat) (g f.b.toNat)) (g f.c.toNat) else min (g f.a.toNat) (g f.b.toNat)
def stepG (g:Nat->Nat) (f:Fact):Nat->Nat:=fun i=>if i=f.a.toNat\/i=f.b.toNat\/(f.kind=2/\i=f.c.toNat) then lowF g f else g i
theorem znA (g:Nat->Nat) (f:Fact):lowF g f<=g f.a.toNat:=by unfold lowF;split<;>omega
theorem zr2 (g:Nat->Nat) (f:Fact):lowF g f<=g f.b.toNat:=by unfold lowF;split<;>omega
theorem zqJ (g:Nat->Nat) (f:Fact) (h:f.kind=2):lowF g f<=g f.c.toNat:=by unfold lowF;rw [if_pos h];omega
theorem zgp (g:Nat->Nat) (f:Fact) (i:Nat):stepG g f i<=g i:=by
 unfold stepG
 split
 ·rename_i h;rcases h with rfl|rfl|⟨h,rfl⟩
  ·exact znA g f
  ·exact zr2 g f
  ·exact zqJ g f h
 ·exact Nat.le_refl _
theorem znL (g:Nat->Nat) (f:Fact) {e:Nat×Nat} (he:e∈zbL f):stepG g f e.1<=g e.2/\stepG g f e.2<=g e.1:=by
 unfold zbL at he;rcases List.mem_cons.1 he with rfl|he
 ·have h1:stepG g f f.a.toNat=lowF g f:=by simp [stepG]
  have h2:stepG g f f.b.toNat=lowF g f:=by simp [stepG]
  simp only [h1,h2];exact ⟨zr2 g f,znA g f⟩
 ·by_cases hk:f.kind=2
  ·rw [if_pos hk] at he;simp at he;subst he;have h1:stepG g f f.a.toNat=lowF g f:=by simp [stepG]
   have h2:stepG g f f.c.toNat=lowF g f:=by simp [stepG,hk]
   simp only [h1,h2];exact ⟨zqJ g f hk,znA g f⟩
  ·rw [if_neg hk] at he;simp at he
theorem zph {E:List (Nat×Nat)} {n:Nat} {g:Nat->Nat} {f:Fact} (h:OnWay E n g) (he:∀ e∈zbL f,e∈E) (ha:f.a.toNat < n) (hb:f.b.toNat < n) (hc:f.kind=2->f.c.toNat < n):Conn E f.a.toNat (lowF g f):=by
 have eab:Conn E f.a.toNat f.b.toNat:=.edge (he _ (by simp [zbL]));have ca:=h.conn _ ha;have cb:=eab.trans (h.conn _ hb);have cab:Conn E f.a.toNat (min (g f.a.toNat) (g f.b.toNat)):=by
  rcases Nat.le_total (g f.a.toNat) (g f.b.toNat) with hl|hl
  ·rw [Nat.min_eq_left hl];exact ca
  ·rw [Nat.min_eq_right hl];exact cb
 unfold lowF
 split
 ·rename_i hk;have eac:Conn E f.a.toNat f.c.toNat:=.edge (he _ (by simp [zbL,hk]));have cc:=eac.trans (h.conn _ (hc hk));rcases Nat.le_total (min (g f.a.toNat) (g f.b.toNat)) (g f.c.toNat) with hl|hl
  ·rw [Nat.min_eq_left hl];exact cab
  ·rw [Nat.min_eq_right hl];exact cc
 ·exact cab
theorem OnWay.step {E:List (Nat×Nat)} {n:Nat} {g:Nat->Nat} {f:Fact} (h:OnWay E n g) (he:∀ e∈zbL f,e∈E) (ha:f.a.toNat < n) (hb:f.b.toNat < n) (hc:f.kind=2->f.c.toNat < n):OnWay E n (stepG g f):=by
 have hl:=zph h he ha hb hc;have eab:Conn E f.a.toNat f.b.toNat:=.edge (he _ (by simp [zbL]))
 refine ⟨fun i hi=>Nat.le_trans (zgp g f i) (h.le i hi),fun i hi=>?_⟩
 unfold stepG
 split
 ·rename_i hx;rcases hx with rfl|rfl|⟨hk,rfl⟩
  ·exact hl
  ·exact eab.symm.trans hl
  ·have eac:Conn E f.a.toNat f.c.toNat:=.edge (he _ (by simp [zbL,hk]));exact eac.symm.trans hl
 ·exact h.conn i hi
structure RD (fs:List Fact) (n:Nat) (g0 g:Nat->Nat) (k:Nat):Prop where
 on:OnWay (zak fs) n g
 le:∀ i,g i<=g0 i
 ed:∀ e∈zak (fs.take k),g e.1<=g0 e.2/\g e.2<=g0 e.1
theorem RD.start {fs:List Fact} {n:Nat} {g:Nat->Nat} (h:OnWay (zak fs) n g):RD fs n g g 0:=⟨h,fun _=>Nat.le_refl _,fun e he=>by simp [zak] at he⟩
theorem RD.step {fs:List Fact} {n:Nat} {g0 g:Nat->Nat} {k:Nat} (h:RD fs n g0 g k) (hk:k < fs.length) (ha:fs[k].a.toNat < n) (hb:fs[k].b.toNat < n) (hc:fs[k].kind=2->fs[k].c.toNat < n):RD fs n g0 (stepG g fs[k]) (k+1):=by
 refine ⟨h.on.step (fun e he=>List.mem_flatMap.2 ⟨_,List.getElem_mem hk,he⟩) ha hb hc,fun i=>Nat.le_trans (zgp _ _ i) (h.le i),fun e he=>?_⟩
 rw [zfL hk] at he;rcases List.mem_append.1 he with he|he
 ·have:=h.ed e he;have h1:=zgp g fs[k] e.1;have h2:=zgp g fs[k] e.2;omega
 ·have:=znL g fs[k] he;have h1:=h.le e.1;have h2:=h.le e.2;omega
structure RR (fs:List Fact) (n:Nat) (m g:Nat->Nat) (r:Nat):Prop where
 on:OnWay (zak fs) n g
 done:n<=zcC m g n\/r<=zcC m g n
theorem RR.start (fs:List Fact) (n:Nat) (m:Nat->Nat):RR fs n m (fun i=>i) 0:=⟨OnWay.start _ _,.inr (Nat.zero_le _)⟩
theorem RD.next {fs:List Fact} {n:Nat} {m g0 g:Nat->Nat} {r:Nat} (hm:IsCls (zak fs) n m) (hE:∀ e∈zak fs,e.1 < n/\e.2 < n) (h0:RR fs n m g0 r) (h:RD fs n g0 g fs.length):RR fs n m g (r+1):=by
 have hed:=h.ed;rw [zkh] at hed;rcases zm2 hm hE h0.on h.on (fun i _=>h.le i) hed with h1|h1
 ·exact ⟨h.on,.inl h1⟩
 ·refine ⟨h.on,?_⟩
  have:=zme m g n;rcases h0.done with h2|h2
  ·left;omega
  ·right;omega
theorem RR.all {fs:List Fact} {n:Nat} {m g:Nat->Nat} (h:RR fs n m g n):∀ i,i < n->g i=m i:=zpC (by rcases h.done with h|h<;>exact h)
theorem zn7 {g g':Nat->Nat} {n:Nat} (h:∀ i,i < n->g i=g' i):grpL g n=grpL g' n:=by
 refine List.ext_getElem (by simp [zR]) fun j h1 h2=>?_
 rw [zR] at h1;rw [zal,zal,h j h1]
theorem zrI {fs:List Fact} {n:Nat} (h:∀ f∈fs,zaa f n=true):∀ e∈zak fs,e.1 < n/\e.2 < n:=fun e he=>by
 obtain ⟨f,hf,he⟩:=List.mem_flatMap.1 he;have h1:=(z8 _ _).1 (h f hf);unfold zbL at he;rcases List.mem_cons.1 he with rfl|he
 ·simp only;omega
 ·by_cases hk:f.kind=2
  ·rw [if_pos hk] at he;simp at he;subst he;have:=h1.2.2.2.2.2.1 hk;simp only;omega
  ·rw [if_neg hk] at he;simp at he
theorem zpx {g:Nat->Nat} {f:Fact} {N a b lo:Nat} (ha:f.a=a) (hb:f.b=b) (hk:f.kind≠2) (hl:lowF g f=lo):((grpL g N).set a lo).set b lo=grpL (stepG g f) N:=by
 have ea:f.a.toNat=a:=by omega
 have eb:f.b.toNat=b:=by omega
 refine List.ext_getElem (by simp [zR]) fun j h1 h2=>?_
 rw [List.getElem_set,List.getElem_set,zal,zal];unfold stepG;simp only [hk,false_and,or_false,hl,ea,eb]
 by_cases e1:b=j
 ·subst e1;simp
 ·by_cases e2:a=j
  ·subst e2;simp
  ·have h1:¬ (j=a\/j=b):=by omega
   simp only [e1,e2,h1,if_false]
theorem zp8 {g:Nat->Nat} {f:Fact} {N a b c lo:Nat} (ha:f.a=a) (hb:f.b=b) (hc:f.c=c) (hk:f.kind=2) (hl:lowF g f=lo):(((grpL g N).set c lo).set a lo).set b lo=grpL (stepG g f) N:=by
 have ea:f.a.toNat=a:=by omega
 have eb:f.b.toNat=b:=by omega
 have ec:f.c.toNat=c:=by omega
 refine List.ext_getElem (by simp [zR]) fun j h1 h2=>?_
 rw [List.getElem_set,List.getElem_set,List.getElem_set,zal,zal];unfold stepG;simp only [hk,true_and,hl,ea,eb,ec]
 by_cases e1:b=j
 ·subst e1;simp
 ·by_cases e2:a=j
  ·subst e2;simp
  ·by_cases e3:c=j
   ·subst e3;simp
   ·have h1:¬ (j=a\/j=b\/j=c):=by omega
    simp only [e1,e2,e3,h1,if_false]
theorem zpz (i:Nat):grpL (fun j=>j) (i+1)=grpL (fun j=>j) i++[(i:Int)]:=by
 unfold grpL;rw [List.range_succ,List.map_append];rfl
theorem sh83:G.shared 83=false:=by decide
theorem e83 (n:Nat) (p:Problem) (ok:CheckOk p) (m:Nat->Nat) (hm:IsCls (zak p.facts.xs) p.boxes.xs.length m):zH G (n+1) 83 [.agg p.cells]=some ((Sl.of (grpL m p.boxes.xs.length)).pv intF 1):=by
 refine zy (zx _) rfl g83 rfl ?_
 obtain ⟨bs,fs⟩:=p;have nb:bs.xs.length<=12:=ok.nb;have nf:fs.xs.length<=60:=ok.nf;have hfm:Hide (∀ f∈fs.xs,zaa f bs.xs.length=true):=⟨ok.fact⟩
 have hmH:=Hide.mk hm;clear hm ok;simp only at hmH ⊢;obtain ⟨N,hN⟩:∃ N,N=bs.xs.length:=⟨_,rfl⟩
 rw [<- hN] at nb hfm hmH ⊢;have hN':=hN.symm;clear hN;have hE:=Hide.mk (zrI hfm.h);(repeat' first|simp [*,za,c83,Problem.cells]|(apply zb<;>intro _ h<;>try simp [-Nat.le_zero_eq] at h)|(show wpE 0 (zi ..) ..;refine zm ?_)|(refine zg fun v2 H2 hv2 hnx2 hget2 hnew2 hone2 hcel2=>?_))
 refine zB [(3,4),(9,19)] (fun (i:Nat) env H=>env 4=.pure (.int .i64 i)/\i<=N/\∃ v,env 3=v/\Hide (GrowV intF 1 H v (grpL (fun j=>j) i))) (fun i=>N - i) 0 ?_ ?_ ?_ ?_
 ·decide
 ·exact ⟨by simp,by omega,_,by simp,⟨GrowV.nil⟩⟩
 ·simp only [zz];omega
 rintro i env H ⟨g28,hi,v,g3,hV⟩;have hone:=hV.h.1.one
 by_cases hlt:i < N
 ·have w1:IntKind.i64.wrap ((i:Int)+1)=(i+1:Nat):=by rw [wrap64 (by omega) (by omega)];omega
  have hltI:(i:Int) < N:=by omega
  (repeat' first|simp [*,za]|(apply zb<;>intro _ h<;>try simp [-Nat.le_zero_eq] at h)|(show wpE 0 (zi ..) ..;refine zm ?_)|(refine zg fun v2 H2 hv2 hnx2 hget2 hnew2 hone2 hcel2=>?_))
  refine zaH (hV.h.alloc _) (fun _=>rfl) (by decide) (fun _=>rfl) (by rw [zR];unfold zu;omega) ⟨(i:Int),by simp [intF],?_⟩
  intro u4 H4 hg4 ha;rw [<- zpz] at hg4;have hg5:=Hide.mk hg4;clear hg4 ha hV hone;(repeat' first|simp [*,za]|(apply zb<;>intro _ h<;>try simp [-Nat.le_zero_eq] at h)|(show wpE 0 (zi ..) ..;refine zm ?_)|(refine zg fun v2 H2 hv2 hnx2 hget2 hnew2 hone2 hcel2=>?_));exact ⟨i+1,by omega,by omega,by omega,hg5⟩
 ·have hiN:i=N:=by omega
  subst hiN
  by_cases hN0:i=0
  ·subst hN0;have hv:v=.pure .nils:=hV.h.2 rfl;have hr0:(Sl.of (grpL m 0)).pv intF 1=.nils:=rfl;subst hv;clear hV hone;(repeat' first|simp [*,za]|(apply zb<;>intro _ h<;>try simp [-Nat.le_zero_eq] at h)|(show wpE 0 (zi ..) ..;refine zm ?_)|(refine zg fun v2 H2 hv2 hnx2 hget2 hnew2 hone2 hcel2=>?_))
   refine zB [(5,8),(20,74)] (fun (u:Unit) env H=>env 5=.pure (.int .i64 0)) (fun u=>0) () ?_ ?_ ?_ ?_
   ·decide
   ·simp
   ·simp only [zz];omega
   rintro u env H g5;(repeat' first|simp [*,za]|(apply zb<;>intro _ h<;>try simp [-Nat.le_zero_eq] at h)|(show wpE 0 (zi ..) ..;refine zm ?_)|(refine zg fun v2 H2 hv2 hnx2 hget2 hnew2 hone2 hcel2=>?_))
  ·obtain ⟨id,rfl,hg⟩:=hV.h.1.row (by intro h;have:=congrArg List.length h;rw [zR] at this;simp at this;omega);rw [zR] at *;have hid:=zo hg;have hR:=Hide.mk (RR.start fs.xs i m);clear hV hone hlt;(repeat' first|simp [*,za]|(apply zb<;>intro _ h<;>try simp [-Nat.le_zero_eq] at h)|(show wpE 0 (zi ..) ..;refine zm ?_)|(refine zg fun v2 H2 hv2 hnx2 hget2 hnew2 hone2 hcel2=>?_))
   refine zB [(5,8),(20,74)] (fun (r:Nat) env H=>env 5=.pure (.int .i64 r)/\r<=i/\id < H.nx/\∃ g,H.get id=.cells true (zn intF (grpL g i))/\Hide (RR fs.xs i m g r)) (fun r=>i - r) 0 ?_ ?_ ?_ ?_
   ·decide
   ·exact ⟨by simp,by omega,hid,_,hg,hR⟩
   ·simp only [zz];omega
   clear hR hg hid;rintro r env H ⟨g5,hr,hid,g0,hg,hR⟩
   by_cases hrl:r < i
   ·have w1:IntKind.i64.wrap ((r:Int)+1)=(r+1:Nat):=by rw [wrap64 (by omega) (by omega)];omega
    have hrI:(r:Int) < i:=by omega
    have hD0:=Hide.mk (RD.start hR.h.on);(repeat' first|simp [*,za]|(apply zb<;>intro _ h<;>try simp [-Nat.le_zero_eq] at h)|(show wpE 0 (zi ..) ..;refine zm ?_)|(refine zg fun v2 H2 hv2 hnx2 hget2 hnew2 hone2 hcel2=>?_))
    refine zB [(6,8),(27,74)] (fun (k:Nat) env H=>env 6=.pure (.int .i64 k)/\k<=fs.xs.length/\id < H.nx/\∃ g,H.get id=.cells true (zn intF (grpL g i))/\Hide (RD fs.xs i g0 g k)) (fun k=>fs.xs.length - k) 0 ?_ ?_ ?_ ?_
    ·decide
    ·exact ⟨by simp,by omega,hid,_,hg,hD0⟩
    ·simp only [zz];omega
    have g5':=g5;clear hD0 hg hid g5;rintro k env H ⟨g6,hk,hid,g,hg,hD⟩
    by_cases hkl:k < fs.xs.length
    ·have w2:IntKind.i64.wrap ((k:Int)+1)=(k+1:Nat):=by rw [wrap64 (by omega) (by omega)];omega
     have hkI:(k:Int) < fs.xs.length:=by omega
     have hf:=(z8 _ _).1 (hfm.h fs.xs[k] (List.getElem_mem hkl));obtain ⟨a,ha⟩:∃ a:Nat,fs.xs[k].a=a:=⟨fs.xs[k].a.toNat,by omega⟩
     obtain ⟨b,hb⟩:∃ b:Nat,fs.xs[k].b=b:=⟨fs.xs[k].b.toNat,by omega⟩
     have haN:a < i:=by omega
     have hbN:b < i:=by omega
     have haI:(a:Int) < i:=by omega
     have hbI:(b:Int) < i:=by omega
     have hne:id≠H.nx:=by omega
     have hne2:H.nx≠id:=by omega
     have hid1:id < H.nx+1:=by omega
     have hl:=zR g i;have ga:=zal (g:=g) (n:=i) (i:=a) (by rw [hl];exact haN);have gb:=zal (g:=g) (n:=i) (i:=b) (by rw [hl];exact hbN);have ra:=zbf (own:=true) (f:=intF) (l:=grpL g i) (i:=a) (fun _=>rfl) (by rw [hl];exact haN);have rb:=zbf (own:=true) (f:=intF) (l:=grpL g i) (i:=b) (fun _=>rfl) (by rw [hl];exact hbN);rw [ga] at ra;rw [gb] at rb;obtain ⟨lo,hlo⟩:∃ lo:Nat,lowF g fs.xs[k]=lo:=⟨_,rfl⟩
     by_cases hk2:fs.xs[k].kind=2
     ·have hf2:=hf.2.2.2.2.2.1 hk2;obtain ⟨c,hc⟩:∃ c:Nat,fs.xs[k].c=c:=⟨fs.xs[k].c.toNat,by omega⟩
      have hcN:c < i:=by omega
      have hcI:(c:Int) < i:=by omega
      have gc:=zal (g:=g) (n:=i) (i:=c) (by rw [hl];exact hcN);have rc:=zbf (own:=true) (f:=intF) (l:=grpL g i) (i:=c) (fun _=>rfl) (by rw [hl];exact hcN);rw [gc] at rc;simp only [intF,List.map_cons,List.map_nil] at ra rb rc;have p1:=zce (l:=grpL g i) (i:=c) (x:=lo) (by rw [hl];exact hcN);have p2:=zce (l:=(grpL g i).set c lo) (i:=a) (x:=lo) (by rw [List.length_set,hl];exact haN);have p3:=zce (l:=((grpL g i).set c lo).set a lo) (i:=b) (x:=lo) (by rw [List.length_set,List.length_set,hl];exact hbN);rw [zp8 ha hb hc hk2 hlo] at p3;have m1:min (min (g a:Int) (g b:Int)) (g c:Int)=(lo:Int):=by
       unfold lowF at hlo;rw [if_pos hk2,ha,hb,hc] at hlo;simp only [Int.toNat_natCast] at hlo;omega
      have hD2:=Hide.mk (hD.h.step hkl (by omega) (by omega) (fun _=>by omega));clear hf hf2 hl ga gb gc hD hlo hfm;(repeat' first|simp [*,za,Fact.cells]|(apply zb<;>intro _ h<;>try simp [-Nat.le_zero_eq] at h)|(show wpE 0 (zi ..) ..;refine zm ?_)|(refine zg fun v2 H2 hv2 hnx2 hget2 hnew2 hone2 hcel2=>?_));exact ⟨k+1,by omega,by omega,by omega,_,rfl,hD2⟩
     ·simp only [intF,List.map_cons,List.map_nil] at ra rb;have p2:=zce (l:=grpL g i) (i:=a) (x:=lo) (by rw [hl];exact haN);have p3:=zce (l:=(grpL g i).set a lo) (i:=b) (x:=lo) (by rw [List.length_set,hl];exact hbN);rw [zpx ha hb hk2 hlo] at p3;have m1:min (g a:Int) (g b:Int)=(lo:Int):=by
       unfold lowF at hlo;rw [if_neg hk2,ha,hb] at hlo;simp only [Int.toNat_natCast] at hlo;omega
      have hD2:=Hide.mk (hD.h.step hkl (by omega) (by omega) (fun h=>absurd h hk2));clear hf hl ga gb hD hlo hfm;(repeat' first|simp [*,za,Fact.cells]|(apply zb<;>intro _ h<;>try simp [-Nat.le_zero_eq] at h)|(show wpE 0 (zi ..) ..;refine zm ?_)|(refine zg fun v2 H2 hv2 hnx2 hget2 hnew2 hone2 hcel2=>?_));exact ⟨k+1,by omega,by omega,by omega,_,rfl,hD2⟩
    ·have hkN:k=fs.xs.length:=by omega
     subst hkN;have hR2:=Hide.mk (hD.h.next hmH.h hE.h hR.h);clear hD hR;(repeat' first|simp [*,za]|(apply zb<;>intro _ h<;>try simp [-Nat.le_zero_eq] at h)|(show wpE 0 (zi ..) ..;refine zm ?_)|(refine zg fun v2 H2 hv2 hnx2 hget2 hnew2 hone2 hcel2=>?_));exact ⟨r+1,by omega,by omega,by omega,_,rfl,hR2⟩
   ·have hri:r=i:=by omega
    subst hri;have he:grpL g0 r=grpL m r:=zn7 hR.h.all;rw [he] at hg;have hres:=Hide.mk (zba (n:=10) (f:=intF) (sz:=1) (fun _=>rfl) hg (zR _ _));have e2:(Sl.of (grpL m r)).pv intF 1=(Sl.mk false (grpL m r)).pv intF 1:=by
     have:grpL m r≠[]:=by intro h;have:=congrArg List.length h;rw [zR] at this;simp at this;omega
     cases hx:grpL m r with
     | nil=>exact absurd hx this
     | cons x xs=>rfl
    rw [e2];clear hR he e2;(repeat' first|simp [*,za]|(apply zb<;>intro _ h<;>try simp [-Nat.le_zero_eq] at h)|(show wpE 0 (zi ..) ..;refine zm ?_)|(refine zg fun v2 H2 hv2 hnx2 hget2 hnew2 hone2 hcel2=>?_));exact hres.h
theorem sh41:G.shared 41=false:=by decide
theorem e41 (n:Nat) (p:Problem) (ok:CheckOk p) (m:Nat->Nat) (hm:IsCls (zak p.facts.xs) p.boxes.xs.length m):zH G (n+2) 41 [.agg p.cells]=some (zeC (zK m p.boxes.xs.length)):=by
 refine zy (zx _) rfl g41 rfl ?_
 have nb:p.boxes.xs.length<=12:=ok.nb;obtain ⟨i,hN⟩:∃ N,N=p.boxes.xs.length:=⟨_,rfl⟩
 have hcl:=fun H=>zf (G:=G) (n:=n+1) (H:=H) (caps:=[]) (ps:=[.agg p.cells]) sh83 (e83 n p ok m hm);rw [<- hN] at nb hcl ⊢;obtain ⟨s,hs⟩:∃ s:Sl Int,Sl.of (grpL m i)=s:=⟨_,rfl⟩
 have hxs:s.xs=grpL m i:=by rw [<- hs,Sl.xs_of]
 rw [hs] at hcl;have hsl:s.xs.length=i:=by rw [hxs,zR]
 have hsg:Hide (∀ j (h:j < s.xs.length),s.xs[j]=(m j:Int)):=⟨fun j h=>by simp only [hxs,zal]⟩
 clear hN hs hxs hm ok;simp only [Problem.cells,List.map_cons,List.map_nil] at hcl;have hpl:zbN m i i=zK m i:=rfl;have hP0:=Hide.mk (PaJ.nil 0 Heap.empty);rw [<- hpl];clear hpl;(repeat' first|simp [*,za,c41,Problem.cells]|(apply zb<;>intro _ h<;>try simp [-Nat.le_zero_eq] at h)|(show wpE 0 (zi ..) ..;refine zm ?_)|(refine zg fun v2 H2 hv2 hnx2 hget2 hnew2 hone2 hcel2=>?_));clear hcl
 refine zB [(4,7),(10,42)] (fun (t:Nat) env H=>env 5=.pure (.int .i64 t)/\t<=i/\∃ v,env 4=v/\Hide (PaJ 0 H v (zbN m i t))) (fun t=>i - t) 0 ?_ ?_ ?_ ?_
 ·decide
 ·exact ⟨by simp,by omega,_,by simp,hP0⟩
 ·simp only [zz];omega
 clear hP0;rintro t env H ⟨g52,ht,v,g8,hP⟩
 by_cases htl:t < i
 ·have w1:IntKind.i64.wrap ((t:Int)+1)=(t+1:Nat):=by rw [wrap64 (by omega) (by omega)];omega
  have htI:(t:Int) < i:=by omega
  have htx:t < s.xs.length:=by omega
  have gt:=hsg.h t htx
  by_cases e:m t=t
  ·have eI:(m t:Int)=(t:Int):=by rw [e]
   have hT0:GrowV intF 1 H (.pure .nils) (zM (zbK m t 0)):=GrowV.nil;have hT0:=Hide.mk hT0;(repeat' first|simp [*,za]|(apply zb<;>intro _ h<;>try simp [-Nat.le_zero_eq] at h)|(show wpE 0 (zi ..) ..;refine zm ?_)|(refine zg fun v2 H2 hv2 hnx2 hget2 hnew2 hone2 hcel2=>?_));clear eI gt
   refine zB [(6,7),(22,37)] (fun (j:Nat) env H2=>env 7=.pure (.int .i64 j)/\j<=i/\H.nx<=H2.nx/\Hide (∀ c,c < H.nx->H2.get c=H.get c)/\∃ u,env 6=u/\Hide (GrowV intF 1 H2 u (zM (zbK m t j))/\∀ id,Names u id->H.nx<=id)) (fun j=>i - j) 0 ?_ ?_ ?_ ?_
   ·decide
   ·exact ⟨by simp,by omega,Nat.le_refl _,⟨fun _ _=>rfl⟩,_,by simp,⟨hT0.h,fun id ⟨_,_,_,h⟩=>by simp at h⟩⟩
   ·simp only [zz];omega
   clear hT0;have g52':=g52;rintro j env H2 ⟨g63,hj,hnx2,hsame,u,g10,hU⟩;have hone:=hU.h.1.1.one
   by_cases hjl:j < i
   ·have w2:IntKind.i64.wrap ((j:Int)+1)=(j+1:Nat):=by rw [wrap64 (by omega) (by omega)];omega
    have hjI:(j:Int) < i:=by omega
    have hjx:j < s.xs.length:=by omega
    have gj:=hsg.h j hjx
    by_cases ej:m j=t
    ·have eJ:(m j:Int)=(t:Int):=by rw [ej]
     (repeat' first|simp [*,za]|(apply zb<;>intro _ h<;>try simp [-Nat.le_zero_eq] at h)|(show wpE 0 (zi ..) ..;refine zm ?_)|(refine zg fun v2 H2 hv2 hnx2 hget2 hnew2 hone2 hcel2=>?_))
     refine zaH (hU.h.1.alloc _) (fun _=>rfl) (by decide) (fun _=>rfl) (by rw [zab];have:=zfN m t j;unfold zu;omega) ⟨(j:Int),by simp [intF],?_⟩
     intro u4 H4 hg4 ha;have hU4:Hide (GrowV intF 1 H4 u4 (zM (zbK m t (j+1)))/\∀ id,Names u4 id->H.nx<=id):=⟨by rw [zdY,if_pos ej];simpa [zM] using hg4,fun id hn=>by have:=ha.new id hn;simp at this;omega⟩
     have hs4:Hide (∀ c,c < H.nx->H4.get c=H.get c):=⟨fun c hc=>by rw [ha.get c (by simp;omega) (fun hn=>by have:=hU.h.2 c hn;omega),zh (by omega)];exact hsame.h c hc⟩
     have hx4:H.nx<=H4.nx:=by have:=ha.nx;simp at this;omega
     clear hg4 ha hU hsame hone gj eJ;(repeat' first|simp [*,za]|(apply zb<;>intro _ h<;>try simp [-Nat.le_zero_eq] at h)|(show wpE 0 (zi ..) ..;refine zm ?_)|(refine zg fun v2 H2 hv2 hnx2 hget2 hnew2 hone2 hcel2=>?_));exact ⟨j+1,by omega,by omega,by omega,hU4⟩
    ·have eJ:¬ (m j:Int)=(t:Int):=by omega
     have hU2:=hU.h;rw [show zbK m t j=zbK m t (j+1) by rw [zdY,if_neg ej]] at hU2;have hU3:=Hide.mk hU2;clear hU2 hU;(repeat' first|simp [*,za]|(apply zb<;>intro _ h<;>try simp [-Nat.le_zero_eq] at h)|(show wpE 0 (zi ..) ..;refine zm ?_)|(refine zg fun v2 H2 hv2 hnx2 hget2 hnew2 hone2 hcel2=>?_));exact ⟨j+1,by omega,by omega,by omega,hU3⟩
   ·have hji:j=i:=by omega
    have hU2:=hU.h;rw [hji] at hU2;have hel:zbK m t i=zaP m i t:=rfl;rw [hel] at hU2;have hne:zM (zaP m i t)≠[]:=by
     intro h;have h2:zaP m i t=[]:=by simpa [zM] using h
     have h3:t∈zaP m i t:=by simp [zaP,htl,e]
     rw [h2] at h3;simp at h3
    obtain ⟨id,rfl,hgid⟩:=hU2.1.1.row hne;have hidH:=hU2.2 id ⟨_,_,_,rfl⟩;have hjn:¬ (j:Int) < i:=by omega
    have hkp:=hsame.h;have hid2:=zo hgid;have hgH:=Hide.mk hgid;have hel2:=zab (zaP m i t);clear hU hU2 hsame hji hgid hone hel hne;(repeat' first|simp [*,za]|(apply zb<;>intro _ h<;>try simp [-Nat.le_zero_eq] at h)|(show wpE 0 (zi ..) ..;refine zm ?_)|(refine zg fun v2 H2 hv2 hnx2 hget2 hnew2 hone2 hcel2=>?_))
    refine zgb (B:=0) (id:=id) (l:=zaP m i t) (hP.h.keep fun c _ hc=>by rw [zh (by omega)];exact hkp c hc) (by omega) (by simp [zab]) (by omega) (fun h=>by have:=hP.h.lt h;omega) (by rw [zh hid2];exact hgH.h) (by have:=ze7 m i t;unfold zu;omega) ?_
    intro v4 H4 hP4 hnx4 e01;have hP5:Hide (PaJ 0 H4 v4 (zbN m i (t+1))):=⟨by rw [zdb,if_pos e];exact hP4⟩
    clear hP4 e01 hP hgH hkp;(repeat' first|simp [*,za]|(apply zb<;>intro _ h<;>try simp [-Nat.le_zero_eq] at h)|(show wpE 0 (zi ..) ..;refine zm ?_)|(refine zg fun v2 H2 hv2 hnx2 hget2 hnew2 hone2 hcel2=>?_));exact ⟨t+1,by omega,by omega,by omega,hP5⟩
  ·have eI:¬ (m t:Int)=(t:Int):=by omega
   have hP2:Hide (PaJ 0 H v (zbN m i (t+1))):=⟨by rw [zdb,if_neg e];exact hP.h⟩
   clear hP;(repeat' first|simp [*,za]|(apply zb<;>intro _ h<;>try simp [-Nat.le_zero_eq] at h)|(show wpE 0 (zi ..) ..;refine zm ?_)|(refine zg fun v2 H2 hv2 hnx2 hget2 hnew2 hone2 hcel2=>?_));exact ⟨t+1,by omega,by omega,by omega,hP2⟩
 ·have hti:t=i:=by omega
  subst hti;have hres:=Hide.mk hP.h.res;clear hP;(repeat' first|simp [*,za]|(apply zb<;>intro _ h<;>try simp [-Nat.le_zero_eq] at h)|(show wpE 0 (zi ..) ..;refine zm ?_)|(refine zg fun v2 H2 hv2 hnx2 hget2 hnew2 hone2 hcel2=>?_));exact hres.h
theorem sh85:G.shared 85=false:=by decide
theorem e85 (n:Nat) (b:Box) (hv:zan b=true):zH G (n+1) 85 [.agg b.cells]=some (.int .i64 (zaT b)):=by
 refine zy (zx _) rfl g85 rfl ?_
 have hvv:=valid_iff.1 hv;have w1:IntKind.i64.wrap (b.x.hi - b.x.lo)=b.x.hi - b.x.lo:=wrap64 (by omega) (by omega);have w2:IntKind.i64.wrap (b.x.hi - b.x.lo+1)=b.x.hi - b.x.lo+1:=wrap64 (by omega) (by omega);have w3:IntKind.i64.wrap (b.y.hi - b.y.lo)=b.y.hi - b.y.lo:=wrap64 (by omega) (by omega);have w4:IntKind.i64.wrap (b.y.hi - b.y.lo+1)=b.y.hi - b.y.lo+1:=wrap64 (by omega) (by omega);have w5:IntKind.i64.wrap ((b.x.hi - b.x.lo+1)*(b.y.hi - b.y.lo+1))=(b.x.hi - b.x.lo+1)*(b.y.hi - b.y.lo+1):=zkH (by clear w1 w2 w3 w4;omega) (by clear w1 w2 w3 w4;omega) (by clear w1 w2 w3 w4;omega) (by clear w1 w2 w3 w4;omega);clear hvv hv;(repeat' first|simp [*,za,c85,Box.cells,Span.cells,zaT]|(apply zb<;>intro _ h<;>try simp [-Nat.le_zero_eq] at h))
def zfY (f:Fact) (i:Int):Bool:=decide (f.a=i)||decide (f.b=i)||(decide (f.kind=2)&&decide (f.c=i))
def zeI (fs:List Fact) (i:Int):Bool:=fs.any fun f=>zfY f i
def ztC (fs:List Fact) (i:Int) (k:Nat):Prop:=∀ j (h:j < fs.length),j < k->zfY fs[j] i=false
theorem sh84:G.shared 84=false:=by decide
theorem e84 (n:Nat) (p:Problem) (i:Int) (hl:p.facts.xs.length<=60):zH G (n+1) 84 [.agg p.cells,.int .i64 i]=some (.bool (zeI p.facts.xs i)):=by
 refine zy (zx _) rfl g84 rfl ?_
 obtain ⟨bs,fs⟩:=p;generalize hR:zeI fs.xs i=R;have hR:=Hide.mk hR;have hl:fs.xs.length<=60:=hl;(repeat' first|simp [*,za,c84,Problem.cells]|(apply zb<;>intro _ h<;>try simp [-Nat.le_zero_eq] at h))
 refine zB [(4,39)] (fun (k:Nat) env H=>env 5=.pure (.int .i64 k)/\k<=fs.xs.length/\Hide (ztC fs.xs i k)) (fun k=>fs.xs.length - k) 0 ?_ ?_ ?_ ?_
 ·decide
 ·exact ⟨by simp,by omega,⟨fun _ _ h=>by omega⟩⟩
 ·simp only [zz];omega
 rintro k env H ⟨g0,hi,hn⟩
 by_cases hlt:k < fs.xs.length
 ·have w1:IntKind.i64.wrap ((k:Int)+1)=(k+1:Nat):=by rw [wrap64 (by omega) (by omega)];omega
  have hltI:(k:Int) < fs.xs.length:=by omega
  cases hf:zfY fs.xs[k] i with
  | true =>
   have hRk:R=true:=by rw [<- hR.h];exact List.any_eq_true.2 ⟨_,List.getElem_mem hlt,hf⟩
   unfold zfY at hf;clear hn hR;subst hRk;simp only [Bool.or_eq_true,Bool.and_eq_true,decide_eq_true_eq] at hf
   by_cases e1:fs.xs[k].a=i
   ·clear hf;(repeat' first|simp [*,za,Fact.cells]|(apply zb<;>intro _ h<;>try simp [-Nat.le_zero_eq] at h))
   ·by_cases e2:fs.xs[k].b=i
    ·clear hf;(repeat' first|simp [*,za,Fact.cells]|(apply zb<;>intro _ h<;>try simp [-Nat.le_zero_eq] at h))
    ·have e3:fs.xs[k].kind=2:=by omega
     have e4:fs.xs[k].c=i:=by omega
     clear hf;(repeat' first|simp [*,za,Fact.cells]|(apply zb<;>intro _ h<;>try simp [-Nat.le_zero_eq] at h))
  | false =>
   have hn':Hide (ztC fs.xs i (k+1)):=⟨fun j h hj=>by
    by_cases e:j=k
    ·subst e;exact hf
    ·exact hn.h j h (by omega)⟩
   unfold zfY at hf;clear hn hR;simp only [Bool.or_eq_false_iff,Bool.and_eq_false_iff,decide_eq_false_iff_not] at hf;have e1:¬ fs.xs[k].a=i:=by omega
   have e2:¬ fs.xs[k].b=i:=by omega
   by_cases e3:fs.xs[k].kind=2
   ·have e4:¬ fs.xs[k].c=i:=by omega
    clear hf;(repeat' first|simp [*,za,Fact.cells]|(apply zb<;>intro _ h<;>try simp [-Nat.le_zero_eq] at h));exact ⟨k+1,by omega,by omega,by omega,hn'⟩
   ·clear hf;(repeat' first|simp [*,za,Fact.cells]|(apply zb<;>intro _ h<;>try simp [-Nat.le_zero_eq] at h));exact ⟨k+1,by omega,by omega,by omega,hn'⟩
 ·have hil:k=fs.xs.length:=by omega
  subst hil;have hRk:R=false:=by
   rw [<- hR.h,<- Bool.not_eq_true];intro h;obtain ⟨f,hf,h⟩:=List.any_eq_true.1 h;obtain ⟨j,hj,rfl⟩:=List.mem_iff_getElem.1 hf;rw [hn.h j hj hj] at h;simp at h
  subst hRk;clear hn hR;(repeat' first|simp [*,za]|(apply zb<;>intro _ h<;>try simp [-Nat.le_zero_eq] at h))
theorem sh42:G.shared 42=false:=by decide
theorem e42 (n:Nat) (p:Problem) (bs:Sl Box) (l:List Nat) (nf:p.facts.xs.length<=60) (nb:bs.xs.length<=12) (nl:l.length<=12) (hl0:0 < l.length) (hb:∀ b∈bs.xs,zan b=true) (hlk:∀ k∈l,k < bs.xs.length) (hnm:zeI p.facts.xs (l[0]:Nat)=decide (1 < l.length)):zH G (n+2) 42 [.agg p.cells,bs.pv Box.cells 4,.agg (za7 l)]=some (.int .i64 (volP bs.xs l)):=by
 refine zy (zx _) rfl g42 rfl ?_
 obtain ⟨k0,hk0⟩:∃ k,l[0]=k:=⟨_,rfl⟩
 have c1:=fun H=>zf (G:=G) (n:=n+1) (H:=H) (caps:=[]) (ps:=[.agg p.cells,.int .i64 (k0:Int)]) sh84 (e84 n p (k0:Int) nf);rw [<- hk0,hnm] at c1;rw [hk0] at c1;have har:Hide (∀ (k:Nat) (h:k < bs.xs.length) (H:Heap),zG (zt G (n+1)) H (.pure (.func 85 [])) [.pure (.agg bs.xs[k].cells)]=some (.val (.pure (.int .i64 (zaT bs.xs[k]))))):=⟨fun k h H=>zf (caps:=[]) (ps:=[_]) sh85 (e85 n bs.xs[k] (hb _ (List.getElem_mem h)))⟩
 have ha:Hide (∀ k,k < bs.xs.length->1<=zaT bs.xs[k]!):=⟨fun k h=>by
  have hv:=valid_iff.1 (hb _ (List.getElem_mem h));rw [getElem!_pos bs.xs k h];exact zds ⟨by omega,by omega⟩⟩
 have hlkH:=Hide.mk hlk;have e1:(zM l).length=l.length:=zab l;have hj0:0 < (zM l).length:=by rw [e1];exact hl0
 have gj0:(zM l)[0]=(k0:Int):=by simp [zM,hk0]
 have hl0I:(0:Int) < l.length:=by omega
 have ha0:zc5 1 (.pure ((Sl.mk false (zM l)).pv intF 1)) (.pure (.int .i64 0))=some (.val (.pure (.ptr false [.int .i64 (k0:Int)] 0))):=by
  have:=zax (k:=.i64) (n:=0) (f:=intF) (sz:=1) (s:=Sl.mk false (zM l)) hj0;simp only [Sl.xs_mk,gj0,intF] at this;exact this
 simp only [Problem.cells,List.map_cons,List.map_nil] at c1;clear hb hlk hnm hk0
 by_cases h1l:1 < l.length
 ·have hd:decide (1 < l.length)=true:=by simp [h1l]
  rw [hd] at c1;clear hd;have hvP:=Hide.mk (show volP bs.xs l=zcA bs.xs l l.length from (zjs _ _).symm);(repeat' first|simp [*,za,c42,za7,Problem.cells]|(apply zb<;>intro _ h<;>try simp [-Nat.le_zero_eq] at h))
  refine zB [(8,9),(18,38)] (fun (j:Nat) env H=>env 9=.pure (.int .i64 j)/\j<=l.length/\∃ y:Int,env 8=.pure (.int .i64 y)/\Hide (y=zcA bs.xs l j)) (fun j=>l.length - j) 0 ?_ ?_ ?_ ?_
  ·decide
  ·exact ⟨by simp,by omega,1,by simp,⟨(zic _ _).symm⟩⟩
  ·simp only [zz];omega
  clear c1 ha0;rintro j env H ⟨g19,hj,y,g8,hy⟩
  by_cases hjl:j < l.length
  ·have w2:IntKind.i64.wrap ((j:Int)+1)=(j+1:Nat):=by rw [wrap64 (by omega) (by omega)];omega
   have hjI:(j:Int) < l.length:=by omega
   have hk:=hlkH.h _ (List.getElem_mem hjl);obtain ⟨k,hkk⟩:∃ k,l[j]=k:=⟨_,rfl⟩
   rw [hkk] at hk;have hjx:j < (zM l).length:=by rw [e1];exact hjl
   have gj:(zM l)[j]=(k:Int):=by simp [zM,hkk]
   have hkI:(k:Int) < bs.xs.length:=by omega
   have c2:=har.h k hk;have hr:=zjq ha.h hlkH.h j;rw [<- hy.h] at hr;have hak:=ha.h k hk;rw [getElem!_pos bs.xs k hk] at hak;obtain ⟨A,hA⟩:∃ A,zaT bs.xs[k]=A:=⟨_,rfl⟩
   rw [hA] at c2 hak;obtain ⟨z,hz⟩:∃ z,min 65537 A=z:=⟨_,rfl⟩
   have hw:IntKind.i64.wrap (y*z)=y*z:=zkH (by omega) (by omega) (by omega) (by omega);have hy2:Hide (min (y*z) 65537=zcA bs.xs l (j+1)):=⟨by rw [ziz hjl h1l,hkk,getElem!_pos bs.xs k hk,hy.h,hA,<- hz,<- hy.h];exact zrx hr.1 hak (by omega)⟩
   simp only [Box.cells,Span.cells] at c2;clear hr hy hkk hA hak;(repeat' first|simp [*,za,Box.cells,Span.cells]|(apply zb<;>intro _ h<;>try simp [-Nat.le_zero_eq] at h));exact ⟨j+1,by omega,by omega,by omega,hy2⟩
  ·have hjN:j=l.length:=by omega
   subst hjN;have hyv:=hy.h;rw [<- hvP.h] at hyv;subst hyv;clear hy hvP;(repeat' first|simp [*,za]|(apply zb<;>intro _ h<;>try simp [-Nat.le_zero_eq] at h))
 ·have hd:decide (1 < l.length)=false:=by simp [h1l]
  rw [hd] at c1;have hv:volP bs.xs l=1:=by unfold volP;rw [if_neg h1l]
  rw [hv];clear hd hv;(repeat' first|simp [*,za,c42,za7,Problem.cells]|(apply zb<;>intro _ h<;>try simp [-Nat.le_zero_eq] at h))
end Go.Proofs.YtmmhnfghklppiaaGreat.Vm
