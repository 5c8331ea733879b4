/- Parts in the specification: the labels fall, round by round. Plain Lean, then the walk. Parts in the specification: classes, walked. Volumes of parts: the specification's, walked. -/
import Derived.Test.YtmmhnfghklppiaaGreatVk22
import Derived.Test.YtmmhnfghklppiaaGreatVk27
namespace Go.Proofs.YtmmhnfghklppiaaGreat.Vm
open Go
set_option linter.unusedSimpArgs false
set_option linter.unusedVariables false
set_option maxHeartbeats 4000000
set_option maxRecDepth 4000
def p8 (g:Nat->Nat) (f:Fact):Nat:=if f.kind=2 then min (min (g f.a.toNat) (g f.b.toNat)) (g f.c.toNat) else min (g f.a.toNat) (g f.b.toNat)
def stepG (g:Nat->Nat) (f:Fact):Nat->Nat:=fun i=>if i=f.a.toNat\/i=f.b.toNat\/(f.kind=2/\i=f.c.toNat) then p8 g f else g i
theorem zmR (g:Nat->Nat) (f:Fact):p8 g f<=g f.a.toNat:=by unfold p8;split<;>omega
theorem zpU (g:Nat->Nat) (f:Fact):p8 g f<=g f.b.toNat:=by unfold p8;split<;>omega
theorem zq6 (g:Nat->Nat) (f:Fact) (h:f.kind=2):p8 g f<=g f.c.toNat:=by unfold p8;rw [if_pos h];omega
theorem Ve (g:Nat->Nat) (f:Fact) (i:Nat):stepG g f i<=g i:=by
 unfold stepG
 split
 .rename_i h;rcases h with rfl|rfl|⟨h,rfl⟩
  .exact zmR g f
  .exact zpU g f
  .exact zq6 g f h
 .exact Nat.le_refl _
theorem znJ (g:Nat->Nat) (f:Fact) {e:Nat×Nat} (he:e∈wJ f):stepG g f e.1<=g e.2/\stepG g f e.2<=g e.1:=by
 unfold wJ at he;rcases List.mem_cons.1 he with rfl|he
 .have h1:stepG g f f.a.toNat=p8 g f:=by simp [stepG]
  have h2:stepG g f f.b.toNat=p8 g f:=by simp [stepG]
  simp only [h1,h2];exact ⟨zpU g f,zmR g f⟩
 .by_cases hk:f.kind=2
  .rw [if_pos hk] at he;simp at he;subst he;have h1:stepG g f f.a.toNat=p8 g f:=by simp [stepG]
   have h2:stepG g f f.c.toNat=p8 g f:=by simp [stepG,hk]
   simp only [h1,h2];exact ⟨zq6 g f hk,zmR g f⟩
  .rw [if_neg hk] at he;simp at he
theorem zpE {E:List (Nat×Nat)} {n:Nat} {g:Nat->Nat} {f:Fact} (h:lC E n g) (he:∀ e∈wJ f,e∈E) (ha:f.a.toNat < n) (hb:f.b.toNat < n) (hc:f.kind=2->f.c.toNat < n):jK E f.a.toNat (p8 g f):=by
 have eab:jK E f.a.toNat f.b.toNat:=.edge (he _ (by simp [wJ]));have ca:=h.conn _ ha;have cb:=eab.trans (h.conn _ hb);have cab:jK E f.a.toNat (min (g f.a.toNat) (g f.b.toNat)):=by
  rcases Nat.le_total (g f.a.toNat) (g f.b.toNat) with hl|hl
  .rw [Nat.min_eq_left hl];exact ca
  .rw [Nat.min_eq_right hl];exact cb
 unfold p8
 split
 .rename_i hk;have eac:jK E f.a.toNat f.c.toNat:=.edge (he _ (by simp [wJ,hk]));have cc:=eac.trans (h.conn _ (hc hk));rcases Nat.le_total (min (g f.a.toNat) (g f.b.toNat)) (g f.c.toNat) with hl|hl
  .rw [Nat.min_eq_left hl];exact cab
  .rw [Nat.min_eq_right hl];exact cc
 .exact cab
theorem lC.step {E:List (Nat×Nat)} {n:Nat} {g:Nat->Nat} {f:Fact} (h:lC E n g) (he:∀ e∈wJ f,e∈E) (ha:f.a.toNat < n) (hb:f.b.toNat < n) (hc:f.kind=2->f.c.toNat < n):lC E n (stepG g f):=by
 have hl:=zpE h he ha hb hc;have eab:jK E f.a.toNat f.b.toNat:=.edge (he _ (by simp [wJ]))
 refine ⟨fun i hi=>Nat.le_trans (Ve g f i) (h.le i hi),fun i hi=>?_⟩
 unfold stepG
 split
 .rename_i hx;rcases hx with rfl|rfl|⟨hk,rfl⟩
  .exact hl
  .exact eab.symm.trans hl
  .have eac:jK E f.a.toNat f.c.toNat:=.edge (he _ (by simp [wJ,hk]));exact eac.symm.trans hl
 .exact h.conn i hi
structure RD (fs:List Fact) (n:Nat) (g0 g:Nat->Nat) (k:Nat):Prop where
 on:lC (nz fs) n g
 le:∀ i,g i<=g0 i
 ed:∀ e∈nz (fs.take k),g e.1<=g0 e.2/\g e.2<=g0 e.1
theorem RD.start {fs:List Fact} {n:Nat} {g:Nat->Nat} (h:lC (nz fs) n g):RD fs n g g 0:=⟨h,fun _=>Nat.le_refl _,fun e he=>by simp [nz] at he⟩
theorem RD.step {fs:List Fact} {n:Nat} {g0 g:Nat->Nat} {k:Nat} (h:RD fs n g0 g k) (hk:k < fs.length) (ha:fs[k].a.toNat < n) (hb:fs[k].b.toNat < n) (hc:fs[k].kind=2->fs[k].c.toNat < n):RD fs n g0 (stepG g fs[k]) (k+1):=by
 refine ⟨h.on.step (fun e he=>List.mem_flatMap.2 ⟨_,List.getElem_mem hk,he⟩) ha hb hc,fun i=>Nat.le_trans (Ve _ _ i) (h.le i),fun e he=>?_⟩
 rw [YK hk] at he;rcases List.mem_append.1 he with he|he
 .have:=h.ed e he;have h1:=Ve g fs[k] e.1;have h2:=Ve g fs[k] e.2;omega
 .have:=znJ g fs[k] he;have h1:=h.le e.1;have h2:=h.le e.2;omega
structure RR (fs:List Fact) (n:Nat) (m g:Nat->Nat) (r:Nat):Prop where
 on:lC (nz fs) n g
 done:n<=vO m g n\/r<=vO m g n
theorem RR.start (fs:List Fact) (n:Nat) (m:Nat->Nat):RR fs n m (fun i=>i) 0:=⟨lC.start _ _,.inr (Nat.zero_le _)⟩
theorem RD.next {fs:List Fact} {n:Nat} {m g0 g:Nat->Nat} {r:Nat} (hm:bF (nz fs) n m) (hE:∀ e∈nz fs,e.1 < n/\e.2 < n) (h0:RR fs n m g0 r) (h:RD fs n g0 g fs.length):RR fs n m g (r+1):=by
 have hed:=h.ed;rw [zji] at hed;rcases znn hm hE h0.on h.on (fun i _=>h.le i) hed with h1|h1
 .exact ⟨h.on,.inl h1⟩
 .refine ⟨h.on,?_⟩
  have:=zl4 m g n;rcases h0.done with h2|h2
  .left;omega
  .right;omega
theorem RR.all {fs:List Fact} {n:Nat} {m g:Nat->Nat} (h:RR fs n m g n):∀ i,i < n->g i=m i:=zpt (by rcases h.done with h|h<;>exact h)
end Go.Proofs.YtmmhnfghklppiaaGreat.Vm
