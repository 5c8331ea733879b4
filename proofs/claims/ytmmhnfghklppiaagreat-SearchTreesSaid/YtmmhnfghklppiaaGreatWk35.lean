/- Parts in the specification: the labels fall, round by round. Plain Lean, then the walk. Parts in the specification: classes, walked. Volumes of parts: the specification's, walked. -/
import Derived.Test.YtmmhnfghklppiaaGreatWk22
import Derived.Test.YtmmhnfghklppiaaGreatWk33
namespace Go.Proofs.YtmmhnfghklppiaaGreat.Vm
open Go
set_option linter.unusedSimpArgs false
set_option linter.unusedVariables false
set_option maxHeartbeats 4000000
set_option maxRecDepth 4000
def rX (g:Nat->Nat) (f:Fact):Nat:=if f.kind=2 then min (min (g f.a.toNat) (g f.b.toNat)) (g f.c.toNat) else min (g f.a.toNat) (g f.b.toNat)
def stepG (g:Nat->Nat) (f:Fact):Nat->Nat:=fun i=>if i=f.a.toNat\/i=f.b.toNat\/(f.kind=2/\i=f.c.toNat) then rX g f else g i
theorem znp (g:Nat->Nat) (f:Fact):rX g f<=g f.a.toNat:=by unfold rX;split<;>omega
theorem zry (g:Nat->Nat) (f:Fact):rX g f<=g f.b.toNat:=by unfold rX;split<;>omega
theorem zrT (g:Nat->Nat) (f:Fact) (h:f.kind=2):rX g f<=g f.c.toNat:=by unfold rX;rw [if_pos h];omega
theorem XK (g:Nat->Nat) (f:Fact) (i:Nat):stepG g f i<=g i:=by
 unfold stepG
 split
 .rename_i h;rcases h with rfl|rfl|⟨h,rfl⟩
  .exact znp g f
  .exact zry g f
  .exact zrT g f h
 .exact Nat.le_refl _
theorem zok (g:Nat->Nat) (f:Fact) {e:Nat×Nat} (he:e∈Af f):stepG g f e.1<=g e.2/\stepG g f e.2<=g e.1:=by
 unfold Af at he;rcases List.mem_cons.1 he with rfl|he
 .have h1:stepG g f f.a.toNat=rX g f:=by simp [stepG]
  have h2:stepG g f f.b.toNat=rX g f:=by simp [stepG]
  simp only [h1,h2];exact ⟨zry g f,znp g f⟩
 .by_cases hk:f.kind=2
  .rw [if_pos hk] at he;simp at he;subst he;have h1:stepG g f f.a.toNat=rX g f:=by simp [stepG]
   have h2:stepG g f f.c.toNat=rX g f:=by simp [stepG,hk]
   simp only [h1,h2];exact ⟨zrT g f hk,znp g f⟩
  .rw [if_neg hk] at he;simp at he
theorem zph {E:List (Nat×Nat)} {n:Nat} {g:Nat->Nat} {f:Fact} (h:mR E n g) (he:∀ e∈Af f,e∈E) (ha:f.a.toNat < n) (hb:f.b.toNat < n) (hc:f.kind=2->f.c.toNat < n):lX E f.a.toNat (rX g f):=by
 have eab:lX E f.a.toNat f.b.toNat:=.edge (he _ (by simp [Af]));have ca:=h.conn _ ha;have cb:=eab.trans (h.conn _ hb);have cab:lX E f.a.toNat (min (g f.a.toNat) (g f.b.toNat)):=by
  rcases Nat.le_total (g f.a.toNat) (g f.b.toNat) with hl|hl
  .rw [Nat.min_eq_left hl];exact ca
  .rw [Nat.min_eq_right hl];exact cb
 unfold rX
 split
 .rename_i hk;have eac:lX E f.a.toNat f.c.toNat:=.edge (he _ (by simp [Af,hk]));have cc:=eac.trans (h.conn _ (hc hk));rcases Nat.le_total (min (g f.a.toNat) (g f.b.toNat)) (g f.c.toNat) with hl|hl
  .rw [Nat.min_eq_left hl];exact cab
  .rw [Nat.min_eq_right hl];exact cc
 .exact cab
theorem mR.step {E:List (Nat×Nat)} {n:Nat} {g:Nat->Nat} {f:Fact} (h:mR E n g) (he:∀ e∈Af f,e∈E) (ha:f.a.toNat < n) (hb:f.b.toNat < n) (hc:f.kind=2->f.c.toNat < n):mR E n (stepG g f):=by
 have hl:=zph h he ha hb hc;have eab:lX E f.a.toNat f.b.toNat:=.edge (he _ (by simp [Af]))
 refine ⟨fun i hi=>Nat.le_trans (XK g f i) (h.le i hi),fun i hi=>?_⟩
 unfold stepG
 split
 .rename_i hx;rcases hx with rfl|rfl|⟨hk,rfl⟩
  .exact hl
  .exact eab.symm.trans hl
  .have eac:lX E f.a.toNat f.c.toNat:=.edge (he _ (by simp [Af,hk]));exact eac.symm.trans hl
 .exact h.conn i hi
structure RD (fs:List Fact) (n:Nat) (g0 g:Nat->Nat) (k:Nat):Prop where
 on:mR (pF fs) n g
 le:∀ i,g i<=g0 i
 ed:∀ e∈pF (fs.take k),g e.1<=g0 e.2/\g e.2<=g0 e.1
theorem RD.start {fs:List Fact} {n:Nat} {g:Nat->Nat} (h:mR (pF fs) n g):RD fs n g g 0:=⟨h,fun _=>Nat.le_refl _,fun e he=>by simp [pF] at he⟩
theorem RD.step {fs:List Fact} {n:Nat} {g0 g:Nat->Nat} {k:Nat} (h:RD fs n g0 g k) (hk:k < fs.length) (ha:fs[k].a.toNat < n) (hb:fs[k].b.toNat < n) (hc:fs[k].kind=2->fs[k].c.toNat < n):RD fs n g0 (stepG g fs[k]) (k+1):=by
 refine ⟨h.on.step (fun e he=>List.mem_flatMap.2 ⟨_,List.getElem_mem hk,he⟩) ha hb hc,fun i=>Nat.le_trans (XK _ _ i) (h.le i),fun e he=>?_⟩
 rw [zgd hk] at he;rcases List.mem_append.1 he with he|he
 .have:=h.ed e he;have h1:=XK g fs[k] e.1;have h2:=XK g fs[k] e.2;omega
 .have:=zok g fs[k] he;have h1:=h.le e.1;have h2:=h.le e.2;omega
structure RR (fs:List Fact) (n:Nat) (m g:Nat->Nat) (r:Nat):Prop where
 on:mR (pF fs) n g
 done:n<=yf m g n\/r<=yf m g n
theorem RR.start (fs:List Fact) (n:Nat) (m:Nat->Nat):RR fs n m (fun i=>i) 0:=⟨mR.start _ _,.inr (Nat.zero_le _)⟩
theorem RD.next {fs:List Fact} {n:Nat} {m g0 g:Nat->Nat} {r:Nat} (hm:bV (pF fs) n m) (hE:∀ e∈pF fs,e.1 < n/\e.2 < n) (h0:RR fs n m g0 r) (h:RD fs n g0 g fs.length):RR fs n m g (r+1):=by
 have hed:=h.ed;rw [zj4] at hed;rcases zna hm hE h0.on h.on (fun i _=>h.le i) hed with h1|h1
 .exact ⟨h.on,.inl h1⟩
 .refine ⟨h.on,?_⟩
  have:=zlM m g n;rcases h0.done with h2|h2
  .left;omega
  .right;omega
theorem RR.all {fs:List Fact} {n:Nat} {m g:Nat->Nat} (h:RR fs n m g n):∀ i,i < n->g i=m i:=zpI (by rcases h.done with h|h<;>exact h)
end Go.Proofs.YtmmhnfghklppiaaGreat.Vm
