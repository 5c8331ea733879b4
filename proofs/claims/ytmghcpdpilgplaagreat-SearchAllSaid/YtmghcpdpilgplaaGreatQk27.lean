/- Parts in the specification: the labels fall, round by round. Plain Lean, then the walk. Parts in the specification: classes, walked. Volumes of parts: the specification's, walked. -/
import Derived.Test.YtmghcpdpilgplaaGreatQk20
import Derived.Test.YtmghcpdpilgplaaGreatQk25
namespace Go.Proofs.YtmghcpdpilgplaaGreat.Vm
open Go
set_option linter.unusedSimpArgs false
set_option linter.unusedVariables false
set_option maxHeartbeats 4000000
set_option maxRecDepth 4000
def lowF (g:Nat→Nat) (f:Fact):Nat:=if f.kind=2 then min (min (g f.a.toNat) (g f.b.toNat)) (g f.c.toNat) else min (g f.a.toNat) (g f.b.toNat)
def stepG (g:Nat→Nat) (f:Fact):Nat→Nat:=fun i=>if i=f.a.toNat∨i=f.b.toNat∨(f.kind=2∧i=f.c.toNat) then lowF g f else g i
theorem lowF_a (g:Nat→Nat) (f:Fact):lowF g f≤g f.a.toNat:=by unfold lowF;split<;>omega
theorem lowF_b (g:Nat→Nat) (f:Fact):lowF g f≤g f.b.toNat:=by unfold lowF;split<;>omega
theorem lowF_c (g:Nat→Nat) (f:Fact) (h:f.kind=2):lowF g f≤g f.c.toNat:=by unfold lowF;rw [if_pos h];omega
theorem stepG_le (g:Nat→Nat) (f:Fact) (i:Nat):stepG g f i≤g i:=by
 unfold stepG
 split
 ·rename_i h;rcases h with rfl|rfl|⟨h,rfl⟩
  ·exact lowF_a g f
  ·exact lowF_b g f
  ·exact lowF_c g f h
 ·exact Nat.le_refl _
theorem stepG_edge (g:Nat→Nat) (f:Fact) {e:Nat×Nat} (he:e∈edgesF f):stepG g f e.1≤g e.2∧stepG g f e.2≤g e.1:=by
 unfold edgesF at he;rcases List.mem_cons.1 he with rfl|he
 ·have h1:stepG g f f.a.toNat=lowF g f:=by simp [stepG]
  have h2:stepG g f f.b.toNat=lowF g f:=by simp [stepG]
  simp only [h1,h2];exact ⟨lowF_b g f,lowF_a g f⟩
 ·by_cases hk:f.kind=2
  ·rw [if_pos hk] at he;simp at he;subst he;have h1:stepG g f f.a.toNat=lowF g f:=by simp [stepG]
   have h2:stepG g f f.c.toNat=lowF g f:=by simp [stepG,hk]
   simp only [h1,h2];exact ⟨lowF_c g f hk,lowF_a g f⟩
  ·rw [if_neg hk] at he;simp at he
theorem lowF_conn {E:List (Nat×Nat)} {n:Nat} {g:Nat→Nat} {f:Fact} (h:OnWay E n g) (he:∀ e∈edgesF f,e∈E) (ha:f.a.toNat < n) (hb:f.b.toNat < n) (hc:f.kind=2→f.c.toNat < n):Conn E f.a.toNat (lowF g f):=by
 have eab:Conn E f.a.toNat f.b.toNat:=.edge (he _ (by simp [edgesF]));have ca:=h.conn _ ha;have cb:=eab.trans (h.conn _ hb);have cab:Conn E f.a.toNat (min (g f.a.toNat) (g f.b.toNat)):=by
  rcases Nat.le_total (g f.a.toNat) (g f.b.toNat) with hl|hl
  ·rw [Nat.min_eq_left hl];exact ca
  ·rw [Nat.min_eq_right hl];exact cb
 unfold lowF
 split
 ·rename_i hk;have eac:Conn E f.a.toNat f.c.toNat:=.edge (he _ (by simp [edgesF,hk]));have cc:=eac.trans (h.conn _ (hc hk));rcases Nat.le_total (min (g f.a.toNat) (g f.b.toNat)) (g f.c.toNat) with hl|hl
  ·rw [Nat.min_eq_left hl];exact cab
  ·rw [Nat.min_eq_right hl];exact cc
 ·exact cab
theorem OnWay.step {E:List (Nat×Nat)} {n:Nat} {g:Nat→Nat} {f:Fact} (h:OnWay E n g) (he:∀ e∈edgesF f,e∈E) (ha:f.a.toNat < n) (hb:f.b.toNat < n) (hc:f.kind=2→f.c.toNat < n):OnWay E n (stepG g f):=by
 have hl:=lowF_conn h he ha hb hc;have eab:Conn E f.a.toNat f.b.toNat:=.edge (he _ (by simp [edgesF]))
 refine ⟨fun i hi=>Nat.le_trans (stepG_le g f i) (h.le i hi),fun i hi=>?_⟩
 unfold stepG
 split
 ·rename_i hx;rcases hx with rfl|rfl|⟨hk,rfl⟩
  ·exact hl
  ·exact eab.symm.trans hl
  ·have eac:Conn E f.a.toNat f.c.toNat:=.edge (he _ (by simp [edgesF,hk]));exact eac.symm.trans hl
 ·exact h.conn i hi
structure RD (fs:List Fact) (n:Nat) (g0 g:Nat→Nat) (k:Nat):Prop where
 on:OnWay (edgesL fs) n g
 le:∀ i,g i≤g0 i
 ed:∀ e∈edgesL (fs.take k),g e.1≤g0 e.2∧g e.2≤g0 e.1
theorem RD.start {fs:List Fact} {n:Nat} {g:Nat→Nat} (h:OnWay (edgesL fs) n g):RD fs n g g 0:=⟨h,fun _=>Nat.le_refl _,fun e he=>by simp [edgesL] at he⟩
theorem RD.step {fs:List Fact} {n:Nat} {g0 g:Nat→Nat} {k:Nat} (h:RD fs n g0 g k) (hk:k < fs.length) (ha:fs[k].a.toNat < n) (hb:fs[k].b.toNat < n) (hc:fs[k].kind=2→fs[k].c.toNat < n):RD fs n g0 (stepG g fs[k]) (k+1):=by
 refine ⟨h.on.step (fun e he=>List.mem_flatMap.2 ⟨_,List.getElem_mem hk,he⟩) ha hb hc,fun i=>Nat.le_trans (stepG_le _ _ i) (h.le i),fun e he=>?_⟩
 rw [edges_next hk] at he;rcases List.mem_append.1 he with he|he
 ·have:=h.ed e he;have h1:=stepG_le g fs[k] e.1;have h2:=stepG_le g fs[k] e.2;omega
 ·have:=stepG_edge g fs[k] he;have h1:=h.le e.1;have h2:=h.le e.2;omega
structure RR (fs:List Fact) (n:Nat) (m g:Nat→Nat) (r:Nat):Prop where
 on:OnWay (edgesL fs) n g
 done:n≤doneN m g n∨r≤doneN m g n
theorem RR.start (fs:List Fact) (n:Nat) (m:Nat→Nat):RR fs n m (fun i=>i) 0:=⟨OnWay.start _ _,.inr (Nat.zero_le _)⟩
theorem RD.next {fs:List Fact} {n:Nat} {m g0 g:Nat→Nat} {r:Nat} (hm:IsCls (edgesL fs) n m) (hE:∀ e∈edgesL fs,e.1 < n∧e.2 < n) (h0:RR fs n m g0 r) (h:RD fs n g0 g fs.length):RR fs n m g (r+1):=by
 have hed:=h.ed;rw [edges_all] at hed;rcases round_done hm hE h0.on h.on (fun i _=>h.le i) hed with h1|h1
 ·exact ⟨h.on,.inl h1⟩
 ·refine ⟨h.on,?_⟩
  have:=doneN_le m g n;rcases h0.done with h2|h2
  ·left;omega
  ·right;omega
theorem RR.all {fs:List Fact} {n:Nat} {m g:Nat→Nat} (h:RR fs n m g n):∀ i,i < n→g i=m i:=doneN_all (by rcases h.done with h|h<;>exact h)
theorem sh94:G.shared 94=false:=by decide
theorem e94 (n:Nat) (b:Box) (hv:validB b=true):callP G (n+1) 94 [.agg b.cells]=some (.int .i64 (areaB b)):=by
 refine callP_of (ext_none _) rfl g94 rfl ?_
 have hvv:=valid_iff.1 hv;have w1:IntKind.i64.wrap (b.x.hi - b.x.lo)=b.x.hi - b.x.lo:=wrap64 (by omega) (by omega);have w2:IntKind.i64.wrap (b.x.hi - b.x.lo+1)=b.x.hi - b.x.lo+1:=wrap64 (by omega) (by omega);have w3:IntKind.i64.wrap (b.y.hi - b.y.lo)=b.y.hi - b.y.lo:=wrap64 (by omega) (by omega);have w4:IntKind.i64.wrap (b.y.hi - b.y.lo+1)=b.y.hi - b.y.lo+1:=wrap64 (by omega) (by omega);have w5:IntKind.i64.wrap ((b.x.hi - b.x.lo+1)*(b.y.hi - b.y.lo+1))=(b.x.hi - b.x.lo+1)*(b.y.hi - b.y.lo+1):=wrap_uv (by clear w1 w2 w3 w4;omega) (by clear w1 w2 w3 w4;omega) (by clear w1 w2 w3 w4;omega) (by clear w1 w2 w3 w4;omega);clear hvv hv;(repeat' first|simp [*,initEnv,c94,Box.cells,Span.cells,areaB]|(apply wpIf_two<;>intro _ h<;>try simp [-Nat.le_zero_eq] at h))
end Go.Proofs.YtmghcpdpilgplaaGreat.Vm
