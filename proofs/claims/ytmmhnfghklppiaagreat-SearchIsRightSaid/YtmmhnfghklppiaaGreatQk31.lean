/- Memory that stays the same but for some cells. -/
import Derived.Test.YtmmhnfghklppiaaGreatQk8
import Derived.Test.YtmmhnfghklppiaaGreatQk7
namespace Go.Proofs.YtmmhnfghklppiaaGreat.Vm
open Go
set_option linter.unusedSimpArgs false
set_option linter.unusedVariables false
@[simp] theorem zvO (x:Nat):x < x+1+1:=by omega
@[simp] theorem zvM (x:Nat):¬ x=x+1+1:=by omega
@[simp] theorem zvv (x:Nat):¬ x+1+1=x:=by omega
@[simp] theorem zvH (x:Nat):x < x+1+1+1:=by omega
@[simp] theorem zvK (x:Nat):¬ x=x+1+1+1:=by omega
@[simp] theorem zvq (x:Nat):¬ x+1+1+1=x:=by omega
@[simp] theorem zvL (x:Nat):x < x+1+1+1+1:=by omega
@[simp] theorem zvG (x:Nat):¬ x=x+1+1+1+1:=by omega
@[simp] theorem zvu (x:Nat):¬ x+1+1+1+1=x:=by omega
@[simp] theorem zvN (x:Nat):x < x+1+1+1+1+1:=by omega
@[simp] theorem zvJ (x:Nat):¬ x=x+1+1+1+1+1:=by omega
@[simp] theorem zvs (x:Nat):¬ x+1+1+1+1+1=x:=by omega
structure Sm (E:Nat->Prop) (H H':Heap):Prop where
 nx:H.nx<=H'.nx
 get:∀ j,j < H.nx->¬ E j->H'.get j=H.get j
theorem Sm.refl (E:Nat->Prop) (H:Heap):Sm E H H:=⟨Nat.le_refl _,fun _ _ _=>rfl⟩
theorem Sm.alloc {E:Nat->Prop} {H H':Heap} (h:Sm E H H') {o:AObj}:Sm E H (H'.alloc o) :=
 ⟨by rw [zan];have:=h.nx;omega,fun j h1 h2=>by rw [zf (by have:=h.nx;omega)];exact h.get j h1 h2⟩
theorem Sm.set {E:Nat->Prop} {H H':Heap} (h:Sm E H H') {id:Nat} {o:AObj} (hi:E id\/H.nx<=id):Sm E H (H'.set id o) :=
 ⟨by rw [zaG];exact h.nx,fun j h1 h2=>by
  have hne:j≠id:=fun e=>by
   subst e;rcases hi with hi|hi
   ·exact h2 hi
   ·omega
  rw [zh hne];exact h.get j h1 h2⟩
theorem Sm.trans {E E':Nat->Prop} {H H' H2:Heap} (h:Sm E H H') (h':Sm E' H' H2) (he:∀ j,j < H.nx->E' j->E j):Sm E H H2 :=
 ⟨Nat.le_trans h.nx h'.nx,fun j h1 h2=>(h'.get j (by have:=h.nx;omega) (fun e=>h2 (he j h1 e))).trans (h.get j h1 h2)⟩
theorem Sm.mono {E E':Nat->Prop} {H H':Heap} (h:Sm E H H') (he:∀ j,j < H.nx->E j->E' j):Sm E' H H':=⟨h.nx,fun j h1 h2=>h.get j h1 fun e=>h2 (he j h1 e)⟩
end Go.Proofs.YtmmhnfghklppiaaGreat.Vm
