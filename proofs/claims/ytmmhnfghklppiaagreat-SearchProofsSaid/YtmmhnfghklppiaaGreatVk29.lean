/- Memory that stays the same but for some cells. -/
import Derived.Test.YtmmhnfghklppiaaGreatVk7
namespace Go.Proofs.YtmmhnfghklppiaaGreat.Vm
open Go
set_option linter.unusedSimpArgs false
set_option linter.unusedVariables false
@[simp] theorem zvE (x:Nat):x < x+1+1:=by omega
@[simp] theorem zvC (x:Nat):¬ x=x+1+1:=by omega
@[simp] theorem zvh (x:Nat):¬ x+1+1=x:=by omega
@[simp] theorem zvw (x:Nat):x < x+1+1+1:=by omega
@[simp] theorem zvA (x:Nat):¬ x=x+1+1+1:=by omega
@[simp] theorem zvq (x:Nat):¬ x+1+1+1=x:=by omega
@[simp] theorem zvz (x:Nat):x < x+1+1+1+1:=by omega
@[simp] theorem zvF (x:Nat):¬ x=x+1+1+1+1:=by omega
@[simp] theorem zvo (x:Nat):¬ x+1+1+1+1=x:=by omega
@[simp] theorem zvD (x:Nat):x < x+1+1+1+1+1:=by omega
@[simp] theorem zvB (x:Nat):¬ x=x+1+1+1+1+1:=by omega
structure Sm (E:Nat->Prop) (H H':Heap):Prop where
 nx:H.nx<=H'.nx
 get:∀ j,j < H.nx->¬ E j->H'.get j=H.get j
theorem Sm.refl (E:Nat->Prop) (H:Heap):Sm E H H:=⟨Nat.le_refl _,fun _ _ _=>rfl⟩
theorem Sm.alloc {E:Nat->Prop} {H H':Heap} (h:Sm E H H') {o:aR}:Sm E H (H'.alloc o) :=
 ⟨by rw [pJ];have:=h.nx;omega,fun j h1 h2=>by rw [ze (by have:=h.nx;omega)];exact h.get j h1 h2⟩
theorem Sm.set {E:Nat->Prop} {H H':Heap} (h:Sm E H H') {id:Nat} {o:aR} (hi:E id\/H.nx<=id):Sm E H (H'.set id o) :=
 ⟨by rw [mE];exact h.nx,fun j h1 h2=>by
  have bL:j≠id:=fun e=>by
   subst e;rcases hi with hi|hi
   .exact h2 hi
   .omega
  rw [zh bL];exact h.get j h1 h2⟩
theorem Sm.trans {E E':Nat->Prop} {H H' H2:Heap} (h:Sm E H H') (h':Sm E' H' H2) (he:∀ j,j < H.nx->E' j->E j):Sm E H H2 :=
 ⟨Nat.le_trans h.nx h'.nx,fun j h1 h2=>(h'.get j (by have:=h.nx;omega) (fun e=>h2 (he j h1 e))).trans (h.get j h1 h2)⟩
theorem Sm.mono {E E':Nat->Prop} {H H':Heap} (h:Sm E H H') (he:∀ j,j < H.nx->E j->E' j):Sm E' H H':=⟨h.nx,fun j h1 h2=>h.get j h1 fun e=>h2 (he j h1 e)⟩
end Go.Proofs.YtmmhnfghklppiaaGreat.Vm
