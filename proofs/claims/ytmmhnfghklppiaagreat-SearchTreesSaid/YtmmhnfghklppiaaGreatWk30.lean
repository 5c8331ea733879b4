/- Memory that stays the same but for some cells. -/
import Derived.Test.YtmmhnfghklppiaaGreatWk7
namespace Go.Proofs.YtmmhnfghklppiaaGreat.Vm
open Go
set_option linter.unusedSimpArgs false
set_option linter.unusedVariables false
@[simp] theorem zwB (x:Nat):x < x+1+1:=by omega
@[simp] theorem zwy (x:Nat):¬ x=x+1+1:=by omega
@[simp] theorem zwb (x:Nat):¬ x+1+1=x:=by omega
@[simp] theorem zww (x:Nat):x < x+1+1+1:=by omega
@[simp] theorem zwv (x:Nat):¬ x=x+1+1+1:=by omega
@[simp] theorem zwc (x:Nat):¬ x+1+1+1=x:=by omega
@[simp] theorem zwA (x:Nat):x < x+1+1+1+1:=by omega
@[simp] theorem zwz (x:Nat):¬ x=x+1+1+1+1:=by omega
@[simp] theorem zwh (x:Nat):¬ x+1+1+1+1=x:=by omega
@[simp] theorem zwu (x:Nat):x < x+1+1+1+1+1:=by omega
@[simp] theorem zwx (x:Nat):¬ x=x+1+1+1+1+1:=by omega
@[simp] theorem zwn (x:Nat):¬ x+1+1+1+1+1=x:=by omega
structure Sm (E:Nat->Prop) (H H':Heap):Prop where
 nx:H.nx<=H'.nx
 get:∀ j,j < H.nx->¬ E j->H'.get j=H.get j
theorem Sm.refl (E:Nat->Prop) (H:Heap):Sm E H H:=⟨Nat.le_refl _,fun _ _ _=>rfl⟩
theorem Sm.alloc {E:Nat->Prop} {H H':Heap} (h:Sm E H H') {o:aU}:Sm E H (H'.alloc o) :=
 ⟨by rw [rC];have:=h.nx;omega,fun j h1 h2=>by rw [zg (by have:=h.nx;omega)];exact h.get j h1 h2⟩
theorem Sm.set {E:Nat->Prop} {H H':Heap} (h:Sm E H H') {id:Nat} {o:aU} (hi:E id\/H.nx<=id):Sm E H (H'.set id o) :=
 ⟨by rw [mi];exact h.nx,fun j h1 h2=>by
  have bJ:j≠id:=fun e=>by
   subst e;rcases hi with hi|hi
   .exact h2 hi
   .omega
  rw [zf bJ];exact h.get j h1 h2⟩
theorem Sm.trans {E E':Nat->Prop} {H H' H2:Heap} (h:Sm E H H') (h':Sm E' H' H2) (he:∀ j,j < H.nx->E' j->E j):Sm E H H2 :=
 ⟨Nat.le_trans h.nx h'.nx,fun j h1 h2=>(h'.get j (by have:=h.nx;omega) (fun e=>h2 (he j h1 e))).trans (h.get j h1 h2)⟩
theorem Sm.mono {E E':Nat->Prop} {H H':Heap} (h:Sm E H H') (he:∀ j,j < H.nx->E j->E' j):Sm E' H H':=⟨h.nx,fun j h1 h2=>h.get j h1 fun e=>h2 (he j h1 e)⟩
end Go.Proofs.YtmmhnfghklppiaaGreat.Vm
