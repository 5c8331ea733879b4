/- Short forms for printing the machine's code. It only defines. -/
import Derived.Test.YtmghcpdpilgplaaPk3
namespace Go.Proofs.Ytmghcpdpilgplaa.Vm
abbrev tT (t : Nat) : Opnd := .tmp t
abbrev oP (d : Nat) (p : VOp) : VOper := ⟨some d, p, none⟩
abbrev mT (d t : Nat) : VOper := ⟨some d, .mov (.tmp t), none⟩
abbrev oG (d g : Nat) (b : Bool) (p : VOp) : VOper := ⟨some d, p, some (some g, b)⟩
attribute [simp] tT oP mT oG
end Go.Proofs.Ytmghcpdpilgplaa.Vm
