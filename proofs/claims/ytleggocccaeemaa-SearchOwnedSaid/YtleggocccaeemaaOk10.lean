/- Short forms for printing the machine's code. It only defines. -/
import Derived.Test.YtleggocccaeemaaOk3
set_option linter.unusedVariables false
set_option linter.unusedSimpArgs false
namespace Go.Proofs.Ytleggocccaeemaa.Vm
abbrev tT (t:Nat):Opnd:=.tmp t
abbrev oP (d:Nat) (p:VOp):VOper:=⟨some d,p,none⟩
abbrev mT (d t:Nat):VOper:=⟨some d,.mov (.tmp t),none⟩
abbrev oG (d g:Nat) (b:Bool) (p:VOp):VOper:=⟨some d,p,some (some g,b)⟩
abbrev qA (s:Nat) (x:Opnd):VOp:=.load true s x
abbrev qL (d t:Nat):VOper:=⟨some d,.load false 1 (.tmp t),none⟩
abbrev qF (k:Nat) (x:Opnd):VOp:=.fieldAddr k x
abbrev qI (z:Nat) (a b:Opnd):VOp:=.indexAddr z none a b
abbrev qB (o:BinOp) (a b:Opnd):VOp:=.bin o .num a b
abbrev qS (x:Opnd):VOp:=.lenSl x
abbrev qN (x:Opnd):VOp:=.nilCheck x
abbrev qK (k:Int):Opnd:=.const (.int .i64 k)
abbrev qG (f:Nat):Opnd:=.const (.func f [])
abbrev qR (l:List VOper):VCode:=.region none l
abbrev qZ:PV:=.int .i64 0
attribute [simp] tT oP mT oG qA qL qF qI qB qS qN qK qG qR qZ
end Go.Proofs.Ytleggocccaeemaa.Vm
