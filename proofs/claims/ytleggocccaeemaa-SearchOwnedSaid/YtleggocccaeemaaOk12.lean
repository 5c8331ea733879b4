/- The machine's code of the functions 91 to 97 of this seat, printed by program, and that it is what the compiler makes. -/
import Derived.Test.YtleggocccaeemaaOk10
import Derived.Test.YtleggocccaeemaaProg
import Derived.KernelRfl
set_option linter.unusedVariables false
set_option linter.unusedSimpArgs false
namespace Go.Proofs.Ytleggocccaeemaa.Vm
open Go
def c96:VFunc:=⟨2,16,[(.cell 4 2 true)],(.seq (qR [(oP 2 (.boxF (tT 0))),(oP 3 (.boxF (tT 1))),(oP 4 (.alloc [qZ,qZ]))]) (.seq (qR [(oP 5 (qF 0 (tT 2))),(qL 6 5),(oP 7 (qF 1 (tT 3))),(qL 8 7),(oP 9 (qB .sub (tT 6) (tT 8))),(oP 10 (qF 1 (tT 2))),(qL 11 10),(oP 12 (qF 0 (tT 3))),(qL 13 12),(oP 14 (qB .sub (tT 11) (tT 13))),(oP 15 (.build [qZ,qZ] [(0,(1,(tT 9))),(1,(1,(tT 14)))])),⟨none,(.store 2 (tT 4) (tT 15)),none⟩]) .ret))⟩
theorem k96:zo Try.prog [] Try.f96=some c96:=by kernel_rfl
end Go.Proofs.Ytleggocccaeemaa.Vm
