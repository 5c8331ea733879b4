/- The machine's code of the functions 149 to 157 of this seat, printed by program, and that it is what the compiler makes. -/
import Derived.Test.YtmmhnfghklppiaaGreatWk9
import Derived.Test.YtmmhnfghklppiaaGreatProg
import Derived.KernelRfl
set_option linter.unusedVariables false
set_option linter.unusedSimpArgs false
namespace Go.Proofs.YtmmhnfghklppiaaGreat.Vm
open Go
def c154:ai:=⟨3,78,[(.cell 6 2 true)],(yR [(yP 3 0),(yP 4 1),(yP 5 2),(oP 6 (.alloc [qZ,qZ]))] (yR [(yF 11 0 3),(yF 12 0 11),(qL 13 12),(yF 14 2 3),(yF 15 0 14),(qL 16 15),(yF 17 0 4),(yF 18 0 17),(qL 19 18),(yF 20 2 4),(yF 21 0 20),(qL 22 21),(yF 23 0 5),(yF 24 0 23),(qL 25 24),(yF 26 2 5),(yF 27 0 26),(qL 28 27),(yC 29 157 [13,16,19,22,25,28]),(mT 7 29)] (yR [(mT 30 7),(mT 31 7),(oP 32 (.build [qZ,qZ] [(0,(1,(tT 30))),(1,(1,(tT 31)))])),(oP 8 (.alloc [qZ,qZ])),(yS 2 8 32)] (.seq (yR [(yM 9 0)] (.block 0 (.loop (.seq (yR [(mT 33 9),(yK 34 .lss 33 64)] (yD 34 .skip (.exit 0))) (.seq (.block 1 (.seq (.region (some 28) [(yF 37 0 3),(yA 38 2 37),(mT 39 9),(yC 40 57 [38,39]),(yF 41 2 3),(yA 42 2 41),(mT 43 9),(yK 44 .quo 43 2),(yC 45 57 [42,44]),(yF 46 0 4),(yA 47 2 46),(mT 48 9),(yK 49 .quo 48 4),(yC 50 57 [47,49]),(yF 51 2 4),(yA 52 2 51),(mT 53 9),(yK 54 .quo 53 8),(yC 55 57 [52,54]),(yF 56 0 5),(yA 57 2 56),(mT 58 9),(yK 59 .quo 58 16),(yC 60 57 [57,59]),(yF 61 2 5),(yA 62 2 61),(mT 63 9),(yK 64 .quo 63 32),(yC 65 57 [62,64]),(yC 66 157 [40,45,50,55,60,65]),(mT 10 66)]) (yR [(yF 67 0 8),(qL 68 67),(mT 69 10),(oP 70 (.bN false [(tT 68),(tT 69)])),(yF 71 0 8),(yS 1 71 70)] (qR [(yF 72 1 8),(qL 73 72),(mT 74 10),(oP 75 (.bN true [(tT 73),(tT 74)])),(yF 76 1 8),(yS 1 76 75)])))) (qR [(mT 35 9),(yK 36 .add 35 1),(mT 9 36)])))))) (yR [(yA 77 2 8),(yS 2 6 77)] .ret)))))⟩
def c155:ai:=⟨2,16,[(.cell 4 2 true)],(yR [(yP 2 0),(yP 3 1),(oP 4 (.alloc [qZ,qZ]))] (yR [(yF 5 0 2),(qL 6 5),(yF 7 1 3),(qL 8 7),(yB 9 .sub 6 8),(yF 10 1 2),(qL 11 10),(yF 12 0 3),(qL 13 12),(yB 14 .sub 11 13),(oP 15 (.build [qZ,qZ] [(0,(1,(tT 9))),(1,(1,(tT 14)))])),(yS 2 4 15)] .ret))⟩
def c157:ai:=⟨6,28,[(.tmp 12)],(yR [(yM 12 0)] (yR [(mT 13 2),(mT 14 0),(yB 15 .sub 13 14),(mT 16 5),(mT 17 1),(yB 18 .sub 16 17),(yB 19 .mul 15 18),(mT 20 3),(mT 21 1),(yB 22 .sub 20 21),(mT 23 4),(mT 24 0),(yB 25 .sub 23 24),(yB 26 .mul 22 25),(yB 27 .sub 19 26),(mT 12 27)] .ret))⟩
theorem k154:zi Tryz.prog [] Tryz.f154=some c154:=by kernel_rfl
theorem k155:zi Tryz.prog [] Tryz.f155=some c155:=by kernel_rfl
theorem k157:zi Tryz.prog [] Tryz.f157=some c157:=by kernel_rfl
end Go.Proofs.YtmmhnfghklppiaaGreat.Vm
