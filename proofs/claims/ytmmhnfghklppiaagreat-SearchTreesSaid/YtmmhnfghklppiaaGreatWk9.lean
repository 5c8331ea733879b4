/- Short forms for printing the machine's code. It only defines. -/
import Derived.Test.YtmmhnfghklppiaaGreatWk3
set_option linter.unusedVariables false
set_option linter.unusedSimpArgs false
namespace Go.Proofs.YtmmhnfghklppiaaGreat.Vm
abbrev tT (t:Nat):aa:=.tmp t
abbrev oP (d:Nat) (p:mI):af:=⟨some d,p,none⟩
abbrev mT (d t:Nat):af:=⟨some d,.iL (.tmp t),none⟩
abbrev oG (d g:Nat) (b:Bool) (p:mI):af:=⟨some d,p,some (some g,b)⟩
abbrev qA (s:Nat) (x:aa):mI:=.load true s x
abbrev qL (d t:Nat):af:=⟨some d,.load false 1 (.tmp t),none⟩
abbrev qF (k:Nat) (x:aa):mI:=.fieldAddr k x
abbrev qI (z:Nat) (a b:aa):mI:=.indexAddr z none a b
abbrev qB (o:BinOp) (a b:aa):mI:=.bin o .num a b
abbrev qS (x:aa):mI:=.wP x
abbrev qN (x:aa):mI:=.nilCheck x
abbrev qK (k:Int):aa:=.const (.int .i64 k)
abbrev qG (f:Nat):aa:=.const (.func f [])
abbrev qR (l:List af):aV:=.region none l
abbrev qZ:PV:=.int .i64 0
abbrev yA (d s t:Nat):af:=oP d (qA s (tT t))
abbrev yF (d k t:Nat):af:=oP d (qF k (tT t))
abbrev yI (d z a b:Nat):af:=oP d (qI z (tT a) (tT b))
abbrev yB (d:Nat) (o:BinOp) (a b:Nat):af:=oP d (qB o (tT a) (tT b))
abbrev yK (d:Nat) (o:BinOp) (a:Nat) (k:Int):af:=oP d (qB o (tT a) (qK k))
abbrev yM (d:Nat) (k:Int):af:=oP d (.iL (qK k))
abbrev yT (d:Nat) (b:Bool):af:=oP d (.iL (.const (.bool b)))
abbrev yS (s a b:Nat):af:=⟨none,.store s (tT a) (tT b),none⟩
abbrev yX (d i t:Nat):af:=oP d (.extract i (tT t))
abbrev yC (d f:Nat) (l:List Nat):af:=oP d (.call (qG f) (l.map .tmp))
abbrev yR (l:List af) (c:aV):aV:=.seq (qR l) c
abbrev uA (d g:Nat) (b:Bool) (s t:Nat):af:=oG d g b (qA s (tT t))
abbrev uF (d g:Nat) (b:Bool) (k t:Nat):af:=oG d g b (qF k (tT t))
abbrev uB (d g:Nat) (b:Bool) (o:BinOp) (x y:Nat):af:=oG d g b (qB o (tT x) (tT y))
abbrev uK (d g:Nat) (b:Bool) (o:BinOp) (x:Nat) (k:Int):af:=oG d g b (qB o (tT x) (qK k))
abbrev uM (d g:Nat) (b:Bool) (t:Nat):af:=oG d g b (.iL (tT t))
abbrev uL (d g:Nat) (b:Bool) (t:Nat):af:=oG d g b (.load false 1 (tT t))
abbrev uI (d g:Nat) (b:Bool) (z x y:Nat):af:=oG d g b (qI z (tT x) (tT y))
abbrev yO (d a b:Nat):af:=oP d (.pick (tT a) (.const (.bool true)) (tT b))
abbrev yN (d a b:Nat):af:=oP d (.pick (tT a) (tT b) (.const (.bool false)))
abbrev yD (t:Nat) (a b:aV):aV:=.cond (tT t) a b
abbrev yE (d t:Nat):af:=oP d (qS (tT t))
abbrev yQ (d t:Nat):af:=oP d (qN (tT t))
abbrev yP (d t:Nat):af:=oP d (.EO (tT t))
attribute [simp] yA yF yI yB yK yM yT yS yX yC yR uA uF uB uK uM uL uI yO yN yD yE yQ yP tT oP mT oG qA qL qF qI qB qS qN qK qG qR qZ
end Go.Proofs.YtmmhnfghklppiaaGreat.Vm
