/- Short forms for printing the machine's code. It only defines. -/
import Derived.Test.YtmmhnfghklppiaaGreatUk3
set_option linter.unusedVariables false
set_option linter.unusedSimpArgs false
namespace Go.Proofs.YtmmhnfghklppiaaGreat.Vm
abbrev tT (t:Nat):ag:=.tmp t
abbrev oP (d:Nat) (p:mG):au:=⟨some d,p,none⟩
abbrev mT (d t:Nat):au:=⟨some d,.iq (.tmp t),none⟩
abbrev oG (d g:Nat) (b:Bool) (p:mG):au:=⟨some d,p,some (some g,b)⟩
abbrev qA (s:Nat) (x:ag):mG:=.load true s x
abbrev qL (d t:Nat):au:=⟨some d,.load false 1 (.tmp t),none⟩
abbrev qF (k:Nat) (x:ag):mG:=.fieldAddr k x
abbrev qI (z:Nat) (a b:ag):mG:=.indexAddr z none a b
abbrev qB (o:BinOp) (a b:ag):mG:=.bin o .num a b
abbrev qS (x:ag):mG:=.xD x
abbrev qN (x:ag):mG:=.nilCheck x
abbrev qK (k:Int):ag:=.const (.int .i64 k)
abbrev qG (f:Nat):ag:=.const (.func f [])
abbrev qR (l:List au):aX:=.region none l
abbrev qZ:PV:=.int .i64 0
abbrev yA (d s t:Nat):au:=oP d (qA s (tT t))
abbrev yF (d k t:Nat):au:=oP d (qF k (tT t))
abbrev yI (d z a b:Nat):au:=oP d (qI z (tT a) (tT b))
abbrev yB (d:Nat) (o:BinOp) (a b:Nat):au:=oP d (qB o (tT a) (tT b))
abbrev yK (d:Nat) (o:BinOp) (a:Nat) (k:Int):au:=oP d (qB o (tT a) (qK k))
abbrev yM (d:Nat) (k:Int):au:=oP d (.iq (qK k))
abbrev yT (d:Nat) (b:Bool):au:=oP d (.iq (.const (.bool b)))
abbrev yS (s a b:Nat):au:=⟨none,.store s (tT a) (tT b),none⟩
abbrev yX (d i t:Nat):au:=oP d (.extract i (tT t))
abbrev yC (d f:Nat) (l:List Nat):au:=oP d (.call (qG f) (l.map .tmp))
abbrev yR (l:List au) (c:aX):aX:=.seq (qR l) c
abbrev uA (d g:Nat) (b:Bool) (s t:Nat):au:=oG d g b (qA s (tT t))
abbrev uF (d g:Nat) (b:Bool) (k t:Nat):au:=oG d g b (qF k (tT t))
abbrev uB (d g:Nat) (b:Bool) (o:BinOp) (x y:Nat):au:=oG d g b (qB o (tT x) (tT y))
abbrev uK (d g:Nat) (b:Bool) (o:BinOp) (x:Nat) (k:Int):au:=oG d g b (qB o (tT x) (qK k))
abbrev uM (d g:Nat) (b:Bool) (t:Nat):au:=oG d g b (.iq (tT t))
abbrev uL (d g:Nat) (b:Bool) (t:Nat):au:=oG d g b (.load false 1 (tT t))
abbrev uI (d g:Nat) (b:Bool) (z x y:Nat):au:=oG d g b (qI z (tT x) (tT y))
abbrev yO (d a b:Nat):au:=oP d (.pick (tT a) (.const (.bool true)) (tT b))
abbrev yN (d a b:Nat):au:=oP d (.pick (tT a) (tT b) (.const (.bool false)))
abbrev yD (t:Nat) (a b:aX):aX:=.cond (tT t) a b
abbrev yE (d t:Nat):au:=oP d (qS (tT t))
abbrev yQ (d t:Nat):au:=oP d (qN (tT t))
abbrev yP (d t:Nat):au:=oP d (.FQ (tT t))
attribute [simp] yA yF yI yB yK yM yT yS yX yC yR uA uF uB uK uM uL uI yO yN yD yE yQ yP tT oP mT oG qA qL qF qI qB qS qN qK qG qR qZ
end Go.Proofs.YtmmhnfghklppiaaGreat.Vm
