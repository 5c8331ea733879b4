/- The library's contract of slices.Sort at []int, laid at this program by the kit's own tool. -/
import Derived.Shelf.Sort.Plain
import Derived.Test.YtleggocccaeemaaProg
set_option linter.unusedVariables false
set_option linter.unusedSimpArgs false
namespace Go.Proofs
open Go.Shelf
def Try.lays189_ren:Go.Shelf.Ren:=⟨fun|189=>37|125=>59|257=>58|128=>82|129=>83|294=>73|295=>74|296=>75|297=>76|298=>77|299=>78|216=>79|300=>80|301=>81|328=>90|329=>91|330=>92|331=>93|332=>94|215=>95|343=>97|n=>n,fun|28=>52|3=>3|46=>111|0=>0|51=>132|53=>134|4=>4|183=>125|182=>124|131=>44|5=>5|9=>9|218=>143|222=>147|228=>150|229=>151|n=>n,fun|n=>n⟩
theorem Try.lays189:Go.Proofs.Lays.n189 Try.prog Try.lays189_ren:={
 mixed:=by kernel_rfl
 f125:=Try.func59.trans (congrArg some (by kernel_rfl))
 f128:=Try.func82.trans (congrArg some (by kernel_rfl))
 f129:=Try.func83.trans (congrArg some (by kernel_rfl))
 f189:=Try.func37.trans (congrArg some (by kernel_rfl))
 f215:=Try.func95.trans (congrArg some (by kernel_rfl))
 f216:=Try.func79.trans (congrArg some (by kernel_rfl))
 f257:=Try.func58.trans (congrArg some (by kernel_rfl))
 f294:=Try.func73.trans (congrArg some (by kernel_rfl))
 f295:=Try.func74.trans (congrArg some (by kernel_rfl))
 f296:=Try.func75.trans (congrArg some (by kernel_rfl))
 f297:=Try.func76.trans (congrArg some (by kernel_rfl))
 f298:=Try.func77.trans (congrArg some (by kernel_rfl))
 f299:=Try.func78.trans (congrArg some (by kernel_rfl))
 f300:=Try.func80.trans (congrArg some (by kernel_rfl))
 f301:=Try.func81.trans (congrArg some (by kernel_rfl))
 f328:=Try.func90.trans (congrArg some (by kernel_rfl))
 f329:=Try.func91.trans (congrArg some (by kernel_rfl))
 f330:=Try.func92.trans (congrArg some (by kernel_rfl))
 f331:=Try.func93.trans (congrArg some (by kernel_rfl))
 f332:=Try.func94.trans (congrArg some (by kernel_rfl))
 f343:=Try.func97.trans (congrArg some (by kernel_rfl))
 t0:=Try.underlying0
 a0:=Try.isAgg0
 z0:=Try.sizeOf0
 v0:=Try.zeroValue0
 t3:=Try.underlying3
 a3:=Try.isAgg3
 z3:=Try.sizeOf3
 v3:=Try.zeroValue3
 t4:=Try.underlying4
 a4:=Try.isAgg4
 z4:=Try.sizeOf4
 v4:=Try.zeroValue4
 t5:=Try.underlying5
 a5:=Try.isAgg5
 z5:=Try.sizeOf5
 v5:=Try.zeroValue5
 t9:=Try.underlying9
 a9:=Try.isAgg9
 z9:=Try.sizeOf9
 v9:=Try.zeroValue9
 t28:=Try.underlying52
 a28:=Try.isAgg52
 z28:=Try.sizeOf52
 v28:=Try.zeroValue52
 t46:=Try.underlying111
 a46:=Try.isAgg111
 z46:=Try.sizeOf111
 v46:=Try.zeroValue111
 t51:=Try.underlying132
 a51:=Try.isAgg132
 z51:=Try.sizeOf132
 v51:=Try.zeroValue132
 t53:=Try.underlying134
 a53:=Try.isAgg134
 z53:=Try.sizeOf134
 v53:=Try.zeroValue134
 t131:=Try.underlying44
 a131:=Try.isAgg44
 z131:=Try.sizeOf44
 v131:=Try.zeroValue44
 t182:=Try.underlying124
 a182:=Try.isAgg124
 z182:=Try.sizeOf124
 v182:=Try.zeroValue124
 t183:=Try.underlying125
 a183:=Try.isAgg125
 z183:=Try.sizeOf125
 v183:=Try.zeroValue125
 t218:=Try.underlying143
 a218:=Try.isAgg143
 z218:=Try.sizeOf143
 v218:=Try.zeroValue143
 t222:=Try.underlying147
 a222:=Try.isAgg147
 z222:=Try.sizeOf147
 v222:=Try.zeroValue147
 t228:=Try.underlying150
 a228:=Try.isAgg150
 z228:=Try.sizeOf150
 v228:=Try.zeroValue150
 t229:=Try.underlying151
 a229:=Try.isAgg151
 z229:=Try.sizeOf151
 v229:=Try.zeroValue151 }
open Go.Sort Go.RowKit in
theorem Try.slices_Sort_int (blk off cap:Nat) (zs:List Int) (w:World) (hH:Holds (Value.int .i64) w blk off zs.toArray) (hblk:blk < w.heap.size) (hsz:zs.length < 4611686018427387904) :
  Calls Try.prog 37 #[.slice (some ⟨blk,off,none⟩) zs.length cap] w fun e w' =>
   e=.returned (.tuple #[])/\∃ n os,w'=grow (putRow (Value.int .i64) (Sort.ahead w n) blk off (zs.mergeSort fun x y=>decide (x<=y)).toArray) os:=Any.slices_Sort_int Try.lays189 blk off cap zs w hH hblk hsz
end Go.Proofs
