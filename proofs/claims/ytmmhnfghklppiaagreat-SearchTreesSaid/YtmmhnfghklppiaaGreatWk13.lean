/- The library's contract of slices.Sort at []int, laid at this program by the kit's own tool. -/
import Derived.Shelf.Sort.Plain
import Derived.Test.YtmmhnfghklppiaaGreatProg
set_option linter.unusedVariables false
set_option linter.unusedSimpArgs false
namespace Go.Proofs
open Go.Shelf
def Tryz.Ae:Go.Shelf.Ren:=⟨fun|189=>63|125=>109|257=>108|128=>136|129=>137|294=>127|295=>128|296=>129|297=>130|298=>131|299=>132|216=>133|300=>134|301=>135|328=>148|329=>149|330=>150|331=>151|332=>152|215=>153|343=>156|n=>n,fun|28=>32|3=>3|46=>168|0=>0|51=>190|53=>192|4=>4|183=>183|182=>182|131=>70|5=>5|9=>9|218=>204|222=>208|228=>211|229=>135|n=>n,fun|n=>n⟩
theorem Tryz.Ku:Go.Proofs.Lays.n189 Tryz.prog Tryz.Ae:={
 mixed:=by kernel_rfl
 f125:=Tryz.func109.trans (congrArg some (by kernel_rfl))
 f128:=Tryz.func136.trans (congrArg some (by kernel_rfl))
 f129:=Tryz.func137.trans (congrArg some (by kernel_rfl))
 f189:=Tryz.func63.trans (congrArg some (by kernel_rfl))
 f215:=Tryz.func153.trans (congrArg some (by kernel_rfl))
 f216:=Tryz.func133.trans (congrArg some (by kernel_rfl))
 f257:=Tryz.func108.trans (congrArg some (by kernel_rfl))
 f294:=Tryz.func127.trans (congrArg some (by kernel_rfl))
 f295:=Tryz.func128.trans (congrArg some (by kernel_rfl))
 f296:=Tryz.func129.trans (congrArg some (by kernel_rfl))
 f297:=Tryz.func130.trans (congrArg some (by kernel_rfl))
 f298:=Tryz.func131.trans (congrArg some (by kernel_rfl))
 f299:=Tryz.func132.trans (congrArg some (by kernel_rfl))
 f300:=Tryz.func134.trans (congrArg some (by kernel_rfl))
 f301:=Tryz.func135.trans (congrArg some (by kernel_rfl))
 f328:=Tryz.func148.trans (congrArg some (by kernel_rfl))
 f329:=Tryz.func149.trans (congrArg some (by kernel_rfl))
 f330:=Tryz.func150.trans (congrArg some (by kernel_rfl))
 f331:=Tryz.func151.trans (congrArg some (by kernel_rfl))
 f332:=Tryz.func152.trans (congrArg some (by kernel_rfl))
 f343:=Tryz.func156.trans (congrArg some (by kernel_rfl))
 t0:=Tryz.underlying0
 a0:=Tryz.isAgg0
 z0:=Tryz.sizeOf0
 v0:=Tryz.zeroValue0
 t3:=Tryz.underlying3
 a3:=Tryz.isAgg3
 z3:=Tryz.sizeOf3
 v3:=Tryz.zeroValue3
 t4:=Tryz.underlying4
 a4:=Tryz.isAgg4
 z4:=Tryz.sizeOf4
 v4:=Tryz.zeroValue4
 t5:=Tryz.underlying5
 a5:=Tryz.isAgg5
 z5:=Tryz.sizeOf5
 v5:=Tryz.zeroValue5
 t9:=Tryz.underlying9
 a9:=Tryz.isAgg9
 z9:=Tryz.sizeOf9
 v9:=Tryz.zeroValue9
 t28:=Tryz.underlying32
 a28:=Tryz.isAgg32
 z28:=Tryz.sizeOf32
 v28:=Tryz.zeroValue32
 t46:=Tryz.underlying168
 a46:=Tryz.isAgg168
 z46:=Tryz.sizeOf168
 v46:=Tryz.zeroValue168
 t51:=Tryz.underlying190
 a51:=Tryz.isAgg190
 z51:=Tryz.sizeOf190
 v51:=Tryz.zeroValue190
 t53:=Tryz.underlying192
 a53:=Tryz.isAgg192
 z53:=Tryz.sizeOf192
 v53:=Tryz.zeroValue192
 t131:=Tryz.underlying70
 a131:=Tryz.isAgg70
 z131:=Tryz.sizeOf70
 v131:=Tryz.zeroValue70
 t182:=Tryz.underlying182
 a182:=Tryz.isAgg182
 z182:=Tryz.sizeOf182
 v182:=Tryz.zeroValue182
 t183:=Tryz.underlying183
 a183:=Tryz.isAgg183
 z183:=Tryz.sizeOf183
 v183:=Tryz.zeroValue183
 t218:=Tryz.underlying204
 a218:=Tryz.isAgg204
 z218:=Tryz.sizeOf204
 v218:=Tryz.zeroValue204
 t222:=Tryz.underlying208
 a222:=Tryz.isAgg208
 z222:=Tryz.sizeOf208
 v222:=Tryz.zeroValue208
 t228:=Tryz.underlying211
 a228:=Tryz.isAgg211
 z228:=Tryz.sizeOf211
 v228:=Tryz.zeroValue211
 t229:=Tryz.underlying135
 a229:=Tryz.isAgg135
 z229:=Tryz.sizeOf135
 v229:=Tryz.zeroValue135 }
open Go.Sort Go.RowKit in
theorem Tryz.slices_Sort_int (blk off cap:Nat) (zs:List Int) (w:World) (hH:Holds (Value.int .i64) w blk off zs.toArray) (hblk:blk < w.heap.size) (bZ:zs.length < 4611686018427387904) :
  Calls Tryz.prog 63 #[.slice (some ⟨blk,off,none⟩) zs.length cap] w fun e w' =>
   e=.returned (.tuple #[])/\∃ n os,w'=grow (putRow (Value.int .i64) (Sort.ahead w n) blk off (zs.mergeSort fun x y=>decide (x<=y)).toArray) os:=Any.slices_Sort_int Tryz.Ku blk off cap zs w hH hblk bZ
end Go.Proofs
