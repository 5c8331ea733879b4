/- The library's contract of slices.Sort at []int, laid at this program by the kit's own tool. -/
import Derived.Shelf.Sort.Plain
import Derived.Test.YtmmhnfghklppiaaProg
namespace Go.Proofs
open Go.Shelf
def Try.lays189_ren:Go.Shelf.Ren:=⟨fun|189=>19|125=>38|257=>37|128=>63|129=>64|294=>54|295=>55|296=>56|297=>57|298=>58|299=>59|216=>60|300=>61|301=>62|328=>75|329=>76|330=>77|331=>78|332=>79|215=>80|343=>83|n=>n,fun|28=>28|3=>3|46=>80|0=>0|51=>113|53=>115|4=>4|183=>105|182=>104|131=>110|5=>5|9=>9|218=>126|222=>130|228=>135|229=>136|n=>n,fun|n=>n⟩
theorem Try.lays189:Go.Proofs.Lays.n189 Try.prog Try.lays189_ren:={
 mixed:=by kernel_rfl
 f125:=Try.func38.trans (congrArg some (by kernel_rfl))
 f128:=Try.func63.trans (congrArg some (by kernel_rfl))
 f129:=Try.func64.trans (congrArg some (by kernel_rfl))
 f189:=Try.func19.trans (congrArg some (by kernel_rfl))
 f215:=Try.func80.trans (congrArg some (by kernel_rfl))
 f216:=Try.func60.trans (congrArg some (by kernel_rfl))
 f257:=Try.func37.trans (congrArg some (by kernel_rfl))
 f294:=Try.func54.trans (congrArg some (by kernel_rfl))
 f295:=Try.func55.trans (congrArg some (by kernel_rfl))
 f296:=Try.func56.trans (congrArg some (by kernel_rfl))
 f297:=Try.func57.trans (congrArg some (by kernel_rfl))
 f298:=Try.func58.trans (congrArg some (by kernel_rfl))
 f299:=Try.func59.trans (congrArg some (by kernel_rfl))
 f300:=Try.func61.trans (congrArg some (by kernel_rfl))
 f301:=Try.func62.trans (congrArg some (by kernel_rfl))
 f328:=Try.func75.trans (congrArg some (by kernel_rfl))
 f329:=Try.func76.trans (congrArg some (by kernel_rfl))
 f330:=Try.func77.trans (congrArg some (by kernel_rfl))
 f331:=Try.func78.trans (congrArg some (by kernel_rfl))
 f332:=Try.func79.trans (congrArg some (by kernel_rfl))
 f343:=Try.func83.trans (congrArg some (by kernel_rfl))
 t0:=Try.underlying0
 a0:=Try.isAgg0
 z0:=Try.sizeOf0
 v0:=Try.zeroValue0
 t3:=Try.underlying3
 a3:=Try.isAgg3
 z3:=Try.sizeOf3
 v3:=Try.zeroValue3
 t4:=Try.underlying4
 a4:=Try.isAgg4
 z4:=Try.sizeOf4
 v4:=Try.zeroValue4
 t5:=Try.underlying5
 a5:=Try.isAgg5
 z5:=Try.sizeOf5
 v5:=Try.zeroValue5
 t9:=Try.underlying9
 a9:=Try.isAgg9
 z9:=Try.sizeOf9
 v9:=Try.zeroValue9
 t28:=Try.underlying28
 a28:=Try.isAgg28
 z28:=Try.sizeOf28
 v28:=Try.zeroValue28
 t46:=Try.underlying80
 a46:=Try.isAgg80
 z46:=Try.sizeOf80
 v46:=Try.zeroValue80
 t51:=Try.underlying113
 a51:=Try.isAgg113
 z51:=Try.sizeOf113
 v51:=Try.zeroValue113
 t53:=Try.underlying115
 a53:=Try.isAgg115
 z53:=Try.sizeOf115
 v53:=Try.zeroValue115
 t131:=Try.underlying110
 a131:=Try.isAgg110
 z131:=Try.sizeOf110
 v131:=Try.zeroValue110
 t182:=Try.underlying104
 a182:=Try.isAgg104
 z182:=Try.sizeOf104
 v182:=Try.zeroValue104
 t183:=Try.underlying105
 a183:=Try.isAgg105
 z183:=Try.sizeOf105
 v183:=Try.zeroValue105
 t218:=Try.underlying126
 a218:=Try.isAgg126
 z218:=Try.sizeOf126
 v218:=Try.zeroValue126
 t222:=Try.underlying130
 a222:=Try.isAgg130
 z222:=Try.sizeOf130
 v222:=Try.zeroValue130
 t228:=Try.underlying135
 a228:=Try.isAgg135
 z228:=Try.sizeOf135
 v228:=Try.zeroValue135
 t229:=Try.underlying136
 a229:=Try.isAgg136
 z229:=Try.sizeOf136
 v229:=Try.zeroValue136 }
open Go.Sort Go.RowKit in
theorem Try.slices_Sort_int (blk off cap:Nat) (zs:List Int) (w:World) (hH:Holds (Value.int .i64) w blk off zs.toArray) (hblk:blk < w.heap.size) (hsz:zs.length < 4611686018427387904) :
  Calls Try.prog 19 #[.slice (some ⟨blk,off,none⟩) zs.length cap] w fun e w' =>
   e=.returned (.tuple #[])∧∃ n os,w'=grow (putRow (Value.int .i64) (Sort.ahead w n) blk off (zs.mergeSort fun x y=>decide (x≤y)).toArray) os:=Any.slices_Sort_int Try.lays189 blk off cap zs w hH hblk hsz
end Go.Proofs
