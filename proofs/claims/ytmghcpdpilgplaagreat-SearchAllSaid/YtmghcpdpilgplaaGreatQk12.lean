/- The library's contract of slices.Sort at []int, laid at this program by the kit's own tool. -/
import Derived.Shelf.Sort.Plain
import Derived.Test.YtmghcpdpilgplaaGreatProg
namespace Go.Proofs
open Go.Shelf
def Tryz.lays189_ren:Go.Shelf.Ren:=⟨fun|189=>72|125=>124|257=>123|128=>149|129=>150|294=>140|295=>141|296=>142|297=>143|298=>144|299=>145|216=>146|300=>147|301=>148|328=>155|329=>156|330=>157|331=>158|332=>159|215=>160|343=>161|n=>n,fun|28=>52|3=>3|46=>160|0=>0|51=>184|53=>186|4=>4|183=>177|182=>176|131=>29|5=>5|9=>9|218=>189|222=>193|228=>195|229=>196|n=>n,fun|n=>n⟩
theorem Tryz.lays189:Go.Proofs.Lays.n189 Tryz.prog Tryz.lays189_ren:={
 mixed:=by kernel_rfl
 f125:=Tryz.func124.trans (congrArg some (by kernel_rfl))
 f128:=Tryz.func149.trans (congrArg some (by kernel_rfl))
 f129:=Tryz.func150.trans (congrArg some (by kernel_rfl))
 f189:=Tryz.func72.trans (congrArg some (by kernel_rfl))
 f215:=Tryz.func160.trans (congrArg some (by kernel_rfl))
 f216:=Tryz.func146.trans (congrArg some (by kernel_rfl))
 f257:=Tryz.func123.trans (congrArg some (by kernel_rfl))
 f294:=Tryz.func140.trans (congrArg some (by kernel_rfl))
 f295:=Tryz.func141.trans (congrArg some (by kernel_rfl))
 f296:=Tryz.func142.trans (congrArg some (by kernel_rfl))
 f297:=Tryz.func143.trans (congrArg some (by kernel_rfl))
 f298:=Tryz.func144.trans (congrArg some (by kernel_rfl))
 f299:=Tryz.func145.trans (congrArg some (by kernel_rfl))
 f300:=Tryz.func147.trans (congrArg some (by kernel_rfl))
 f301:=Tryz.func148.trans (congrArg some (by kernel_rfl))
 f328:=Tryz.func155.trans (congrArg some (by kernel_rfl))
 f329:=Tryz.func156.trans (congrArg some (by kernel_rfl))
 f330:=Tryz.func157.trans (congrArg some (by kernel_rfl))
 f331:=Tryz.func158.trans (congrArg some (by kernel_rfl))
 f332:=Tryz.func159.trans (congrArg some (by kernel_rfl))
 f343:=Tryz.func161.trans (congrArg some (by kernel_rfl))
 t0:=Tryz.underlying0
 a0:=Tryz.isAgg0
 z0:=Tryz.sizeOf0
 v0:=Tryz.zeroValue0
 t3:=Tryz.underlying3
 a3:=Tryz.isAgg3
 z3:=Tryz.sizeOf3
 v3:=Tryz.zeroValue3
 t4:=Tryz.underlying4
 a4:=Tryz.isAgg4
 z4:=Tryz.sizeOf4
 v4:=Tryz.zeroValue4
 t5:=Tryz.underlying5
 a5:=Tryz.isAgg5
 z5:=Tryz.sizeOf5
 v5:=Tryz.zeroValue5
 t9:=Tryz.underlying9
 a9:=Tryz.isAgg9
 z9:=Tryz.sizeOf9
 v9:=Tryz.zeroValue9
 t28:=Tryz.underlying52
 a28:=Tryz.isAgg52
 z28:=Tryz.sizeOf52
 v28:=Tryz.zeroValue52
 t46:=Tryz.underlying160
 a46:=Tryz.isAgg160
 z46:=Tryz.sizeOf160
 v46:=Tryz.zeroValue160
 t51:=Tryz.underlying184
 a51:=Tryz.isAgg184
 z51:=Tryz.sizeOf184
 v51:=Tryz.zeroValue184
 t53:=Tryz.underlying186
 a53:=Tryz.isAgg186
 z53:=Tryz.sizeOf186
 v53:=Tryz.zeroValue186
 t131:=Tryz.underlying29
 a131:=Tryz.isAgg29
 z131:=Tryz.sizeOf29
 v131:=Tryz.zeroValue29
 t182:=Tryz.underlying176
 a182:=Tryz.isAgg176
 z182:=Tryz.sizeOf176
 v182:=Tryz.zeroValue176
 t183:=Tryz.underlying177
 a183:=Tryz.isAgg177
 z183:=Tryz.sizeOf177
 v183:=Tryz.zeroValue177
 t218:=Tryz.underlying189
 a218:=Tryz.isAgg189
 z218:=Tryz.sizeOf189
 v218:=Tryz.zeroValue189
 t222:=Tryz.underlying193
 a222:=Tryz.isAgg193
 z222:=Tryz.sizeOf193
 v222:=Tryz.zeroValue193
 t228:=Tryz.underlying195
 a228:=Tryz.isAgg195
 z228:=Tryz.sizeOf195
 v228:=Tryz.zeroValue195
 t229:=Tryz.underlying196
 a229:=Tryz.isAgg196
 z229:=Tryz.sizeOf196
 v229:=Tryz.zeroValue196 }
open Go.Sort Go.RowKit in
theorem Tryz.slices_Sort_int (blk off cap:Nat) (zs:List Int) (w:World) (hH:Holds (Value.int .i64) w blk off zs.toArray) (hblk:blk < w.heap.size) (hsz:zs.length < 4611686018427387904) :
  Calls Tryz.prog 72 #[.slice (some ⟨blk,off,none⟩) zs.length cap] w fun e w' =>
   e=.returned (.tuple #[])∧∃ n os,w'=grow (putRow (Value.int .i64) (Sort.ahead w n) blk off (zs.mergeSort fun x y=>decide (x≤y)).toArray) os:=Any.slices_Sort_int Tryz.lays189 blk off cap zs w hH hblk hsz
end Go.Proofs
