/- The library's contract of slices.Sort at []int, laid at this program by the kit's own tool. -/
import Derived.Shelf.Sort.Plain
import Derived.Test.YtjjkgamklbgnlaaGreatProg
namespace Go.Proofs
open Go.Shelf
def Tryz.lays189_ren : Go.Shelf.Ren := ⟨fun | 189 => 50 | 125 => 96 | 257 => 95 | 128 => 124 | 129 => 125 | 294 => 115 | 295 => 116 | 296 => 117 | 297 => 118 | 298 => 119 | 299 => 120 | 216 => 121 | 300 => 122 | 301 => 123 | 328 => 133 | 329 => 134 | 330 => 135 | 331 => 136 | 332 => 137 | 215 => 138 | 343 => 140 | n => n, fun | 28 => 28 | 3 => 3 | 46 => 140 | 0 => 0 | 51 => 164 | 53 => 166 | 4 => 4 | 183 => 156 | 182 => 155 | 131 => 161 | 5 => 5 | 9 => 9 | 218 => 171 | 222 => 175 | 228 => 177 | 229 => 178 | n => n, fun | n => n⟩
theorem Tryz.lays189 : Go.Proofs.Lays.n189 Tryz.prog Tryz.lays189_ren := {
  mixed := by kernel_rfl
  f125 := Tryz.func96.trans (congrArg some (by kernel_rfl))
  f128 := Tryz.func124.trans (congrArg some (by kernel_rfl))
  f129 := Tryz.func125.trans (congrArg some (by kernel_rfl))
  f189 := Tryz.func50.trans (congrArg some (by kernel_rfl))
  f215 := Tryz.func138.trans (congrArg some (by kernel_rfl))
  f216 := Tryz.func121.trans (congrArg some (by kernel_rfl))
  f257 := Tryz.func95.trans (congrArg some (by kernel_rfl))
  f294 := Tryz.func115.trans (congrArg some (by kernel_rfl))
  f295 := Tryz.func116.trans (congrArg some (by kernel_rfl))
  f296 := Tryz.func117.trans (congrArg some (by kernel_rfl))
  f297 := Tryz.func118.trans (congrArg some (by kernel_rfl))
  f298 := Tryz.func119.trans (congrArg some (by kernel_rfl))
  f299 := Tryz.func120.trans (congrArg some (by kernel_rfl))
  f300 := Tryz.func122.trans (congrArg some (by kernel_rfl))
  f301 := Tryz.func123.trans (congrArg some (by kernel_rfl))
  f328 := Tryz.func133.trans (congrArg some (by kernel_rfl))
  f329 := Tryz.func134.trans (congrArg some (by kernel_rfl))
  f330 := Tryz.func135.trans (congrArg some (by kernel_rfl))
  f331 := Tryz.func136.trans (congrArg some (by kernel_rfl))
  f332 := Tryz.func137.trans (congrArg some (by kernel_rfl))
  f343 := Tryz.func140.trans (congrArg some (by kernel_rfl))
  t0 := Tryz.underlying0
  a0 := Tryz.isAgg0
  z0 := Tryz.sizeOf0
  v0 := Tryz.zeroValue0
  t3 := Tryz.underlying3
  a3 := Tryz.isAgg3
  z3 := Tryz.sizeOf3
  v3 := Tryz.zeroValue3
  t4 := Tryz.underlying4
  a4 := Tryz.isAgg4
  z4 := Tryz.sizeOf4
  v4 := Tryz.zeroValue4
  t5 := Tryz.underlying5
  a5 := Tryz.isAgg5
  z5 := Tryz.sizeOf5
  v5 := Tryz.zeroValue5
  t9 := Tryz.underlying9
  a9 := Tryz.isAgg9
  z9 := Tryz.sizeOf9
  v9 := Tryz.zeroValue9
  t28 := Tryz.underlying28
  a28 := Tryz.isAgg28
  z28 := Tryz.sizeOf28
  v28 := Tryz.zeroValue28
  t46 := Tryz.underlying140
  a46 := Tryz.isAgg140
  z46 := Tryz.sizeOf140
  v46 := Tryz.zeroValue140
  t51 := Tryz.underlying164
  a51 := Tryz.isAgg164
  z51 := Tryz.sizeOf164
  v51 := Tryz.zeroValue164
  t53 := Tryz.underlying166
  a53 := Tryz.isAgg166
  z53 := Tryz.sizeOf166
  v53 := Tryz.zeroValue166
  t131 := Tryz.underlying161
  a131 := Tryz.isAgg161
  z131 := Tryz.sizeOf161
  v131 := Tryz.zeroValue161
  t182 := Tryz.underlying155
  a182 := Tryz.isAgg155
  z182 := Tryz.sizeOf155
  v182 := Tryz.zeroValue155
  t183 := Tryz.underlying156
  a183 := Tryz.isAgg156
  z183 := Tryz.sizeOf156
  v183 := Tryz.zeroValue156
  t218 := Tryz.underlying171
  a218 := Tryz.isAgg171
  z218 := Tryz.sizeOf171
  v218 := Tryz.zeroValue171
  t222 := Tryz.underlying175
  a222 := Tryz.isAgg175
  z222 := Tryz.sizeOf175
  v222 := Tryz.zeroValue175
  t228 := Tryz.underlying177
  a228 := Tryz.isAgg177
  z228 := Tryz.sizeOf177
  v228 := Tryz.zeroValue177
  t229 := Tryz.underlying178
  a229 := Tryz.isAgg178
  z229 := Tryz.sizeOf178
  v229 := Tryz.zeroValue178 }
open Go.Sort Go.RowKit in
theorem Tryz.slices_Sort_int (blk off cap : Nat) (zs : List Int) (w : World) (hH : Holds (Value.int .i64) w blk off zs.toArray) (hblk : blk < w.heap.size) (hsz : zs.length < 4611686018427387904) :
    Calls Tryz.prog 50 #[.slice (some ⟨blk, off, none⟩) zs.length cap] w fun e w' =>
      e = .returned (.tuple #[]) ∧ ∃ n os, w' = grow (putRow (Value.int .i64) (Sort.ahead w n) blk off (zs.mergeSort fun x y => decide (x ≤ y)).toArray) os := Any.slices_Sort_int Tryz.lays189 blk off cap zs w hH hblk hsz
end Go.Proofs
