/- The library's contract of slices.Sort at []int, laid at this program by the kit's own tool. -/
import Derived.Shelf.Sort.Plain
import Derived.Test.YtnomliioadjdgaaGreatProg
namespace Go.Proofs
open Go.Shelf
def Tryz.lays189_ren : Go.Shelf.Ren := ⟨fun | 189 => 83 | 125 => 120 | 257 => 119 | 128 => 150 | 129 => 151 | 294 => 141 | 295 => 142 | 296 => 143 | 297 => 144 | 298 => 145 | 299 => 146 | 216 => 147 | 300 => 148 | 301 => 149 | 328 => 158 | 329 => 159 | 330 => 160 | 331 => 161 | 332 => 162 | 215 => 163 | 343 => 165 | n => n, fun | 28 => 55 | 3 => 3 | 46 => 170 | 0 => 0 | 51 => 194 | 53 => 196 | 4 => 4 | 183 => 186 | 182 => 185 | 131 => 191 | 5 => 5 | 9 => 9 | 218 => 200 | 222 => 204 | 228 => 206 | 229 => 207 | n => n, fun | n => n⟩
theorem Tryz.lays189 : Go.Proofs.Lays.n189 Tryz.prog Tryz.lays189_ren := {
  mixed := by kernel_rfl
  f125 := Tryz.func120.trans (congrArg some (by kernel_rfl))
  f128 := Tryz.func150.trans (congrArg some (by kernel_rfl))
  f129 := Tryz.func151.trans (congrArg some (by kernel_rfl))
  f189 := Tryz.func83.trans (congrArg some (by kernel_rfl))
  f215 := Tryz.func163.trans (congrArg some (by kernel_rfl))
  f216 := Tryz.func147.trans (congrArg some (by kernel_rfl))
  f257 := Tryz.func119.trans (congrArg some (by kernel_rfl))
  f294 := Tryz.func141.trans (congrArg some (by kernel_rfl))
  f295 := Tryz.func142.trans (congrArg some (by kernel_rfl))
  f296 := Tryz.func143.trans (congrArg some (by kernel_rfl))
  f297 := Tryz.func144.trans (congrArg some (by kernel_rfl))
  f298 := Tryz.func145.trans (congrArg some (by kernel_rfl))
  f299 := Tryz.func146.trans (congrArg some (by kernel_rfl))
  f300 := Tryz.func148.trans (congrArg some (by kernel_rfl))
  f301 := Tryz.func149.trans (congrArg some (by kernel_rfl))
  f328 := Tryz.func158.trans (congrArg some (by kernel_rfl))
  f329 := Tryz.func159.trans (congrArg some (by kernel_rfl))
  f330 := Tryz.func160.trans (congrArg some (by kernel_rfl))
  f331 := Tryz.func161.trans (congrArg some (by kernel_rfl))
  f332 := Tryz.func162.trans (congrArg some (by kernel_rfl))
  f343 := Tryz.func165.trans (congrArg some (by kernel_rfl))
  t0 := Tryz.underlying0
  a0 := Tryz.isAgg0
  z0 := Tryz.sizeOf0
  v0 := Tryz.zeroValue0
  t3 := Tryz.underlying3
  a3 := Tryz.isAgg3
  z3 := Tryz.sizeOf3
  v3 := Tryz.zeroValue3
  t4 := Tryz.underlying4
  a4 := Tryz.isAgg4
  z4 := Tryz.sizeOf4
  v4 := Tryz.zeroValue4
  t5 := Tryz.underlying5
  a5 := Tryz.isAgg5
  z5 := Tryz.sizeOf5
  v5 := Tryz.zeroValue5
  t9 := Tryz.underlying9
  a9 := Tryz.isAgg9
  z9 := Tryz.sizeOf9
  v9 := Tryz.zeroValue9
  t28 := Tryz.underlying55
  a28 := Tryz.isAgg55
  z28 := Tryz.sizeOf55
  v28 := Tryz.zeroValue55
  t46 := Tryz.underlying170
  a46 := Tryz.isAgg170
  z46 := Tryz.sizeOf170
  v46 := Tryz.zeroValue170
  t51 := Tryz.underlying194
  a51 := Tryz.isAgg194
  z51 := Tryz.sizeOf194
  v51 := Tryz.zeroValue194
  t53 := Tryz.underlying196
  a53 := Tryz.isAgg196
  z53 := Tryz.sizeOf196
  v53 := Tryz.zeroValue196
  t131 := Tryz.underlying191
  a131 := Tryz.isAgg191
  z131 := Tryz.sizeOf191
  v131 := Tryz.zeroValue191
  t182 := Tryz.underlying185
  a182 := Tryz.isAgg185
  z182 := Tryz.sizeOf185
  v182 := Tryz.zeroValue185
  t183 := Tryz.underlying186
  a183 := Tryz.isAgg186
  z183 := Tryz.sizeOf186
  v183 := Tryz.zeroValue186
  t218 := Tryz.underlying200
  a218 := Tryz.isAgg200
  z218 := Tryz.sizeOf200
  v218 := Tryz.zeroValue200
  t222 := Tryz.underlying204
  a222 := Tryz.isAgg204
  z222 := Tryz.sizeOf204
  v222 := Tryz.zeroValue204
  t228 := Tryz.underlying206
  a228 := Tryz.isAgg206
  z228 := Tryz.sizeOf206
  v228 := Tryz.zeroValue206
  t229 := Tryz.underlying207
  a229 := Tryz.isAgg207
  z229 := Tryz.sizeOf207
  v229 := Tryz.zeroValue207 }
open Go.Sort Go.RowKit in
theorem Tryz.slices_Sort_int (blk off cap : Nat) (zs : List Int) (w : World) (hH : Holds (Value.int .i64) w blk off zs.toArray) (hblk : blk < w.heap.size) (hsz : zs.length < 4611686018427387904) :
    Calls Tryz.prog 83 #[.slice (some ⟨blk, off, none⟩) zs.length cap] w fun e w' =>
      e = .returned (.tuple #[]) ∧ ∃ n os, w' = grow (putRow (Value.int .i64) (Sort.ahead w n) blk off (zs.mergeSort fun x y => decide (x ≤ y)).toArray) os := Any.slices_Sort_int Tryz.lays189 blk off cap zs w hH hblk hsz
end Go.Proofs
