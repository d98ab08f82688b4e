/- The contract of slices.Sort at this program, as the shelf's plain mode lays it. -/
import Derived.Shelf.Sort.Plain
import Derived.Test.YtkopbcehfbmnmaaProg
namespace Go.Proofs
open Go.Shelf
def Try.lays189_ren : Go.Shelf.Ren := ⟨fun | 189 => 73 | 125 => 141 | 257 => 140 | 128 => 174 | 129 => 175 | 294 => 165 | 295 => 166 | 296 => 167 | 297 => 168 | 298 => 169 | 299 => 170 | 216 => 171 | 300 => 172 | 301 => 173 | 328 => 183 | 329 => 184 | 330 => 185 | 331 => 186 | 332 => 187 | 215 => 188 | 343 => 191 | n => n, fun | 28 => 22 | 3 => 3 | 46 => 100 | 0 => 0 | 51 => 124 | 53 => 126 | 4 => 4 | 183 => 117 | 182 => 116 | 131 => 121 | 5 => 5 | 9 => 9 | 218 => 133 | 222 => 137 | 228 => 140 | 229 => 107 | n => n, fun | n => n⟩
theorem Try.lays189 : Go.Proofs.Lays.n189 Try.prog Try.lays189_ren := {
  mixed := by kernel_rfl
  f125 := Try.func141.trans (congrArg some (by kernel_rfl))
  f128 := Try.func174.trans (congrArg some (by kernel_rfl))
  f129 := Try.func175.trans (congrArg some (by kernel_rfl))
  f189 := Try.func73.trans (congrArg some (by kernel_rfl))
  f215 := Try.func188.trans (congrArg some (by kernel_rfl))
  f216 := Try.func171.trans (congrArg some (by kernel_rfl))
  f257 := Try.func140.trans (congrArg some (by kernel_rfl))
  f294 := Try.func165.trans (congrArg some (by kernel_rfl))
  f295 := Try.func166.trans (congrArg some (by kernel_rfl))
  f296 := Try.func167.trans (congrArg some (by kernel_rfl))
  f297 := Try.func168.trans (congrArg some (by kernel_rfl))
  f298 := Try.func169.trans (congrArg some (by kernel_rfl))
  f299 := Try.func170.trans (congrArg some (by kernel_rfl))
  f300 := Try.func172.trans (congrArg some (by kernel_rfl))
  f301 := Try.func173.trans (congrArg some (by kernel_rfl))
  f328 := Try.func183.trans (congrArg some (by kernel_rfl))
  f329 := Try.func184.trans (congrArg some (by kernel_rfl))
  f330 := Try.func185.trans (congrArg some (by kernel_rfl))
  f331 := Try.func186.trans (congrArg some (by kernel_rfl))
  f332 := Try.func187.trans (congrArg some (by kernel_rfl))
  f343 := Try.func191.trans (congrArg some (by kernel_rfl))
  t0 := Try.underlying0
  a0 := Try.isAgg0
  z0 := Try.sizeOf0
  v0 := Try.zeroValue0
  t3 := Try.underlying3
  a3 := Try.isAgg3
  z3 := Try.sizeOf3
  v3 := Try.zeroValue3
  t4 := Try.underlying4
  a4 := Try.isAgg4
  z4 := Try.sizeOf4
  v4 := Try.zeroValue4
  t5 := Try.underlying5
  a5 := Try.isAgg5
  z5 := Try.sizeOf5
  v5 := Try.zeroValue5
  t9 := Try.underlying9
  a9 := Try.isAgg9
  z9 := Try.sizeOf9
  v9 := Try.zeroValue9
  t28 := Try.underlying22
  a28 := Try.isAgg22
  z28 := Try.sizeOf22
  v28 := Try.zeroValue22
  t46 := Try.underlying100
  a46 := Try.isAgg100
  z46 := Try.sizeOf100
  v46 := Try.zeroValue100
  t51 := Try.underlying124
  a51 := Try.isAgg124
  z51 := Try.sizeOf124
  v51 := Try.zeroValue124
  t53 := Try.underlying126
  a53 := Try.isAgg126
  z53 := Try.sizeOf126
  v53 := Try.zeroValue126
  t131 := Try.underlying121
  a131 := Try.isAgg121
  z131 := Try.sizeOf121
  v131 := Try.zeroValue121
  t182 := Try.underlying116
  a182 := Try.isAgg116
  z182 := Try.sizeOf116
  v182 := Try.zeroValue116
  t183 := Try.underlying117
  a183 := Try.isAgg117
  z183 := Try.sizeOf117
  v183 := Try.zeroValue117
  t218 := Try.underlying133
  a218 := Try.isAgg133
  z218 := Try.sizeOf133
  v218 := Try.zeroValue133
  t222 := Try.underlying137
  a222 := Try.isAgg137
  z222 := Try.sizeOf137
  v222 := Try.zeroValue137
  t228 := Try.underlying140
  a228 := Try.isAgg140
  z228 := Try.sizeOf140
  v228 := Try.zeroValue140
  t229 := Try.underlying107
  a229 := Try.isAgg107
  z229 := Try.sizeOf107
  v229 := Try.zeroValue107 }
open Go.Sort Go.RowKit in
theorem Try.slices_Sort_int (blk off cap : Nat) (zs : List Int) (w : World) (hH : Holds (Value.int .i64) w blk off zs.toArray) (hblk : blk < w.heap.size) (hsz : zs.length < 4611686018427387904) :
    Calls Try.prog 73 #[.slice (some ⟨blk, off, none⟩) zs.length cap] w fun e w' =>
      e = .returned (.tuple #[]) ∧ ∃ n os, w' = grow (putRow (Value.int .i64) (Sort.ahead w n) blk off (zs.mergeSort fun x y => decide (x ≤ y)).toArray) os := Any.slices_Sort_int Try.lays189 blk off cap zs w hH hblk hsz
end Go.Proofs
