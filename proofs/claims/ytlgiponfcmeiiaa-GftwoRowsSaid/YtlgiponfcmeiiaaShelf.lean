/- The contract of slices.Sort at this program, as the shelf's plain mode lays it. -/
import Derived.Shelf.Sort.Plain
import Derived.Shelf.Slices.In.SortNone
import Derived.Test.YtlgiponfcmeiiaaProg
namespace Go.Proofs
open Go.Shelf
def Try.lays189_ren : Go.Shelf.Ren := ⟨fun | 189 => 32 | 125 => 36 | 257 => 35 | 128 => 48 | 129 => 49 | 294 => 39 | 295 => 40 | 296 => 41 | 297 => 42 | 298 => 43 | 299 => 44 | 216 => 45 | 300 => 46 | 301 => 47 | 328 => 51 | 329 => 52 | 330 => 53 | 331 => 54 | 332 => 55 | 215 => 34 | 343 => 57 | n => n, fun | 28 => 36 | 3 => 3 | 46 => 61 | 0 => 0 | 51 => 74 | 53 => 76 | 4 => 4 | 183 => 66 | 182 => 65 | 131 => 71 | 5 => 5 | 9 => 9 | 218 => 77 | 222 => 81 | 228 => 83 | 229 => 84 | n => n, fun | n => n⟩
theorem Try.lays189 : Go.Proofs.Lays.n189 Try.prog Try.lays189_ren := {
  mixed := by kernel_rfl
  f125 := Try.func36.trans (congrArg some (by kernel_rfl))
  f128 := Try.func48.trans (congrArg some (by kernel_rfl))
  f129 := Try.func49.trans (congrArg some (by kernel_rfl))
  f189 := Try.func32.trans (congrArg some (by kernel_rfl))
  f215 := Try.func34.trans (congrArg some (by kernel_rfl))
  f216 := Try.func45.trans (congrArg some (by kernel_rfl))
  f257 := Try.func35.trans (congrArg some (by kernel_rfl))
  f294 := Try.func39.trans (congrArg some (by kernel_rfl))
  f295 := Try.func40.trans (congrArg some (by kernel_rfl))
  f296 := Try.func41.trans (congrArg some (by kernel_rfl))
  f297 := Try.func42.trans (congrArg some (by kernel_rfl))
  f298 := Try.func43.trans (congrArg some (by kernel_rfl))
  f299 := Try.func44.trans (congrArg some (by kernel_rfl))
  f300 := Try.func46.trans (congrArg some (by kernel_rfl))
  f301 := Try.func47.trans (congrArg some (by kernel_rfl))
  f328 := Try.func51.trans (congrArg some (by kernel_rfl))
  f329 := Try.func52.trans (congrArg some (by kernel_rfl))
  f330 := Try.func53.trans (congrArg some (by kernel_rfl))
  f331 := Try.func54.trans (congrArg some (by kernel_rfl))
  f332 := Try.func55.trans (congrArg some (by kernel_rfl))
  f343 := Try.func57.trans (congrArg some (by kernel_rfl))
  t0 := Try.underlying0
  a0 := Try.isAgg0
  z0 := Try.sizeOf0
  v0 := Try.zeroValue0
  t3 := Try.underlying3
  a3 := Try.isAgg3
  z3 := Try.sizeOf3
  v3 := Try.zeroValue3
  t4 := Try.underlying4
  a4 := Try.isAgg4
  z4 := Try.sizeOf4
  v4 := Try.zeroValue4
  t5 := Try.underlying5
  a5 := Try.isAgg5
  z5 := Try.sizeOf5
  v5 := Try.zeroValue5
  t9 := Try.underlying9
  a9 := Try.isAgg9
  z9 := Try.sizeOf9
  v9 := Try.zeroValue9
  t28 := Try.underlying36
  a28 := Try.isAgg36
  z28 := Try.sizeOf36
  v28 := Try.zeroValue36
  t46 := Try.underlying61
  a46 := Try.isAgg61
  z46 := Try.sizeOf61
  v46 := Try.zeroValue61
  t51 := Try.underlying74
  a51 := Try.isAgg74
  z51 := Try.sizeOf74
  v51 := Try.zeroValue74
  t53 := Try.underlying76
  a53 := Try.isAgg76
  z53 := Try.sizeOf76
  v53 := Try.zeroValue76
  t131 := Try.underlying71
  a131 := Try.isAgg71
  z131 := Try.sizeOf71
  v131 := Try.zeroValue71
  t182 := Try.underlying65
  a182 := Try.isAgg65
  z182 := Try.sizeOf65
  v182 := Try.zeroValue65
  t183 := Try.underlying66
  a183 := Try.isAgg66
  z183 := Try.sizeOf66
  v183 := Try.zeroValue66
  t218 := Try.underlying77
  a218 := Try.isAgg77
  z218 := Try.sizeOf77
  v218 := Try.zeroValue77
  t222 := Try.underlying81
  a222 := Try.isAgg81
  z222 := Try.sizeOf81
  v222 := Try.zeroValue81
  t228 := Try.underlying83
  a228 := Try.isAgg83
  z228 := Try.sizeOf83
  v228 := Try.zeroValue83
  t229 := Try.underlying84
  a229 := Try.isAgg84
  z229 := Try.sizeOf84
  v229 := Try.zeroValue84 }
open Go.Sort Go.RowKit in
theorem Try.slices_Sort_int (blk off cap : Nat) (zs : List Int) (w : World) (hH : Holds (Value.int .i64) w blk off zs.toArray) (hblk : blk < w.heap.size) (hsz : zs.length < 4611686018427387904) :
    Calls Try.prog 32 #[.slice (some ⟨blk, off, none⟩) zs.length cap] w fun e w' =>
      e = .returned (.tuple #[]) ∧ ∃ n os, w' = grow (putRow (Value.int .i64) (Sort.ahead w n) blk off (zs.mergeSort fun x y => decide (x ≤ y)).toArray) os := Any.slices_Sort_int Try.lays189 blk off cap zs w hH hblk hsz
open Go.RowKit Go.Sort in
/-- .. and plain. (LAID: no walk: one application.) -/
theorem Try.slices_Sort_int_none (p : Option Addr) (cap : Nat) (w : World) :
    Calls Try.prog 32 #[.slice p 0 cap] w fun e w' => e = .returned (.tuple #[]) ∧ w' = w := Any.slices_Sort_int_none Try.lays189 p cap w
end Go.Proofs
