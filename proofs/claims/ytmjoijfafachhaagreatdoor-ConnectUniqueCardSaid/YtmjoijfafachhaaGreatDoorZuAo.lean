/- The contracts of strings.Builder, strconv.Itoa, slices.Sort, Equal, Clone, Compact, Index at this program, as the shelf's plain mode lays them. slices.Grow of nil, slices.Concat. -/
import Derived.Shelf.Strings.Builder1
import Derived.Shelf.Small.Bits
import Derived.Shelf.Small.Wraps
import Derived.Shelf.Strings.BuilderF
import Derived.Shelf.Strings.BuilderK
import Derived.Shelf.Strconv.Itoa0
import Derived.Shelf.Strconv.Itoa1
import Derived.Shelf.LaysM
import Derived.Shelf.Strconv.Itoa2
import Derived.Shelf.Strconv.Itoa3
import Derived.Shelf.Sort.Plain
import Derived.Shelf.Slices.Turned
import Derived.Shelf.Slices.Equal
import Derived.Ground.Names2Prog
import Derived.Shelf.Slices.Clone
import Derived.Shelf.Slices.CompactI
import Derived.Shelf.Slices.SearchI
import Derived.Shelf.Slices.Cells
import Derived.Shelf.Slices.In.SortNone
import Derived.Shelf.Slices.Empties2
import Derived.Ground.SlgnProg
import Derived.Shelf.SlicesE.Clone
import Derived.Test.YtmjoijfafachhaaGreatDoorProg
import Derived.Lib.AppendZeros
import Derived.WalkKit
import Derived.WalkSpells
import Derived.WalkLawsBesides
import Derived.Deep.AppendSrc
import Derived.Deep.LoopGhost
import Derived.Deep.QuietTactic
import Derived.Deep.RegionWith
import Derived.Deep.DeepMust
import Derived.Deep.DeepFit
import Derived.BigQuiet
import Derived.Lib.Hide
import Derived.Outline
import Derived.Deep.Matrix
import Derived.Deep.DeepCutAuto
import Derived.Deep.RegionLaw
import Derived.Deep.RegionHeld3
import Derived.Test.YtmjoijfafachhaaGreatDoorZuAa
import Derived.Test.YtmjoijfafachhaaGreatDoorZuAb
import Derived.Test.YtmjoijfafachhaaGreatDoorZuAc
import Derived.Test.YtmjoijfafachhaaGreatDoorZuAd
import Derived.Test.YtmjoijfafachhaaGreatDoorZuAe
import Derived.Test.YtmjoijfafachhaaGreatDoorZuAf
import Derived.Test.YtmjoijfafachhaaGreatDoorZuAg
import Derived.Test.YtmjoijfafachhaaGreatDoorZuAh
import Derived.Test.YtmjoijfafachhaaGreatDoorZuAj
import Derived.Test.YtmjoijfafachhaaGreatDoorZuAk
namespace Go.Proofs
open Go.Shelf
def Tryz.lays169_ren : Go.Shelf.Ren := ⟨fun | 169 => 34 | n => n, fun | 70 => 50 | 9 => 9 | 0 => 0 | 72 => 53 | 37 => 51 | 127 => 79 | 3 => 3 | 5 => 5 | n => n, fun | n => n⟩
theorem Tryz.lays169 : Go.Proofs.Lays.n169 Tryz.prog Tryz.lays169_ren := {
  mixed := by kernel_rfl
  f169 := Tryz.func34.trans (congrArg some (by kernel_rfl))
  t0 := Tryz.underlying0
  a0 := Tryz.isAgg0
  z0 := Tryz.sizeOf0
  v0 := Tryz.zeroValue0
  t3 := Tryz.underlying3
  a3 := Tryz.isAgg3
  z3 := Tryz.sizeOf3
  v3 := Tryz.zeroValue3
  t9 := Tryz.underlying9
  a9 := Tryz.isAgg9
  z9 := Tryz.sizeOf9
  v9 := Tryz.zeroValue9
  t37 := Tryz.underlying51
  a37 := Tryz.isAgg51
  z37 := Tryz.sizeOf51
  v37 := Tryz.zeroValue51
  t70 := Tryz.underlying50
  a70 := Tryz.isAgg50
  z70 := Tryz.sizeOf50
  v70 := Tryz.zeroValue50
  t72 := Tryz.underlying53
  a72 := Tryz.isAgg53
  z72 := Tryz.sizeOf53
  v72 := Tryz.zeroValue53
  t127 := Tryz.underlying79
  a127 := Tryz.isAgg79
  z127 := Tryz.sizeOf79
  v127 := Tryz.zeroValue79 }
theorem Tryz.Builder_Extra_169 : Builder.Extra Tryz.prog Tryz.lays169_ren := {
  sizeBuilder := by kernel_rfl
  liesBuilder := by kernel_rfl
  t5 := Tryz.underlying5
  a5 := Tryz.isAgg5
  z5 := Tryz.sizeOf5
  v5 := Tryz.zeroValue5
  infoByte := by kernel_rfl
  cellsByte := by kernel_rfl
  sizeByte := by kernel_rfl
  neB5 := by decide }
open Go.RowKit in
/-- (*strings.Builder).String: "String returns the accumulated string.": WHATEVER THE BUILDER HOLDS. (LAID: no walk: one application.) -/
theorem Tryz.Builder_String_any (B b : Nat) (l : List UInt8) (w : World) (h : Lib.IsBuilder 53 5 B b (Lib.byteCells l) w) (hBw : B ≤ w.heap.size) :
    Calls Tryz.prog 34 #[.pointer (some ⟨b, 0, none⟩)] w fun e w' => e = .returned (.string ⟨l.toArray⟩) ∧ Below B w w' := Any.Builder_String_any Tryz.lays169 Tryz.Builder_Extra_169 B b l w h hBw
def Tryz.laysM171_ren : Go.Shelf.Ren := ⟨fun | 171 => 33 | 243 => 47 | 246 => 79 | 283 => 94 | 284 => 95 | 285 => 96 | 286 => 97 | 129 => 58 | 317 => 102 | 318 => 103 | 319 => 104 | 320 => 105 | 337 => 107 | 338 => 108 | n => n, fun | 3 => 3 | 9 => 9 | 2 => 2 | 4 => 4 | 171 => 124 | 0 => 0 | 53 => 92 | 37 => 51 | 5 => 5 | 173 => 126 | 212 => 135 | 51 => 90 | 20 => 20 | 213 => 136 | 46 => 63 | 232 => 137 | 233 => 138 | n => n, fun | 17 => 0 | 18 => 1 | 19 => 2 | n => n⟩
theorem Tryz.laysM171 : Go.Proofs.LaysM.n171 Tryz.prog Tryz.laysM171_ren := {
  mixed := by kernel_rfl
  f129 := Tryz.func58.trans (congrArg some (by kernel_rfl))
  f171 := Tryz.func33.trans (congrArg some (by kernel_rfl))
  f243 := Tryz.func47.trans (congrArg some (by kernel_rfl))
  f246 := Tryz.func79.trans (congrArg some (by kernel_rfl))
  f283 := Tryz.func94.trans (congrArg some (by kernel_rfl))
  f284 := Tryz.func95.trans (congrArg some (by kernel_rfl))
  f285 := Tryz.func96.trans (congrArg some (by kernel_rfl))
  f286 := Tryz.func97.trans (congrArg some (by kernel_rfl))
  f317 := Tryz.func102.trans (congrArg some (by kernel_rfl))
  f318 := Tryz.func103.trans (congrArg some (by kernel_rfl))
  f319 := Tryz.func104.trans (congrArg some (by kernel_rfl))
  f320 := Tryz.func105.trans (congrArg some (by kernel_rfl))
  f337 := Tryz.func107.trans (congrArg some (by kernel_rfl))
  f338 := Tryz.func108.trans (congrArg some (by kernel_rfl))
  t0 := Tryz.underlying0
  a0 := Tryz.isAgg0
  z0 := Tryz.sizeOf0
  v0 := Tryz.zeroValue0
  t2 := Tryz.underlying2
  a2 := Tryz.isAgg2
  z2 := Tryz.sizeOf2
  v2 := Tryz.zeroValue2
  t3 := Tryz.underlying3
  a3 := Tryz.isAgg3
  z3 := Tryz.sizeOf3
  v3 := Tryz.zeroValue3
  t4 := Tryz.underlying4
  a4 := Tryz.isAgg4
  z4 := Tryz.sizeOf4
  v4 := Tryz.zeroValue4
  t5 := Tryz.underlying5
  a5 := Tryz.isAgg5
  z5 := Tryz.sizeOf5
  v5 := Tryz.zeroValue5
  t9 := Tryz.underlying9
  a9 := Tryz.isAgg9
  z9 := Tryz.sizeOf9
  v9 := Tryz.zeroValue9
  t20 := Tryz.underlying20
  a20 := Tryz.isAgg20
  z20 := Tryz.sizeOf20
  v20 := Tryz.zeroValue20
  t37 := Tryz.underlying51
  a37 := Tryz.isAgg51
  z37 := Tryz.sizeOf51
  v37 := Tryz.zeroValue51
  t46 := Tryz.underlying63
  a46 := Tryz.isAgg63
  z46 := Tryz.sizeOf63
  v46 := Tryz.zeroValue63
  t51 := Tryz.underlying90
  a51 := Tryz.isAgg90
  z51 := Tryz.sizeOf90
  v51 := Tryz.zeroValue90
  t53 := Tryz.underlying92
  a53 := Tryz.isAgg92
  z53 := Tryz.sizeOf92
  v53 := Tryz.zeroValue92
  t171 := Tryz.underlying124
  a171 := Tryz.isAgg124
  z171 := Tryz.sizeOf124
  v171 := Tryz.zeroValue124
  t173 := Tryz.underlying126
  a173 := Tryz.isAgg126
  z173 := Tryz.sizeOf126
  v173 := Tryz.zeroValue126
  t212 := Tryz.underlying135
  a212 := Tryz.isAgg135
  z212 := Tryz.sizeOf135
  v212 := Tryz.zeroValue135
  t213 := Tryz.underlying136
  a213 := Tryz.isAgg136
  z213 := Tryz.sizeOf136
  t232 := Tryz.underlying137
  a232 := Tryz.isAgg137
  z232 := Tryz.sizeOf137
  v232 := Tryz.zeroValue137
  t233 := Tryz.underlying138
  a233 := Tryz.isAgg138
  z233 := Tryz.sizeOf138
  v233 := Tryz.zeroValue138
  g17 := by kernel_rfl
  g18 := by kernel_rfl
  g19 := by kernel_rfl
  i0 := by kernel_rfl
  i2 := by kernel_rfl
  i3 := by kernel_rfl
  i4 := by kernel_rfl
  i5 := by kernel_rfl
  i9 := by kernel_rfl
  i20 := by kernel_rfl
  i37 := by kernel_rfl
  i46 := by kernel_rfl
  i51 := by kernel_rfl
  i53 := by kernel_rfl
  i171 := by kernel_rfl
  i173 := by kernel_rfl
  i212 := by kernel_rfl
  i232 := by kernel_rfl
  i233 := by kernel_rfl
  m17 := by kernel_rfl
  m18 := by kernel_rfl
  m19 := by kernel_rfl }
open Go.RowKit Go.Sort Go.Lib in
/-- strconv.Itoa: "Itoa is equivalent to FormatInt(int64(i), 10).": i's DECIMAL NUMERAL ('Lib.itoa': a '-' where i is negative, then the digits), FOR EVERY int. The world behind the call: the world before it, new blocks behind the heap (the library's 'var a [24]byte'), draws. (LAID: no walk: one application.) -/
theorem Tryz.strconv_Itoa (n : Int) (h0 : -9223372036854775808 ≤ n) (h1 : n ≤ 9223372036854775807) (w : World) (htab : Lib.TabIs Tryz.prog w "internal/strconv.uint64pow10" .u64 Lib.pow10Tab) :
    Calls Tryz.prog 33 #[.int .i64 n] w fun e w' => e = .returned (.string ⟨(Lib.itoa n).toArray⟩) ∧ ∃ k os, w' = grow (w.drewN k) os := Any.strconv_Itoa Tryz.laysM171 n h0 h1 w htab
def Tryz.lays189_ren : Go.Shelf.Ren := ⟨fun | 189 => 26 | 125 => 36 | 257 => 42 | 128 => 57 | 129 => 58 | 294 => 65 | 295 => 66 | 296 => 67 | 297 => 68 | 298 => 69 | 299 => 70 | 216 => 71 | 300 => 72 | 301 => 73 | 328 => 88 | 329 => 81 | 330 => 82 | 331 => 89 | 332 => 90 | 215 => 91 | 343 => 99 | n => n, fun | 28 => 22 | 3 => 3 | 46 => 63 | 0 => 0 | 51 => 90 | 53 => 92 | 4 => 4 | 183 => 82 | 182 => 81 | 131 => 87 | 5 => 5 | 9 => 9 | 218 => 112 | 222 => 116 | 228 => 128 | 229 => 129 | n => n, fun | n => n⟩
theorem Tryz.lays189 : Go.Proofs.Lays.n189 Tryz.prog Tryz.lays189_ren := {
  mixed := by kernel_rfl
  f125 := Tryz.func36.trans (congrArg some (by kernel_rfl))
  f128 := Tryz.func57.trans (congrArg some (by kernel_rfl))
  f129 := Tryz.func58.trans (congrArg some (by kernel_rfl))
  f189 := Tryz.func26.trans (congrArg some (by kernel_rfl))
  f215 := Tryz.func91.trans (congrArg some (by kernel_rfl))
  f216 := Tryz.func71.trans (congrArg some (by kernel_rfl))
  f257 := Tryz.func42.trans (congrArg some (by kernel_rfl))
  f294 := Tryz.func65.trans (congrArg some (by kernel_rfl))
  f295 := Tryz.func66.trans (congrArg some (by kernel_rfl))
  f296 := Tryz.func67.trans (congrArg some (by kernel_rfl))
  f297 := Tryz.func68.trans (congrArg some (by kernel_rfl))
  f298 := Tryz.func69.trans (congrArg some (by kernel_rfl))
  f299 := Tryz.func70.trans (congrArg some (by kernel_rfl))
  f300 := Tryz.func72.trans (congrArg some (by kernel_rfl))
  f301 := Tryz.func73.trans (congrArg some (by kernel_rfl))
  f328 := Tryz.func88.trans (congrArg some (by kernel_rfl))
  f329 := Tryz.func81.trans (congrArg some (by kernel_rfl))
  f330 := Tryz.func82.trans (congrArg some (by kernel_rfl))
  f331 := Tryz.func89.trans (congrArg some (by kernel_rfl))
  f332 := Tryz.func90.trans (congrArg some (by kernel_rfl))
  f343 := Tryz.func99.trans (congrArg some (by kernel_rfl))
  t0 := Tryz.underlying0
  a0 := Tryz.isAgg0
  z0 := Tryz.sizeOf0
  v0 := Tryz.zeroValue0
  t3 := Tryz.underlying3
  a3 := Tryz.isAgg3
  z3 := Tryz.sizeOf3
  v3 := Tryz.zeroValue3
  t4 := Tryz.underlying4
  a4 := Tryz.isAgg4
  z4 := Tryz.sizeOf4
  v4 := Tryz.zeroValue4
  t5 := Tryz.underlying5
  a5 := Tryz.isAgg5
  z5 := Tryz.sizeOf5
  v5 := Tryz.zeroValue5
  t9 := Tryz.underlying9
  a9 := Tryz.isAgg9
  z9 := Tryz.sizeOf9
  v9 := Tryz.zeroValue9
  t28 := Tryz.underlying22
  a28 := Tryz.isAgg22
  z28 := Tryz.sizeOf22
  v28 := Tryz.zeroValue22
  t46 := Tryz.underlying63
  a46 := Tryz.isAgg63
  z46 := Tryz.sizeOf63
  v46 := Tryz.zeroValue63
  t51 := Tryz.underlying90
  a51 := Tryz.isAgg90
  z51 := Tryz.sizeOf90
  v51 := Tryz.zeroValue90
  t53 := Tryz.underlying92
  a53 := Tryz.isAgg92
  z53 := Tryz.sizeOf92
  v53 := Tryz.zeroValue92
  t131 := Tryz.underlying87
  a131 := Tryz.isAgg87
  z131 := Tryz.sizeOf87
  v131 := Tryz.zeroValue87
  t182 := Tryz.underlying81
  a182 := Tryz.isAgg81
  z182 := Tryz.sizeOf81
  v182 := Tryz.zeroValue81
  t183 := Tryz.underlying82
  a183 := Tryz.isAgg82
  z183 := Tryz.sizeOf82
  v183 := Tryz.zeroValue82
  t218 := Tryz.underlying112
  a218 := Tryz.isAgg112
  z218 := Tryz.sizeOf112
  v218 := Tryz.zeroValue112
  t222 := Tryz.underlying116
  a222 := Tryz.isAgg116
  z222 := Tryz.sizeOf116
  v222 := Tryz.zeroValue116
  t228 := Tryz.underlying128
  a228 := Tryz.isAgg128
  z228 := Tryz.sizeOf128
  v228 := Tryz.zeroValue128
  t229 := Tryz.underlying129
  a229 := Tryz.isAgg129
  z229 := Tryz.sizeOf129
  v229 := Tryz.zeroValue129 }
open Go.Sort Go.RowKit in
theorem Tryz.slices_Sort_int (blk off cap : Nat) (zs : List Int) (w : World) (hH : Holds (Value.int .i64) w blk off zs.toArray) (hblk : blk < w.heap.size) (hsz : zs.length < 4611686018427387904) :
    Calls Tryz.prog 26 #[.slice (some ⟨blk, off, none⟩) zs.length cap] w fun e w' =>
      e = .returned (.tuple #[]) ∧ ∃ n os, w' = grow (putRow (Value.int .i64) (Sort.ahead w n) blk off (zs.mergeSort fun x y => decide (x ≤ y)).toArray) os := Any.slices_Sort_int Tryz.lays189 blk off cap zs w hH hblk hsz
def Tryz.lays190_ren : Go.Shelf.Ren := ⟨fun | 190 => 17 | 125 => 36 | 258 => 35 | 128 => 57 | 129 => 58 | 302 => 48 | 303 => 49 | 304 => 50 | 305 => 51 | 306 => 52 | 307 => 53 | 308 => 54 | 309 => 55 | 310 => 56 | 333 => 80 | 329 => 81 | 330 => 82 | 334 => 83 | 335 => 84 | 336 => 85 | 344 => 98 | n => n, fun | 31 => 31 | 9 => 9 | 3 => 3 | 46 => 63 | 0 => 0 | 51 => 90 | 53 => 92 | 4 => 4 | 183 => 82 | 182 => 81 | 131 => 87 | 5 => 5 | 218 => 112 | 222 => 116 | 228 => 128 | 229 => 129 | n => n, fun | n => n⟩
theorem Tryz.lays190 : Go.Proofs.Lays.n190 Tryz.prog Tryz.lays190_ren := {
  mixed := by kernel_rfl
  f125 := Tryz.func36.trans (congrArg some (by kernel_rfl))
  f128 := Tryz.func57.trans (congrArg some (by kernel_rfl))
  f129 := Tryz.func58.trans (congrArg some (by kernel_rfl))
  f190 := Tryz.func17.trans (congrArg some (by kernel_rfl))
  f258 := Tryz.func35.trans (congrArg some (by kernel_rfl))
  f302 := Tryz.func48.trans (congrArg some (by kernel_rfl))
  f303 := Tryz.func49.trans (congrArg some (by kernel_rfl))
  f304 := Tryz.func50.trans (congrArg some (by kernel_rfl))
  f305 := Tryz.func51.trans (congrArg some (by kernel_rfl))
  f306 := Tryz.func52.trans (congrArg some (by kernel_rfl))
  f307 := Tryz.func53.trans (congrArg some (by kernel_rfl))
  f308 := Tryz.func54.trans (congrArg some (by kernel_rfl))
  f309 := Tryz.func55.trans (congrArg some (by kernel_rfl))
  f310 := Tryz.func56.trans (congrArg some (by kernel_rfl))
  f329 := Tryz.func81.trans (congrArg some (by kernel_rfl))
  f330 := Tryz.func82.trans (congrArg some (by kernel_rfl))
  f333 := Tryz.func80.trans (congrArg some (by kernel_rfl))
  f334 := Tryz.func83.trans (congrArg some (by kernel_rfl))
  f335 := Tryz.func84.trans (congrArg some (by kernel_rfl))
  f336 := Tryz.func85.trans (congrArg some (by kernel_rfl))
  f344 := Tryz.func98.trans (congrArg some (by kernel_rfl))
  t0 := Tryz.underlying0
  a0 := Tryz.isAgg0
  z0 := Tryz.sizeOf0
  v0 := Tryz.zeroValue0
  t3 := Tryz.underlying3
  a3 := Tryz.isAgg3
  z3 := Tryz.sizeOf3
  v3 := Tryz.zeroValue3
  t4 := Tryz.underlying4
  a4 := Tryz.isAgg4
  z4 := Tryz.sizeOf4
  v4 := Tryz.zeroValue4
  t5 := Tryz.underlying5
  a5 := Tryz.isAgg5
  z5 := Tryz.sizeOf5
  v5 := Tryz.zeroValue5
  t9 := Tryz.underlying9
  a9 := Tryz.isAgg9
  z9 := Tryz.sizeOf9
  v9 := Tryz.zeroValue9
  t31 := Tryz.underlying31
  a31 := Tryz.isAgg31
  z31 := Tryz.sizeOf31
  v31 := Tryz.zeroValue31
  t46 := Tryz.underlying63
  a46 := Tryz.isAgg63
  z46 := Tryz.sizeOf63
  v46 := Tryz.zeroValue63
  t51 := Tryz.underlying90
  a51 := Tryz.isAgg90
  z51 := Tryz.sizeOf90
  v51 := Tryz.zeroValue90
  t53 := Tryz.underlying92
  a53 := Tryz.isAgg92
  z53 := Tryz.sizeOf92
  v53 := Tryz.zeroValue92
  t131 := Tryz.underlying87
  a131 := Tryz.isAgg87
  z131 := Tryz.sizeOf87
  v131 := Tryz.zeroValue87
  t182 := Tryz.underlying81
  a182 := Tryz.isAgg81
  z182 := Tryz.sizeOf81
  v182 := Tryz.zeroValue81
  t183 := Tryz.underlying82
  a183 := Tryz.isAgg82
  z183 := Tryz.sizeOf82
  v183 := Tryz.zeroValue82
  t218 := Tryz.underlying112
  a218 := Tryz.isAgg112
  z218 := Tryz.sizeOf112
  v218 := Tryz.zeroValue112
  t222 := Tryz.underlying116
  a222 := Tryz.isAgg116
  z222 := Tryz.sizeOf116
  v222 := Tryz.zeroValue116
  t228 := Tryz.underlying128
  a228 := Tryz.isAgg128
  z228 := Tryz.sizeOf128
  v228 := Tryz.zeroValue128
  t229 := Tryz.underlying129
  a229 := Tryz.isAgg129
  z229 := Tryz.sizeOf129
  v229 := Tryz.zeroValue129 }
open Go.Sort Go.RowKit in
theorem Tryz.slices_Sort_string (blk off cap : Nat) (ss : List (List UInt8)) (w : World) (hH : Holds encStr w blk off ss.toArray) (hblk : blk < w.heap.size) (hsz : ss.length < 4611686018427387904) :
    Calls Tryz.prog 17 #[.slice (some ⟨blk, off, none⟩) ss.length cap] w fun e w' =>
      e = .returned (.tuple #[]) ∧ ∃ n os, w' = grow (putRow encStr (Sort.ahead w n) blk off (ss.mergeSort fun x y => decide (x ≤ y)).toArray) os := Any.slices_Sort_string Tryz.lays190 blk off cap ss w hH hblk hsz
def Tryz.lays107_ren : Go.Shelf.Ren := ⟨fun | 107 => 60 | 108 => 86 | n => n, fun | 28 => 22 | 3 => 3 | 4 => 4 | 0 => 0 | n => n, fun | n => n⟩
theorem Tryz.lays107 : Go.Proofs.Lays.n107 Tryz.prog Tryz.lays107_ren := {
  mixed := by kernel_rfl
  f107 := Tryz.func60.trans (congrArg some (by kernel_rfl))
  f108 := Tryz.func86.trans (congrArg some (by kernel_rfl))
  t0 := Tryz.underlying0
  a0 := Tryz.isAgg0
  z0 := Tryz.sizeOf0
  v0 := Tryz.zeroValue0
  t3 := Tryz.underlying3
  a3 := Tryz.isAgg3
  z3 := Tryz.sizeOf3
  v3 := Tryz.zeroValue3
  t4 := Tryz.underlying4
  a4 := Tryz.isAgg4
  z4 := Tryz.sizeOf4
  v4 := Tryz.zeroValue4
  t28 := Tryz.underlying22
  a28 := Tryz.isAgg22
  z28 := Tryz.sizeOf22
  v28 := Tryz.zeroValue22 }
open Go.Lib in
/-- slices.Contains at []int: "Contains reports whether v is present in s.": IT RETURNS 'elements.contains v'; the world is as it was. ITS CALLEE slices.Index IS MET BY ITS OWN CONTRACT OFF THE SHELF (lay that first): no loop is walked here. (LAID: no walk: one application.) -/
theorem Tryz.slices_Contains_int (b off n c : Nat) (zs : List Int) (x : Int) (w : World) (hz : n ≤ zs.length) (hbig : n ≤ 9223372036854775807) (hc : ∀ j, j < zs.length → w.cell? ⟨b, off + j, none⟩ = some (.int .i64 (zs.getD j 0))) :
    Calls Tryz.prog 60 #[.slice (some ⟨b, off, none⟩) n c, .int .i64 x] w fun e w' => e = .returned (.bool ((zs.take n).contains x)) ∧ w' = w := Any.slices_Contains_int Tryz.lays107 b off n c zs x w hz hbig hc
def Tryz.lays111_ren : Go.Shelf.Ren := ⟨fun | 111 => 13 | n => n, fun | 28 => 22 | 3 => 3 | 4 => 4 | 0 => 0 | n => n, fun | n => n⟩
theorem Tryz.lays111 : Go.Proofs.Lays.n111 Tryz.prog Tryz.lays111_ren := {
  mixed := by kernel_rfl
  f111 := Tryz.func13.trans (congrArg some (by kernel_rfl))
  t0 := Tryz.underlying0
  a0 := Tryz.isAgg0
  z0 := Tryz.sizeOf0
  v0 := Tryz.zeroValue0
  t3 := Tryz.underlying3
  a3 := Tryz.isAgg3
  z3 := Tryz.sizeOf3
  v3 := Tryz.zeroValue3
  t4 := Tryz.underlying4
  a4 := Tryz.isAgg4
  z4 := Tryz.sizeOf4
  v4 := Tryz.zeroValue4
  t28 := Tryz.underlying22
  a28 := Tryz.isAgg22
  z28 := Tryz.sizeOf22
  v28 := Tryz.zeroValue22 }
open Go.RowKit Go.Lib in
/-- slices.Equal at []int: "Equal reports whether two slices are equal: the same length and all elements equal. If the lengths are different, Equal returns false. Otherwise, the elements are compared in increasing index order, and the comparison stops at the first unequal pair. Empty and nil slices are considered equal.": IT RETURNS WHETHER THE TWO LISTS OF ELEMENTS ARE ONE; the world is as it was but for the count of draws (the test 's1[i] != s2[i]' has two reads, whose order the model draws, once a round). 'xs', 'ys': what the cells behind the two addresses hold (the spare capacity too, if you have it); 'xs.take n', 'ys.take m': the elements. THE TWO SLICES MAY OVERLAP. (LAID: no walk: one application.) -/
theorem Tryz.slices_Equal_int (b1 o1 n c b2 o2 m d : Nat) (xs ys : List Int) (w : World) (hx : n ≤ xs.length) (hy : m ≤ ys.length) (hbig : n ≤ 9223372036854775807) (hbig2 : m ≤ 9223372036854775807) (hc1 : ∀ j, j < xs.length → w.cell? ⟨b1, o1 + j, none⟩ = some (.int .i64 (xs.getD j 0))) (hc2 : ∀ j, j < ys.length → w.cell? ⟨b2, o2 + j, none⟩ = some (.int .i64 (ys.getD j 0))) :
    Calls Tryz.prog 13 #[.slice (some ⟨b1, o1, none⟩) n c, .slice (some ⟨b2, o2, none⟩) m d] w fun e w' => e = .returned (.bool (xs.take n == ys.take m)) ∧ ∃ q, w' = w.drewN q := Any.slices_Equal_int Tryz.lays111 b1 o1 n c b2 o2 m d xs ys w hx hy hbig hbig2 hc1 hc2
open Go.RowKit Go.Lib in
/-- The same where the first is of length 0 (a nil one too): no cell is asked for. (LAID: no walk: one application.) -/
theorem Tryz.slices_Equal_int_empty (a1 a2 : Option Addr) (c m d : Nat) (w : World) (hbig2 : m ≤ 9223372036854775807) :
    Calls Tryz.prog 13 #[.slice a1 0 c, .slice a2 m d] w fun e w' => e = .returned (.bool (decide (m = 0))) ∧ w' = w := Any.slices_Equal_int_empty Tryz.lays111 a1 a2 c m d w hbig2
def Tryz.lays193_ren : Go.Shelf.Ren := ⟨fun | 193 => 7 | n => n, fun | 31 => 31 | 9 => 9 | 4 => 4 | 3 => 3 | 0 => 0 | n => n, fun | n => n⟩
theorem Tryz.lays193 : Go.Proofs.Lays.n193 Tryz.prog Tryz.lays193_ren := {
  mixed := by kernel_rfl
  f193 := Tryz.func7.trans (congrArg some (by kernel_rfl))
  t0 := Tryz.underlying0
  a0 := Tryz.isAgg0
  z0 := Tryz.sizeOf0
  v0 := Tryz.zeroValue0
  t3 := Tryz.underlying3
  a3 := Tryz.isAgg3
  z3 := Tryz.sizeOf3
  v3 := Tryz.zeroValue3
  t4 := Tryz.underlying4
  a4 := Tryz.isAgg4
  z4 := Tryz.sizeOf4
  v4 := Tryz.zeroValue4
  t9 := Tryz.underlying9
  a9 := Tryz.isAgg9
  z9 := Tryz.sizeOf9
  v9 := Tryz.zeroValue9
  t31 := Tryz.underlying31
  a31 := Tryz.isAgg31
  z31 := Tryz.sizeOf31
  v31 := Tryz.zeroValue31 }
open Go.RowKit Go.Lib in
/-- slices.Equal at []string: "Equal reports whether two slices are equal: the same length and all elements equal. If the lengths are different, Equal returns false. Otherwise, the elements are compared in increasing index order, and the comparison stops at the first unequal pair. Empty and nil slices are considered equal.": IT RETURNS WHETHER THE TWO LISTS OF ELEMENTS ARE ONE; the world is as it was but for the count of draws (the test 's1[i] != s2[i]' has two reads, whose order the model draws, once a round). 'xs', 'ys': what the cells behind the two addresses hold (the spare capacity too, if you have it); 'xs.take n', 'ys.take m': the elements. THE TWO SLICES MAY OVERLAP. (LAID: no walk: one application.) -/
theorem Tryz.slices_Equal_string (b1 o1 n c b2 o2 m d : Nat) (xs ys : List ByteArray) (w : World) (hx : n ≤ xs.length) (hy : m ≤ ys.length) (hbig : n ≤ 9223372036854775807) (hbig2 : m ≤ 9223372036854775807) (hc1 : ∀ j, j < xs.length → w.cell? ⟨b1, o1 + j, none⟩ = some (.string (xs.getD j ByteArray.empty))) (hc2 : ∀ j, j < ys.length → w.cell? ⟨b2, o2 + j, none⟩ = some (.string (ys.getD j ByteArray.empty))) :
    Calls Tryz.prog 7 #[.slice (some ⟨b1, o1, none⟩) n c, .slice (some ⟨b2, o2, none⟩) m d] w fun e w' => e = .returned (.bool (decide (xs.take n = ys.take m))) ∧ ∃ q, w' = w.drewN q := Any.slices_Equal_string Tryz.lays193 b1 o1 n c b2 o2 m d xs ys w hx hy hbig hbig2 hc1 hc2
open Go.RowKit Go.Lib in
/-- The same where the first is of length 0 (a nil one too): no cell is asked for. (LAID: no walk: one application.) -/
theorem Tryz.slices_Equal_string_empty (a1 a2 : Option Addr) (c m d : Nat) (w : World) (hbig2 : m ≤ 9223372036854775807) :
    Calls Tryz.prog 7 #[.slice a1 0 c, .slice a2 m d] w fun e w' => e = .returned (.bool (decide (m = 0))) ∧ w' = w := Any.slices_Equal_string_empty Tryz.lays193 a1 a2 c m d w hbig2
def Tryz.laysNm220_ren : Go.Shelf.Ren := ⟨fun | 20 => 27 | n => n, fun | 22 => 22 | 3 => 3 | 4 => 4 | 0 => 0 | n => n, fun | n => n⟩
theorem Tryz.laysNm220 : Go.Proofs.Lays2.n20 Tryz.prog Tryz.laysNm220_ren := {
  mixed := by kernel_rfl
  f20 := Tryz.func27.trans (congrArg some (by kernel_rfl))
  t0 := Tryz.underlying0
  a0 := Tryz.isAgg0
  z0 := Tryz.sizeOf0
  v0 := Tryz.zeroValue0
  t3 := Tryz.underlying3
  a3 := Tryz.isAgg3
  z3 := Tryz.sizeOf3
  v3 := Tryz.zeroValue3
  t4 := Tryz.underlying4
  a4 := Tryz.isAgg4
  z4 := Tryz.sizeOf4
  v4 := Tryz.zeroValue4
  t22 := Tryz.underlying22
  a22 := Tryz.isAgg22
  z22 := Tryz.sizeOf22
  v22 := Tryz.zeroValue22
  i3 := by kernel_rfl }
open Go.RowKit Go.Lib Go.Sort in
/-- slices.Compact at []int, of an argument: the slice cut to 'Lib.compact (elements)'; the n cells hold that, then zeros. (LAID: no walk: one application.) -/
theorem Tryz.slices_Compact_int_cells (b off n c : Nat) (zs : List Int) (w : World) (hz : n ≤ zs.length) (hbig : n ≤ 9223372036854775807) (hcap : n ≤ c) (hc : ∀ j, j < zs.length → w.cell? ⟨b, off + j, none⟩ = some (.int .i64 (zs.getD j 0))) (hf : ∀ j, j < n → w.frozen? ⟨b, off + j, none⟩ = false) :
    Calls Tryz.prog 27 #[.slice (some ⟨b, off, none⟩) n c] w fun e w' => e = .returned (.slice (some ⟨b, off, none⟩) (Lib.compact (zs.take n)).length c) ∧ ∃ q, w' = (w.drewN q).setCells b off ((Lib.compact (zs.take n) ++ List.replicate (n - (Lib.compact (zs.take n)).length) 0).map (Value.int .i64)) := Any.slices_Compact_int_cells Tryz.laysNm220 b off n c zs w hz hbig hcap hc hf
open Go.RowKit Go.Sort in
/-- .. and plain. (LAID: no walk: one application.) -/
theorem Tryz.slices_Sort_string_none (p : Option Addr) (cap : Nat) (w : World) :
    Calls Tryz.prog 17 #[.slice p 0 cap] w fun e w' => e = .returned (.tuple #[]) ∧ w' = w := Any.slices_Sort_string_none Tryz.lays190 p cap w
open Go.RowKit Go.Sort in
/-- .. and plain. (LAID: no walk: one application.) -/
theorem Tryz.slices_Sort_int_none (p : Option Addr) (cap : Nat) (w : World) :
    Calls Tryz.prog 26 #[.slice p 0 cap] w fun e w' => e = .returned (.tuple #[]) ∧ w' = w := Any.slices_Sort_int_none Tryz.lays189 p cap w
open Go.RowKit Go.Lib in
theorem Tryz.slices_Equal_int_lens (a1 a2 : Option Addr) (n c m d : Nat) (w : World) (hnm : n ≠ m) :
    Calls Tryz.prog 13 #[.slice a1 n c, .slice a2 m d] w fun e w' => e = .returned (.bool false) ∧ w' = w := Any.slices_Equal_int_lens Tryz.lays111 a1 a2 n c m d w hnm
end Go.Proofs

namespace Go.Proofs.YtmjoijfafachhaaGreatDoor
open Go Go.RowKit
set_option maxRecDepth 100000 in
set_option maxHeartbeats 1000000 in
theorem grow_any (n : Nat) (w : World) (hn : n ≤ 1000000) :
    Calls Tryz.prog 61 #[.slice none 0 0, .int .i64 (n : Int)] w fun e w' => ∃ a c, e = .returned (.slice a 0 c) ∧ Own w' w.heap.size 3 a c [] ∧ Below w.heap.size w w' := by
  obtain ⟨i0, hi0, hz0, hz1, hz2⟩ := info_parts Tryz.info3
  rcases Nat.eq_zero_or_pos n with rfl | h0
  · go_enter Tryz.func61, Tryz.ntmps61
    go_wp2_with fail
    go_ret
    exact ⟨none, 0, rfl, Own.nil _ _ _, Below.refl _ _⟩
  · have happ := Lib.run_append_nil_zeros (P := Tryz.prog) w 22 3 22 3 i0 (.int .i64 0) .i64 .i64 Tryz.underlying22 Tryz.underlying3 hi0 hz0 n h0 (by omega) (by omega) (by rw [hz2]; omega)
    generalize hcap : grownCap w n 0 3 = cap2 at happ
    have hge : n ≤ cap2 := by rw [← hcap]; exact grownCap_ge w _ 0 3
    have hle : cap2 ≤ maxLen := by rw [← hcap]; exact grownCap_le_maxLen w _ 0 3 (by unfold maxLen; omega)
    generalize hZ : (Builtin.zeroCells (Value.int .i64 0).cells n ++ Builtin.zeroCells (Value.int .i64 0).cells (cap2 - n)) = Z at happ
    have hZs : Z.size = cap2 := by rw [← hZ]; simp [size_zeroCells, Value.cells]; omega
    have hO : Own (w.alloc (.cells Z 3)).drew w.heap.size 3 (some ⟨w.heap.size, 0, none⟩) cap2 [] := .inr ⟨w.heap.size, 0, Z, rfl, Nat.le_refl _, heap_alloc_new w _, Nat.zero_le _, by omega, fun i v h => by simp at h⟩
    have HO := Lib.hid hO
    have HB : Hid (Below w.heap.size w (w.alloc (.cells Z 3)).drew) := Lib.hid (((Below.refl _ _).alloc (Nat.le_refl _) _).drew)
    have d1 : decide ((n : Int) < 0) = false := decide_eq_false (by omega)
    have d2 : decide (0 < (n : Int)) = true := decide_eq_true (by omega)
    clear hO hcap hZ
    go_enter Tryz.func61, Tryz.ntmps61
    go_wp2_with (refine Lib.wpList_append_run _ rfl (.tmp 20) (.tmp 21) 22 3 rfl _ _ rfl rfl _ _ happ ?_)
    go_ret
    exact ⟨_, _, rfl, HO.out, HB.out⟩
def lenSum (xss : List (List Int)) : Nat := (xss.map List.length).sum
theorem lenSum_take {xss : List (List Int)} {i : Nat} (h : i < xss.length) : lenSum (xss.take (i + 1)) = lenSum (xss.take i) + (xss.getD i []).length := by
  unfold lenSum
  rw [List.take_add_one, getD_some (d := []) h, List.map_append, List.sum_append]; simp
theorem lenSum_le {xss : List (List Int)} (i : Nat) : lenSum (xss.take i) ≤ lenSum xss := by
  unfold lenSum
  conv => rhs; rw [← List.take_append_drop i xss, List.map_append, List.sum_append]
  omega
theorem flat_take {xss : List (List Int)} {i : Nat} (h : i < xss.length) : (xss.take (i + 1)).flatten = (xss.take i).flatten ++ xss.getD i [] := by
  rw [List.take_add_one, getD_some (d := []) h]; simp
theorem flat_len (xss : List (List Int)) : xss.flatten.length = lenSum xss := by unfold lenSum; rw [List.length_flatten]
/-- Slices that are read. -/
def SlsAt (w : World) (b off : Nat) (xss : List (List Int)) : Prop := ∀ (i : Nat) (row : List Int), xss[i]? = some row → ∃ a c, w.cell? ⟨b, off + i, none⟩ = some (.slice a row.length c) ∧ IntsAt w a row
theorem SlsAt.later {w w' : World} {b off : Nat} {xss : List (List Int)} (h : SlsAt w b off xss) (hb : Below w.heap.size w w') : SlsAt w' b off xss := fun i row hi => by
  obtain ⟨a, c, h1, h2⟩ := h i row hi
  exact ⟨a, c, (hb.cell (p := ⟨b, off + i, none⟩) (World.block_lt_of_cell? w _ h1)).trans h1, h2.later hb⟩
set_option maxRecDepth 100000 in
set_option maxHeartbeats 2000000 in
theorem concat_any (xss : List (List Int)) (b off c : Nat) (w : World) (hx : SlsAt w b off xss) (hl : xss.length ≤ 1000) (hs : lenSum xss ≤ 1000000) :
    Calls Tryz.prog 40 #[.slice (some ⟨b, off, none⟩) xss.length c] w fun e w' => ∃ a d, e = .returned (.slice a (lenSum xss) d) ∧ Own w' w.heap.size 3 a d (ints xss.flatten) ∧ Below w.heap.size w w' := by
  obtain ⟨i0, hi0, hz0, hz1, hz2⟩ := info_parts Tryz.info3
  have HX := Lib.hid hx
  have HT : Hid (∀ i, lenSum (xss.take i) ≤ 1000000) := Lib.hid fun i => by have := lenSum_le (xss := xss) i; omega
  have HA : Hid (lenSum (xss.take xss.length) = lenSum xss) := Lib.hid (by rw [List.take_length])
  have HS : Hid (∀ i, i < xss.length → lenSum (xss.take (i + 1)) = lenSum (xss.take i) + (xss.getD i []).length) := Lib.hid fun i h => lenSum_take h
  have HF : Hid (∀ i, i < xss.length → (xss.take (i + 1)).flatten = (xss.take i).flatten ++ xss.getD i []) := Lib.hid fun i h => flat_take h
  have HFl : Hid (∀ i, (ints (xss.take i).flatten).length = lenSum (xss.take i)) := Lib.hid fun i => by rw [ints_length, flat_len]
  have HFa : Hid ((xss.take xss.length).flatten = xss.flatten) := Lib.hid (by rw [List.take_length])
  have HG : Hid (∀ n W', n ≤ 1000000 → Calls Tryz.prog 61 #[.slice none 0 0, .int .i64 ((n : Nat) : Int)] W' fun e w' => ∃ a c, e = .returned (.slice a 0 c) ∧ Own w' W'.heap.size 3 a c [] ∧ Below W'.heap.size W' w') := Lib.hid fun n W' h => grow_any n W' h
  clear hx hs
  go_enter Tryz.func40, Tryz.ntmps40
  go_wp2_with fail
  go_loopg [11, 3] xss.length (fun g v s3 wr => ∃ i : Nat, i ≤ xss.length ∧ g = xss.length - i ∧ v = .int .i64 i ∧ s3 = .int .i64 ((lenSum (xss.take i) : Nat) : Int) ∧ Below w.heap.size w wr)
  case atStart => exact ⟨0, Nat.zero_le _, rfl, rfl, rfl, Below.refl _ _⟩
  case round =>
    obtain ⟨i, hi, rfl, rfl, rfl, hb⟩ := hrel
    have Hb := Lib.hid hb
    clear hb
    by_cases hil : i < xss.length
    · obtain ⟨a', c', hci, _⟩ := (HX.out.later Hb.out) i _ (getD_some (d := []) hil)
      have hT1 := HT.out i
      have hT2 := HT.out (i + 1)
      have hS2 := HS.out i hil
      rw [hS2] at hT2
      have Hn : Hid (((lenSum (xss.take i) : Nat) : Int) + (((xss.getD i []).length : Nat) : Int) = ((lenSum (xss.take (i + 1)) : Nat) : Int)) := Lib.hid (by rw [hS2]; omega)
      clear hS2
      generalize (xss.getD i []).length = rl at *
      generalize lenSum (xss.take i) = T1 at *
      have d1 : decide (((T1 : Int) + (rl : Int)) < 0) = false := decide_eq_false (by omega)
      go_wp2_with fail
      go_roundg (xss.length - (i + 1))
      case measure => omega
      case rel => exact ⟨i + 1, by omega, rfl, by go_num, congrArg _ Hn.out, Hb.out⟩
    · obtain rfl : i = xss.length := by omega
      rw [HA.out]
      have hle : lenSum xss ≤ 1000000 := by have := HT.out xss.length; rw [HA.out] at this; exact this
      have HG2 := Lib.hid (HG.out (lenSum xss) wr hle)
      go_wp2_with fail
      refine HG2.out.mono ?_
      rintro e w2 ⟨a2, c2, rfl, ho, hb2⟩
      have Hb2 := Lib.hid (below_step Hb.out hb2)
      have HO := Lib.hid (ho.mono (B' := w.heap.size) Hb.out.size)
      clear ho hb2 HG HG2 Hb HA HS
      go_wp2_with fail
      go_loopg [27, 6] xss.length (fun g v s6 wr => ∃ (i : Nat) (A : Option Addr) (d : Nat), i ≤ xss.length ∧ g = xss.length - i ∧ v = .int .i64 i ∧ s6 = .slice A (lenSum (xss.take i)) d ∧ Own wr w.heap.size 3 A d (ints (xss.take i).flatten) ∧ Below w.heap.size w wr)
      case atStart => exact ⟨0, a2, c2, Nat.zero_le _, rfl, rfl, rfl, HO.out, Hb2.out⟩
      case round =>
        obtain ⟨i, A, d, hi, rfl, rfl, rfl, ho, hb⟩ := hrel
        replace HO := Lib.hid ho
        replace Hb2 := Lib.hid hb
        clear ho hb
        by_cases hil : i < xss.length
        · obtain ⟨a', c', hci, hrow⟩ := (HX.out.later Hb2.out) i _ (getD_some (d := []) hil)
          have hT1 := HT.out i
          have hT2 := HT.out (i + 1)
          have hS2 : lenSum (xss.take (i + 1)) = lenSum (xss.take i) + (xss.getD i []).length := lenSum_take hil
          have hF2 := HF.out i hil
          have hFl := HFl.out i
          have hdc : lenSum (xss.take i) ≤ d := by have := HO.out.size; omega
          have HO1 : Hid (Own wr w.heap.size 3 A (d * 1) (ints (xss.take i).flatten)) := Lib.hid (by rw [Nat.mul_one]; exact HO.out)
          have Hvl : Hid ((ints (xss.take i).flatten).length = lenSum (xss.take i) * 1) := Lib.hid (by rw [hFl, Nat.mul_one])
          have Hul : Hid ((ints (xss.getD i [])).length = (xss.getD i []).length * 1) := Lib.hid (by rw [ints_length, Nat.mul_one])
          have Hus : Hid (VAt wr a' (ints (xss.getD i []))) := Lib.hid hrow
          have Hu1 : Hid (∀ u ∈ ints (xss.getD i []), u.oneCell' = true) := Lib.hid (by
            intro u hu
            obtain ⟨x, _, rfl⟩ := List.mem_map.1 hu
            rfl)
          have Hn : Hid (lenSum (xss.take i) + (xss.getD i []).length = lenSum (xss.take (i + 1))) := Lib.hid hS2.symm
          have HFn : Hid (ints (xss.take i).flatten ++ ints (xss.getD i []) = ints (xss.take (i + 1)).flatten) := Lib.hid (by rw [hF2]; simp [ints])
          have Hw := Lib.hid Hb2.out.size
          have hT3 : lenSum (xss.take i) + (xss.getD i []).length ≤ 1000000 := by omega
          clear hS2 hF2 hFl hrow hT2
          generalize lenSum (xss.take i) = T1 at *
          generalize ints (xss.take i).flatten = V1 at *
          generalize ints (xss.getD i []) = V2 at *
          generalize (xss.getD i []).length = rl at *
          have Hzc : Hid ((Value.int .i64 0).cells.size = 1) := Lib.hid rfl
          go_wp2_with (with_reducible refine wpList_append_wide rfl (.tmp 31) (.tmp 32) 22 22 rfl w.heap.size 3 i0 _ 8 1 Tryz.underlying22 Tryz.underlying22 hi0 hz0 hz1 (by decide) hz2 Hzc.out A T1 d V1 rfl Hvl.out hdc HO1.out a' rl c' V2 rfl Hul.out Hus.out Hu1.out (by omega) (by omega) Hw.out ?_; intro A7 e7 w7 hle hO7 hT7 hA7; have HO7 := Lib.hid hO7; have HT7 := Lib.hid hT7; clear hO7 hT7 hA7)
          have HL : Hid (∀ x, A = some x → w.heap.size ≤ x.block) := Lib.hid fun x hx => (HO1.out.lt hx).1
          go_roundg (xss.length - (i + 1))
          case measure => omega
          case rel =>
            refine ⟨i + 1, A7, e7, by omega, rfl, by go_num, ?_, ?_, Hb2.out.trans (HT7.out.below Hw.out HL.out)⟩
            · rw [Hn.out]
            · have h := HO7.out
              rw [Nat.mul_one, HFn.out] at h
              exact h
        · obtain rfl : i = xss.length := by omega
          have h := HO.out
          rw [HFa.out] at h
          have HO9 := Lib.hid h
          have Hl9 : Hid (lenSum (xss.take xss.length) = lenSum xss) := Lib.hid (by rw [List.take_length])
          rw [Hl9.out]
          go_wp2_with fail
          go_ret
          exact ⟨A, d, rfl, HO9.out, Hb2.out⟩
end Go.Proofs.YtmjoijfafachhaaGreatDoor


