/- The walk of the law CanonParts. -/
import Derived.WalkKit
import Derived.WalkSpells
import Derived.WalkLawsBesides
import Derived.Deep.AppendSrc
import Derived.Deep.LoopGhost
import Derived.Deep.QuietTactic
import Derived.Deep.RegionWith
import Derived.Deep.DeepMust
import Derived.Deep.DeepFit
import Derived.BigQuiet
import Derived.Lib.Hide
import Derived.Outline
import Derived.Test.YtmhhjchnjaefhaaDoorProg
import Derived.Deep.Matrix
import Derived.Deep.DeepCutAuto
import Derived.Deep.RegionLaw
import Derived.Deep.RegionHeld3
import Derived.Lib.SliceRun
import Derived.Shelf.Strings.Builder1
import Derived.Shelf.Small.Wraps
import Derived.Shelf.Strings.BuilderF
import Derived.Shelf.Strings.BuilderK
import Derived.Shelf.Strconv.Itoa0
import Derived.Shelf.Strconv.Itoa1
import Derived.Shelf.LaysM
import Derived.Shelf.Strconv.Itoa2
import Derived.Shelf.Strconv.Itoa3
import Derived.Shelf.Slices.Equal
import Derived.Ground.Names2Prog
import Derived.Shelf.Slices.Clone
import Derived.Shelf.Slices.SearchI
import Derived.Shelf.Slices.Empties2
import Derived.Ground.SlgnProg
import Derived.Shelf.SlicesE.Clone
import Derived.Sort.OwnSortedInts
import Derived.Shelf.Small.Bits
import Derived.Shelf.Sort.Plain
import Derived.Shelf.Slices.Turned
import Derived.Shelf.Slices.CompactI
import Derived.Shelf.Slices.Cells
import Derived.Shelf.Slices.In.SortNone
import Derived.Lib.AppendZeros
import Derived.Deep.RegionHeld
import Derived.Lib.Builder
import Derived.Lib.AppendStr
import Derived.Lib.Walk
import Derived.Laws.Externs
import Derived.Lib.AppendIntMem
import Derived.Test.YtmhhjchnjaefhaaDoorFaAa
import Derived.Test.YtmhhjchnjaefhaaDoorFaAb
import Derived.Test.YtmhhjchnjaefhaaDoorFaAc
import Derived.Test.YtmhhjchnjaefhaaDoorFaAd
import Derived.Test.YtmhhjchnjaefhaaDoorFaAe
import Derived.Test.YtmhhjchnjaefhaaDoorFaAf
import Derived.Test.YtmhhjchnjaefhaaDoorFaAg
import Derived.Test.YtmhhjchnjaefhaaDoorFaAh
import Derived.Test.YtmhhjchnjaefhaaDoorFaAi
import Derived.Test.YtmhhjchnjaefhaaDoorFaAj
import Derived.Test.YtmhhjchnjaefhaaDoorFaAk
import Derived.Test.YtmhhjchnjaefhaaDoorFaAl
import Derived.Test.YtmhhjchnjaefhaaDoorFaAm
import Derived.Test.YtmhhjchnjaefhaaDoorFaAn
import Derived.Test.YtmhhjchnjaefhaaDoorFaAo
import Derived.Test.YtmhhjchnjaefhaaDoorFaAp
import Derived.Test.YtmhhjchnjaefhaaDoorFaAq
import Derived.Test.YtmhhjchnjaefhaaDoorFaAr
import Derived.Test.YtmhhjchnjaefhaaDoorFaAs
namespace Go.Proofs.YtmhhjchnjaefhaaDoor
open Go Go.RowKit
set_option maxRecDepth 100000 in
set_option maxHeartbeats 8000000 in
theorem lpar_1 (Sa Ma : List Int) (La : Int) (aSa aMa : Option Addr) (cSa cMa : Nat) (Sb Mb : List Int) (Lb : Int) (aSb aMb : Option Addr) (cSb cMb : Nat) (w : World) (ht : Pow10 w) (h : 10 < Sa.length) :
    Calls Tryd.prog 9 #[.agg #[.slice aSa Sa.length cSa, .slice aMa Ma.length cMa, .int .i64 La], .agg #[.slice aSb Sb.length cSb, .slice aMb Mb.length cMb, .int .i64 Lb]] w fun e w' => e = .returned (.bool true) ∧ Below w.heap.size w w' := by
  have HA : Hid (∀ W', Below w.heap.size w W' → Calls Tryd.prog 11 #[] W' fun e w' => e = .returned (.bool true) ∧ Below W'.heap.size W' w') := Lib.hid fun W' h => awake_any W' (ht.later h)
  have ta1 : decide ((10 : Int) < (Sa.length : Int)) = true := decide_eq_true (by omega)
  have ta2 : decide (10 < Sa.length) = true := decide_eq_true (by omega)
  have H0 := Lib.hid (((HH.start w).alloc #[.slice aSa Sa.length cSa, .slice aMa Ma.length cMa, .int .i64 La] 24 rfl rfl).alloc #[.slice aSb Sb.length cSb, .slice aMb Mb.length cMb, .int .i64 Lb] 24 (b := w.heap.size + 1) (by simp) rfl)
  clear h ht
  generalize Sa.length = na at *
  generalize Ma.length = Na at *
  generalize Sb.length = nb at *
  generalize Mb.length = Nb at *
  go_enter Tryd.func9, Tryd.ntmps9
  go_wp2_with fail
  refine (HA.out _ H0.out.below).mono ?_
  rintro e w1 ⟨rfl, hb⟩
  have H1 := Lib.hid (H0.out.call hb)
  clear hb H0 
  have k00 := H1.out.cell (k := 0) (i := 0) rfl rfl
  have k01 := H1.out.cell (k := 0) (i := 1) rfl rfl
  have k02 := H1.out.cell (k := 0) (i := 2) rfl rfl
  have k10 := H1.out.cell (k := 1) (i := 0) rfl rfl
  have k11 := H1.out.cell (k := 1) (i := 1) rfl rfl
  have k12 := H1.out.cell (k := 1) (i := 2) rfl rfl
  go_wp2_with fail
  go_ret
  exact ⟨rfl, H1.out.below⟩
set_option maxRecDepth 100000 in
set_option maxHeartbeats 8000000 in
theorem lpar_2 (Sa Ma : List Int) (La : Int) (aSa aMa : Option Addr) (cSa cMa : Nat) (Sb Mb : List Int) (Lb : Int) (aSb aMb : Option Addr) (cSb cMb : Nat) (w : World) (ht : Pow10 w) (h : Sa.length ≤ 10) (h2 : 10 < Sb.length) :
    Calls Tryd.prog 9 #[.agg #[.slice aSa Sa.length cSa, .slice aMa Ma.length cMa, .int .i64 La], .agg #[.slice aSb Sb.length cSb, .slice aMb Mb.length cMb, .int .i64 Lb]] w fun e w' => e = .returned (.bool true) ∧ Below w.heap.size w w' := by
  have HA : Hid (∀ W', Below w.heap.size w W' → Calls Tryd.prog 11 #[] W' fun e w' => e = .returned (.bool true) ∧ Below W'.heap.size W' w') := Lib.hid fun W' h => awake_any W' (ht.later h)
  have ta1 : decide ((10 : Int) < (Sa.length : Int)) = false := decide_eq_false (by omega)
  have ta2 : decide (10 < Sa.length) = false := decide_eq_false (by omega)
  have tb1 : decide ((10 : Int) < (Sb.length : Int)) = true := decide_eq_true (by omega)
  have tb2 : decide (10 < Sb.length) = true := decide_eq_true (by omega)
  have H0 := Lib.hid (((HH.start w).alloc #[.slice aSa Sa.length cSa, .slice aMa Ma.length cMa, .int .i64 La] 24 rfl rfl).alloc #[.slice aSb Sb.length cSb, .slice aMb Mb.length cMb, .int .i64 Lb] 24 (b := w.heap.size + 1) (by simp) rfl)
  clear h h2 ht
  generalize Sa.length = na at *
  generalize Ma.length = Na at *
  generalize Sb.length = nb at *
  generalize Mb.length = Nb at *
  go_enter Tryd.func9, Tryd.ntmps9
  go_wp2_with fail
  refine (HA.out _ H0.out.below).mono ?_
  rintro e w1 ⟨rfl, hb⟩
  have H1 := Lib.hid (H0.out.call hb)
  clear hb H0 
  have k00 := H1.out.cell (k := 0) (i := 0) rfl rfl
  have k01 := H1.out.cell (k := 0) (i := 1) rfl rfl
  have k02 := H1.out.cell (k := 0) (i := 2) rfl rfl
  have k10 := H1.out.cell (k := 1) (i := 0) rfl rfl
  have k11 := H1.out.cell (k := 1) (i := 1) rfl rfl
  have k12 := H1.out.cell (k := 1) (i := 2) rfl rfl
  go_wp2_with fail
  go_ret
  exact ⟨rfl, H1.out.below⟩
set_option maxRecDepth 100000 in
set_option maxHeartbeats 8000000 in
theorem lpar_3 (Sa Ma : List Int) (La : Int) (aSa aMa : Option Addr) (cSa cMa : Nat) (Sb Mb : List Int) (Lb : Int) (aSb aMb : Option Addr) (cSb cMb : Nat) (w : World) (ht : Pow10 w) (h : Sa.length ≤ 10) (h2 : Sb.length ≤ 10) (hva : vldB Sa Ma La = false) (hSa : IntsAt w aSa Sa) (hMa : IntsAt w aMa Ma) :
    Calls Tryd.prog 9 #[.agg #[.slice aSa Sa.length cSa, .slice aMa Ma.length cMa, .int .i64 La], .agg #[.slice aSb Sb.length cSb, .slice aMb Mb.length cMb, .int .i64 Lb]] w fun e w' => e = .returned (.bool true) ∧ Below w.heap.size w w' := by
  have HA : Hid (∀ W', Below w.heap.size w W' → Calls Tryd.prog 11 #[] W' fun e w' => e = .returned (.bool true) ∧ Below W'.heap.size W' w') := Lib.hid fun W' h => awake_any W' (ht.later h)
  have ta1 : decide ((10 : Int) < (Sa.length : Int)) = false := decide_eq_false (by omega)
  have ta2 : decide (10 < Sa.length) = false := decide_eq_false (by omega)
  have tb1 : decide ((10 : Int) < (Sb.length : Int)) = false := decide_eq_false (by omega)
  have tb2 : decide (10 < Sb.length) = false := decide_eq_false (by omega)
  have HVa : Hid (∀ W', Below w.heap.size w W' → Calls Tryd.prog 18 #[.agg #[.slice aSa Sa.length cSa, .slice aMa Ma.length cMa, .int .i64 La]] W' fun e w' => e = .returned (.bool false) ∧ Below W'.heap.size W' w') := Lib.hid fun W' h => by
    have g := valid_all Sa Ma La aSa aMa cSa cMa W' (by omega) (hSa.later h) (hMa.later h)
    rw [hva] at g; exact g
  have H0 := Lib.hid (((HH.start w).alloc #[.slice aSa Sa.length cSa, .slice aMa Ma.length cMa, .int .i64 La] 24 rfl rfl).alloc #[.slice aSb Sb.length cSb, .slice aMb Mb.length cMb, .int .i64 Lb] 24 (b := w.heap.size + 1) (by simp) rfl)
  clear h h2 ht hva hSa hMa
  generalize Sa.length = na at *
  generalize Ma.length = Na at *
  generalize Sb.length = nb at *
  generalize Mb.length = Nb at *
  go_enter Tryd.func9, Tryd.ntmps9
  go_wp2_with fail
  refine (HA.out _ H0.out.below).mono ?_
  rintro e w1 ⟨rfl, hb⟩
  have H1 := Lib.hid (H0.out.call hb)
  clear hb H0 
  have k00 := H1.out.cell (k := 0) (i := 0) rfl rfl
  have k01 := H1.out.cell (k := 0) (i := 1) rfl rfl
  have k02 := H1.out.cell (k := 0) (i := 2) rfl rfl
  have k10 := H1.out.cell (k := 1) (i := 0) rfl rfl
  have k11 := H1.out.cell (k := 1) (i := 1) rfl rfl
  have k12 := H1.out.cell (k := 1) (i := 2) rfl rfl
  go_wp2_with fail
  clear k00 k01 k02 k10 k11 k12
  refine (HVa.out _ H1.out.below).mono ?_
  rintro e w2 ⟨rfl, hb⟩
  have H2 := Lib.hid (H1.out.call hb)
  clear hb H1 
  have k00 := H2.out.cell (k := 0) (i := 0) rfl rfl
  have k01 := H2.out.cell (k := 0) (i := 1) rfl rfl
  have k02 := H2.out.cell (k := 0) (i := 2) rfl rfl
  have k10 := H2.out.cell (k := 1) (i := 0) rfl rfl
  have k11 := H2.out.cell (k := 1) (i := 1) rfl rfl
  have k12 := H2.out.cell (k := 1) (i := 2) rfl rfl
  go_wp2_with fail
  go_ret
  exact ⟨rfl, H2.out.below⟩
set_option maxRecDepth 100000 in
set_option maxHeartbeats 8000000 in
theorem lpar_4 (Sa Ma : List Int) (La : Int) (aSa aMa : Option Addr) (cSa cMa : Nat) (Sb Mb : List Int) (Lb : Int) (aSb aMb : Option Addr) (cSb cMb : Nat) (w : World) (ht : Pow10 w) (h : Sa.length ≤ 10) (h2 : Sb.length ≤ 10) (hva : vldB Sa Ma La = true) (hvb : vldB Sb Mb Lb = false) (hSa : IntsAt w aSa Sa) (hMa : IntsAt w aMa Ma) (hSb : IntsAt w aSb Sb) (hMb : IntsAt w aMb Mb) :
    Calls Tryd.prog 9 #[.agg #[.slice aSa Sa.length cSa, .slice aMa Ma.length cMa, .int .i64 La], .agg #[.slice aSb Sb.length cSb, .slice aMb Mb.length cMb, .int .i64 Lb]] w fun e w' => e = .returned (.bool true) ∧ Below w.heap.size w w' := by
  have HA : Hid (∀ W', Below w.heap.size w W' → Calls Tryd.prog 11 #[] W' fun e w' => e = .returned (.bool true) ∧ Below W'.heap.size W' w') := Lib.hid fun W' h => awake_any W' (ht.later h)
  have ta1 : decide ((10 : Int) < (Sa.length : Int)) = false := decide_eq_false (by omega)
  have ta2 : decide (10 < Sa.length) = false := decide_eq_false (by omega)
  have tb1 : decide ((10 : Int) < (Sb.length : Int)) = false := decide_eq_false (by omega)
  have tb2 : decide (10 < Sb.length) = false := decide_eq_false (by omega)
  have HVa : Hid (∀ W', Below w.heap.size w W' → Calls Tryd.prog 18 #[.agg #[.slice aSa Sa.length cSa, .slice aMa Ma.length cMa, .int .i64 La]] W' fun e w' => e = .returned (.bool true) ∧ Below W'.heap.size W' w') := Lib.hid fun W' h => by
    have g := valid_all Sa Ma La aSa aMa cSa cMa W' (by omega) (hSa.later h) (hMa.later h)
    rw [hva] at g; exact g
  have HVb : Hid (∀ W', Below w.heap.size w W' → Calls Tryd.prog 18 #[.agg #[.slice aSb Sb.length cSb, .slice aMb Mb.length cMb, .int .i64 Lb]] W' fun e w' => e = .returned (.bool false) ∧ Below W'.heap.size W' w') := Lib.hid fun W' h => by
    have g := valid_all Sb Mb Lb aSb aMb cSb cMb W' (by omega) (hSb.later h) (hMb.later h)
    rw [hvb] at g; exact g
  have H0 := Lib.hid (((HH.start w).alloc #[.slice aSa Sa.length cSa, .slice aMa Ma.length cMa, .int .i64 La] 24 rfl rfl).alloc #[.slice aSb Sb.length cSb, .slice aMb Mb.length cMb, .int .i64 Lb] 24 (b := w.heap.size + 1) (by simp) rfl)
  clear h h2 ht hva hvb hSa hMa hSb hMb
  generalize Sa.length = na at *
  generalize Ma.length = Na at *
  generalize Sb.length = nb at *
  generalize Mb.length = Nb at *
  go_enter Tryd.func9, Tryd.ntmps9
  go_wp2_with fail
  refine (HA.out _ H0.out.below).mono ?_
  rintro e w1 ⟨rfl, hb⟩
  have H1 := Lib.hid (H0.out.call hb)
  clear hb H0 
  have k00 := H1.out.cell (k := 0) (i := 0) rfl rfl
  have k01 := H1.out.cell (k := 0) (i := 1) rfl rfl
  have k02 := H1.out.cell (k := 0) (i := 2) rfl rfl
  have k10 := H1.out.cell (k := 1) (i := 0) rfl rfl
  have k11 := H1.out.cell (k := 1) (i := 1) rfl rfl
  have k12 := H1.out.cell (k := 1) (i := 2) rfl rfl
  go_wp2_with fail
  clear k00 k01 k02 k10 k11 k12
  refine (HVa.out _ H1.out.below).mono ?_
  rintro e w2 ⟨rfl, hb⟩
  have H2 := Lib.hid (H1.out.call hb)
  clear hb H1 
  have k00 := H2.out.cell (k := 0) (i := 0) rfl rfl
  have k01 := H2.out.cell (k := 0) (i := 1) rfl rfl
  have k02 := H2.out.cell (k := 0) (i := 2) rfl rfl
  have k10 := H2.out.cell (k := 1) (i := 0) rfl rfl
  have k11 := H2.out.cell (k := 1) (i := 1) rfl rfl
  have k12 := H2.out.cell (k := 1) (i := 2) rfl rfl
  go_wp2_with fail
  clear k00 k01 k02 k10 k11 k12
  refine (HVb.out _ H2.out.below).mono ?_
  rintro e w3 ⟨rfl, hb⟩
  have H3 := Lib.hid (H2.out.call hb)
  clear hb H2 
  have k00 := H3.out.cell (k := 0) (i := 0) rfl rfl
  have k01 := H3.out.cell (k := 0) (i := 1) rfl rfl
  have k02 := H3.out.cell (k := 0) (i := 2) rfl rfl
  have k10 := H3.out.cell (k := 1) (i := 0) rfl rfl
  have k11 := H3.out.cell (k := 1) (i := 1) rfl rfl
  have k12 := H3.out.cell (k := 1) (i := 2) rfl rfl
  go_wp2_with fail
  go_ret
  exact ⟨rfl, H3.out.below⟩
set_option maxRecDepth 100000 in
set_option maxHeartbeats 8000000 in
theorem lpar_5 (Sa Ma : List Int) (La : Int) (aSa aMa : Option Addr) (cSa cMa : Nat) (Sb Mb : List Int) (Lb : Int) (aSb aMb : Option Addr) (cSb cMb : Nat) (w : World) (ht : Pow10 w) (h : Sa.length ≤ 10) (h2 : Sb.length ≤ 10) (hva : vldB Sa Ma La = true) (hvb : vldB Sb Mb Lb = true) (hL : 64 < La + Lb) (hSa : IntsAt w aSa Sa) (hMa : IntsAt w aMa Ma) (hSb : IntsAt w aSb Sb) (hMb : IntsAt w aMb Mb) :
    Calls Tryd.prog 9 #[.agg #[.slice aSa Sa.length cSa, .slice aMa Ma.length cMa, .int .i64 La], .agg #[.slice aSb Sb.length cSb, .slice aMb Mb.length cMb, .int .i64 Lb]] w fun e w' => e = .returned (.bool true) ∧ Below w.heap.size w w' := by
  have HA : Hid (∀ W', Below w.heap.size w W' → Calls Tryd.prog 11 #[] W' fun e w' => e = .returned (.bool true) ∧ Below W'.heap.size W' w') := Lib.hid fun W' h => awake_any W' (ht.later h)
  have ta1 : decide ((10 : Int) < (Sa.length : Int)) = false := decide_eq_false (by omega)
  have ta2 : decide (10 < Sa.length) = false := decide_eq_false (by omega)
  have tb1 : decide ((10 : Int) < (Sb.length : Int)) = false := decide_eq_false (by omega)
  have tb2 : decide (10 < Sb.length) = false := decide_eq_false (by omega)
  have hla1 := (vldB_shape hva).lo
  have hla2 := (vldB_shape hva).hi
  have hlb1 := (vldB_shape hvb).lo
  have hlb2 := (vldB_shape hvb).hi
  have w1 : IntKind.i64.wrap (La + Lb) = La + Lb := wrapi_mid (by omega) (by omega)
  have t5 : decide (64 < La + Lb) = true := decide_eq_true hL
  have HVa : Hid (∀ W', Below w.heap.size w W' → Calls Tryd.prog 18 #[.agg #[.slice aSa Sa.length cSa, .slice aMa Ma.length cMa, .int .i64 La]] W' fun e w' => e = .returned (.bool true) ∧ Below W'.heap.size W' w') := Lib.hid fun W' h => by
    have g := valid_all Sa Ma La aSa aMa cSa cMa W' (by omega) (hSa.later h) (hMa.later h)
    rw [hva] at g; exact g
  have HVb : Hid (∀ W', Below w.heap.size w W' → Calls Tryd.prog 18 #[.agg #[.slice aSb Sb.length cSb, .slice aMb Mb.length cMb, .int .i64 Lb]] W' fun e w' => e = .returned (.bool true) ∧ Below W'.heap.size W' w') := Lib.hid fun W' h => by
    have g := valid_all Sb Mb Lb aSb aMb cSb cMb W' (by omega) (hSb.later h) (hMb.later h)
    rw [hvb] at g; exact g
  have H0 := Lib.hid (((HH.start w).alloc #[.slice aSa Sa.length cSa, .slice aMa Ma.length cMa, .int .i64 La] 24 rfl rfl).alloc #[.slice aSb Sb.length cSb, .slice aMb Mb.length cMb, .int .i64 Lb] 24 (b := w.heap.size + 1) (by simp) rfl)
  clear h h2 ht hva hvb hSa hMa hSb hMb hL
  generalize Sa.length = na at *
  generalize Ma.length = Na at *
  generalize Sb.length = nb at *
  generalize Mb.length = Nb at *
  go_enter Tryd.func9, Tryd.ntmps9
  go_wp2_with fail
  refine (HA.out _ H0.out.below).mono ?_
  rintro e w1 ⟨rfl, hb⟩
  have H1 := Lib.hid (H0.out.call hb)
  clear hb H0 
  have k00 := H1.out.cell (k := 0) (i := 0) rfl rfl
  have k01 := H1.out.cell (k := 0) (i := 1) rfl rfl
  have k02 := H1.out.cell (k := 0) (i := 2) rfl rfl
  have k10 := H1.out.cell (k := 1) (i := 0) rfl rfl
  have k11 := H1.out.cell (k := 1) (i := 1) rfl rfl
  have k12 := H1.out.cell (k := 1) (i := 2) rfl rfl
  go_wp2_with fail
  clear k00 k01 k02 k10 k11 k12
  refine (HVa.out _ H1.out.below).mono ?_
  rintro e w2 ⟨rfl, hb⟩
  have H2 := Lib.hid (H1.out.call hb)
  clear hb H1 
  have k00 := H2.out.cell (k := 0) (i := 0) rfl rfl
  have k01 := H2.out.cell (k := 0) (i := 1) rfl rfl
  have k02 := H2.out.cell (k := 0) (i := 2) rfl rfl
  have k10 := H2.out.cell (k := 1) (i := 0) rfl rfl
  have k11 := H2.out.cell (k := 1) (i := 1) rfl rfl
  have k12 := H2.out.cell (k := 1) (i := 2) rfl rfl
  go_wp2_with fail
  clear k00 k01 k02 k10 k11 k12
  refine (HVb.out _ H2.out.below).mono ?_
  rintro e w3 ⟨rfl, hb⟩
  have H3 := Lib.hid (H2.out.call hb)
  clear hb H2 
  have k00 := H3.out.cell (k := 0) (i := 0) rfl rfl
  have k01 := H3.out.cell (k := 0) (i := 1) rfl rfl
  have k02 := H3.out.cell (k := 0) (i := 2) rfl rfl
  have k10 := H3.out.cell (k := 1) (i := 0) rfl rfl
  have k11 := H3.out.cell (k := 1) (i := 1) rfl rfl
  have k12 := H3.out.cell (k := 1) (i := 2) rfl rfl
  go_wp2_with fail
  go_ret
  exact ⟨rfl, H3.out.below⟩
set_option maxRecDepth 100000 in
set_option maxHeartbeats 8000000 in
theorem lpar_6 (Sa Ma : List Int) (La : Int) (aSa aMa : Option Addr) (cSa cMa : Nat) (Sb Mb : List Int) (Lb : Int) (aSb aMb : Option Addr) (cSb cMb : Nat) (w : World) (ht : Pow10 w) (h : Sa.length ≤ 10) (h2 : Sb.length ≤ 10) (hva : vldB Sa Ma La = true) (hvb : vldB Sb Mb Lb = true) (hL : La + Lb ≤ 64) (hSa : IntsAt w aSa Sa) (hMa : IntsAt w aMa Ma) (hSb : IntsAt w aSb Sb) (hMb : IntsAt w aMb Mb) :
    Calls Tryd.prog 9 #[.agg #[.slice aSa Sa.length cSa, .slice aMa Ma.length cMa, .int .i64 La], .agg #[.slice aSb Sb.length cSb, .slice aMb Mb.length cMb, .int .i64 Lb]] w fun e w' => e = .returned (.bool true) ∧ Below w.heap.size w w' := by
  have HA : Hid (∀ W', Below w.heap.size w W' → Calls Tryd.prog 11 #[] W' fun e w' => e = .returned (.bool true) ∧ Below W'.heap.size W' w') := Lib.hid fun W' h => awake_any W' (ht.later h)
  have ta1 : decide ((10 : Int) < (Sa.length : Int)) = false := decide_eq_false (by omega)
  have ta2 : decide (10 < Sa.length) = false := decide_eq_false (by omega)
  have tb1 : decide ((10 : Int) < (Sb.length : Int)) = false := decide_eq_false (by omega)
  have tb2 : decide (10 < Sb.length) = false := decide_eq_false (by omega)
  have hla1 := (vldB_shape hva).lo
  have hla2 := (vldB_shape hva).hi
  have hlb1 := (vldB_shape hvb).lo
  have hlb2 := (vldB_shape hvb).hi
  have w1 : IntKind.i64.wrap (La + Lb) = La + Lb := wrapi_mid (by omega) (by omega)
  have t5 : decide (64 < La + Lb) = false := decide_eq_false (by omega)
  have HVa : Hid (∀ W', Below w.heap.size w W' → Calls Tryd.prog 18 #[.agg #[.slice aSa Sa.length cSa, .slice aMa Ma.length cMa, .int .i64 La]] W' fun e w' => e = .returned (.bool true) ∧ Below W'.heap.size W' w') := Lib.hid fun W' h => by
    have g := valid_all Sa Ma La aSa aMa cSa cMa W' (by omega) (hSa.later h) (hMa.later h)
    rw [hva] at g; exact g
  have HVb : Hid (∀ W', Below w.heap.size w W' → Calls Tryd.prog 18 #[.agg #[.slice aSb Sb.length cSb, .slice aMb Mb.length cMb, .int .i64 Lb]] W' fun e w' => e = .returned (.bool true) ∧ Below W'.heap.size W' w') := Lib.hid fun W' h => by
    have g := valid_all Sb Mb Lb aSb aMb cSb cMb W' (by omega) (hSb.later h) (hMb.later h)
    rw [hvb] at g; exact g
  obtain ⟨pc1, pc2, pc3, pc4⟩ := par_all hva hvb (by omega) hL
  obtain ⟨pv, pl, pl2, _⟩ := fm_all hva
  have hcf : (codeOf (Sa ++ Sb) (uniM Ma Mb) (La + Lb)).length ≤ 2100 := codeOf_few2 (uni_ok hva hvb (by omega) hL) (by rw [List.length_append]; omega)
  have hga := grp_len Ma Sa.length
  have hgb := grp_len Mb Sb.length
  have HFd : Hid (∀ W', Below w.heap.size w W' → Calls Tryd.prog 26 #[.agg #[.slice aSa Sa.length cSa, .slice aMa Ma.length cMa, .int .i64 La]] W' fun e w' => ∃ a b c d, e = .returned (.tuple #[.agg #[.slice a Sa.length c, .slice b Ma.length d, .int .i64 La], .int .i64 0]) ∧ Own w' W'.heap.size 3 a c (ints (fmS Sa Ma)) ∧ Own w' W'.heap.size 3 b d (ints (fmM Sa Ma)) ∧ Below W'.heap.size W' w') := Lib.hid fun W' h => form_yes Sa Ma La aSa aMa cSa cMa W' hva (by omega) (hSa.later h) (hMa.later h)
  have HB1 : Hid (∀ W', Below w.heap.size w W' → Calls Tryd.prog 35 #[.agg #[.slice aSa Sa.length cSa, .slice aMa Ma.length cMa, .int .i64 La], .agg #[.slice aSb Sb.length cSb, .slice aMb Mb.length cMb, .int .i64 Lb]] W' fun e w' => ∃ a b c d, e = .returned (.agg #[.slice a (Sa.length + Sb.length) c, .slice b (Ma.length + Mb.length) d, .int .i64 (La + Lb)]) ∧ Own w' W'.heap.size 3 a c (ints (Sa ++ Sb)) ∧ Own w' W'.heap.size 3 b d (ints (uniM Ma Mb)) ∧ Below W'.heap.size W' w') := Lib.hid fun W' h => beside_any Sa Ma La aSa aMa cSa cMa Sb Mb Lb aSb aMb cSb cMb W' hva hvb (hSa.later h) (hMa.later h) (hSb.later h) (hMb.later h)
  have HB2 : Hid (∀ W', Below w.heap.size w W' → Calls Tryd.prog 35 #[.agg #[.slice aSb Sb.length cSb, .slice aMb Mb.length cMb, .int .i64 Lb], .agg #[.slice aSa Sa.length cSa, .slice aMa Ma.length cMa, .int .i64 La]] W' fun e w' => ∃ a b c d, e = .returned (.agg #[.slice a (Sb.length + Sa.length) c, .slice b (Mb.length + Ma.length) d, .int .i64 (Lb + La)]) ∧ Own w' W'.heap.size 3 a c (ints (Sb ++ Sa)) ∧ Own w' W'.heap.size 3 b d (ints (uniM Mb Ma)) ∧ Below W'.heap.size W' w') := Lib.hid fun W' h => beside_any Sb Mb Lb aSb aMb cSb cMb Sa Ma La aSa aMa cSa cMa W' hvb hva (hSb.later h) (hMb.later h) (hSa.later h) (hMa.later h)
  have HB3 : Hid (∀ (a b : Option Addr) (c d : Nat) W', Below w.heap.size w W' → IntsAt W' a (fmS Sa Ma) → IntsAt W' b (fmM Sa Ma) → Calls Tryd.prog 35 #[.agg #[.slice a Sa.length c, .slice b Ma.length d, .int .i64 La], .agg #[.slice aSb Sb.length cSb, .slice aMb Mb.length cMb, .int .i64 Lb]] W' fun e w' => ∃ a b c d, e = .returned (.agg #[.slice a (Sa.length + Sb.length) c, .slice b (Ma.length + Mb.length) d, .int .i64 (La + Lb)]) ∧ Own w' W'.heap.size 3 a c (ints (fmS Sa Ma ++ Sb)) ∧ Own w' W'.heap.size 3 b d (ints (uniM (fmM Sa Ma) Mb)) ∧ Below W'.heap.size W' w') := Lib.hid fun a b c d W' h h1 h2 => by
    have g := beside_any (fmS Sa Ma) (fmM Sa Ma) La a b c d Sb Mb Lb aSb aMb cSb cMb W' pv hvb h1 h2 (hSb.later h) (hMb.later h)
    rw [pl, pl2] at g; exact g
  have HC1 : Hid (∀ (a b : Option Addr) (c d : Nat) W', IntsAt W' a (Sa ++ Sb) → IntsAt W' b (uniM Ma Mb) → Calls Tryd.prog 25 #[.agg #[.slice a (Sa.length + Sb.length) c, .slice b (Ma.length + Mb.length) d, .int .i64 (La + Lb)]] W' fun e w' => ∃ A C, e = .returned (.slice A (codeOf (Sa ++ Sb) (uniM Ma Mb) (La + Lb)).length C) ∧ Own w' W'.heap.size 3 A C (ints (codeOf (Sa ++ Sb) (uniM Ma Mb) (La + Lb))) ∧ Below W'.heap.size W' w') := Lib.hid fun a b c d W' h1 h2 => by
    have g := code_yes (Sa ++ Sb) (uniM Ma Mb) (La + Lb) a b c d W' (uni_ok hva hvb (by omega) hL) (by rw [List.length_append]; omega) h1 h2
    rw [List.length_append, uniM_len] at g; exact g
  have HC2 : Hid (∀ (a b : Option Addr) (c d : Nat) W', IntsAt W' a (Sb ++ Sa) → IntsAt W' b (uniM Mb Ma) → Calls Tryd.prog 25 #[.agg #[.slice a (Sb.length + Sa.length) c, .slice b (Mb.length + Ma.length) d, .int .i64 (Lb + La)]] W' fun e w' => ∃ A C, e = .returned (.slice A (codeOf (Sa ++ Sb) (uniM Ma Mb) (La + Lb)).length C) ∧ Own w' W'.heap.size 3 A C (ints (codeOf (Sa ++ Sb) (uniM Ma Mb) (La + Lb))) ∧ Below W'.heap.size W' w') := Lib.hid fun a b c d W' h1 h2 => by
    have g := code_yes (Sb ++ Sa) (uniM Mb Ma) (Lb + La) a b c d W' (uni_ok hvb hva (by omega) (by omega)) (by rw [List.length_append]; omega) h1 h2
    rw [pc1, List.length_append, uniM_len] at g; exact g
  have HC3 : Hid (∀ (a b : Option Addr) (c d : Nat) W', IntsAt W' a (fmS Sa Ma ++ Sb) → IntsAt W' b (uniM (fmM Sa Ma) Mb) → Calls Tryd.prog 25 #[.agg #[.slice a (Sa.length + Sb.length) c, .slice b (Ma.length + Mb.length) d, .int .i64 (La + Lb)]] W' fun e w' => ∃ A C, e = .returned (.slice A (codeOf (Sa ++ Sb) (uniM Ma Mb) (La + Lb)).length C) ∧ Own w' W'.heap.size 3 A C (ints (codeOf (Sa ++ Sb) (uniM Ma Mb) (La + Lb))) ∧ Below W'.heap.size W' w') := Lib.hid fun a b c d W' h1 h2 => by
    have g := code_yes (fmS Sa Ma ++ Sb) (uniM (fmM Sa Ma) Mb) (La + Lb) a b c d W' (uni_ok pv hvb (by omega) hL) (by rw [List.length_append]; omega) h1 h2
    rw [pc2, List.length_append, uniM_len, pl, pl2] at g; exact g
  have HI : Hid (∀ (A B : Option Addr) (C D : Nat) W', IntsAt W' A (codeOf (Sa ++ Sb) (uniM Ma Mb) (La + Lb)) → IntsAt W' B (codeOf (Sa ++ Sb) (uniM Ma Mb) (La + Lb)) → Calls Tryd.prog 30 #[.slice A (codeOf (Sa ++ Sb) (uniM Ma Mb) (La + Lb)).length C, .slice B (codeOf (Sa ++ Sb) (uniM Ma Mb) (La + Lb)).length D] W' fun e w' => e = .returned (.bool true) ∧ Below W'.heap.size W' w') := Lib.hid fun A B C D W' h1 h2 => by
    have g := ints_any _ _ A B C D W' (by omega) h1 h2
    rw [decide_eq_true rfl] at g
    exact g.mono fun e w' ⟨he, m, hm⟩ => ⟨he, hm ▸ below_drewNN (Below.refl _ _) m⟩
  have HGa : Hid (∀ W', Below w.heap.size w W' → Calls Tryd.prog 36 #[.agg #[.slice aSa Sa.length cSa, .slice aMa Ma.length cMa, .int .i64 La]] W' fun e w' => ∃ A C, e = .returned (.slice A (grpOf Ma Sa.length).length C) ∧ Below W'.heap.size W' w') := Lib.hid fun W' h => (graph_any Sa Ma La aSa aMa cSa cMa W' hva (hSa.later h) (hMa.later h)).mono fun e w' ⟨A, C, he, _, hb⟩ => ⟨A, C, he, hb⟩
  have HGb : Hid (∀ W', Below w.heap.size w W' → Calls Tryd.prog 36 #[.agg #[.slice aSb Sb.length cSb, .slice aMb Mb.length cMb, .int .i64 Lb]] W' fun e w' => ∃ A C, e = .returned (.slice A (grpOf Mb Sb.length).length C) ∧ Below W'.heap.size W' w') := Lib.hid fun W' h => (graph_any Sb Mb Lb aSb aMb cSb cMb W' hvb (hSb.later h) (hMb.later h)).mono fun e w' ⟨A, C, he, _, hb⟩ => ⟨A, C, he, hb⟩
  have H0 := Lib.hid (((HH.start w).alloc #[.slice aSa Sa.length cSa, .slice aMa Ma.length cMa, .int .i64 La] 24 rfl rfl).alloc #[.slice aSb Sb.length cSb, .slice aMb Mb.length cMb, .int .i64 Lb] 24 (b := w.heap.size + 1) (by simp) rfl)
  clear ht hva hvb hSa hMa hSb hMb pc1 pc2 pv pl pl2
  have P3 := Lib.hid pc3
  clear pc3
  generalize (grpOf Ma Sa.length).length = ga at *
  generalize (grpOf Mb Sb.length).length = gb at *
  generalize codeOf (Sa ++ Sb) (uniM Ma Mb) (La + Lb) = CD at *
  generalize uniM Ma Mb = U1 at *
  generalize uniM Mb Ma = U2 at *
  generalize uniM (fmM Sa Ma) Mb = U3 at *
  generalize Sa ++ Sb = V1 at *
  generalize Sb ++ Sa = V2 at *
  generalize fmS Sa Ma ++ Sb = V3 at *
  generalize fmS Sa Ma = FSz at *
  generalize fmM Sa Ma = FM at *
  have t6 : decide ((1 : Int) < (CD.length : Int)) = true := decide_eq_true (by omega)
  have t7 : decide (1 < CD.length) = true := decide_eq_true pc4
  have t8 : (1 : Int) < (CD.length : Int) := by omega
  have w2 : IntKind.i64.wrap ((ga : Int) + (gb : Int)) = (ga : Int) + (gb : Int) := wrapi_mid (by omega) (by omega)
  generalize Sa.length = na at *
  generalize Ma.length = Na at *
  generalize Sb.length = nb at *
  generalize Mb.length = Nb at *
  go_enter Tryd.func9, Tryd.ntmps9
  go_wp2_with fail
  refine (HA.out _ H0.out.below).mono ?_
  rintro e w1 ⟨rfl, hb⟩
  have H1 := Lib.hid (H0.out.call hb)
  clear hb H0 
  have k00 := H1.out.cell (k := 0) (i := 0) rfl rfl
  have k01 := H1.out.cell (k := 0) (i := 1) rfl rfl
  have k02 := H1.out.cell (k := 0) (i := 2) rfl rfl
  have k10 := H1.out.cell (k := 1) (i := 0) rfl rfl
  have k11 := H1.out.cell (k := 1) (i := 1) rfl rfl
  have k12 := H1.out.cell (k := 1) (i := 2) rfl rfl
  go_wp2_with fail
  clear k00 k01 k02 k10 k11 k12
  refine (HVa.out _ H1.out.below).mono ?_
  rintro e w2 ⟨rfl, hb⟩
  have H2 := Lib.hid (H1.out.call hb)
  clear hb H1 
  have k00 := H2.out.cell (k := 0) (i := 0) rfl rfl
  have k01 := H2.out.cell (k := 0) (i := 1) rfl rfl
  have k02 := H2.out.cell (k := 0) (i := 2) rfl rfl
  have k10 := H2.out.cell (k := 1) (i := 0) rfl rfl
  have k11 := H2.out.cell (k := 1) (i := 1) rfl rfl
  have k12 := H2.out.cell (k := 1) (i := 2) rfl rfl
  go_wp2_with fail
  clear k00 k01 k02 k10 k11 k12
  refine (HVb.out _ H2.out.below).mono ?_
  rintro e w3 ⟨rfl, hb⟩
  have H3 := Lib.hid (H2.out.call hb)
  clear hb H2 
  have k00 := H3.out.cell (k := 0) (i := 0) rfl rfl
  have k01 := H3.out.cell (k := 0) (i := 1) rfl rfl
  have k02 := H3.out.cell (k := 0) (i := 2) rfl rfl
  have k10 := H3.out.cell (k := 1) (i := 0) rfl rfl
  have k11 := H3.out.cell (k := 1) (i := 1) rfl rfl
  have k12 := H3.out.cell (k := 1) (i := 2) rfl rfl
  go_wp2_with fail
  clear k00 k01 k02 k10 k11 k12
  refine (HFd.out _ H3.out.below).mono ?_
  rintro e w4 ⟨a5, b5, c5, d5, rfl, ho1, ho2, hb⟩
  have H4' := Lib.hid (H3.out.call hb)
  have N5 := Lib.hid (And.intro ho1.ints ho2.ints)
  clear ho1 ho2 hb H3
  have H4 := Lib.hid (H4'.out.alloc #[.slice a5 na c5, .slice b5 Na d5, .int .i64 La] 24 (b := w4.heap.size) rfl rfl)
  have M5 := Lib.hid (And.intro (N5.out.1.later ((Below.refl _ _).alloc (Nat.le_refl _) (.cells #[.slice a5 na c5, .slice b5 Na d5, .int .i64 La] 24))) (N5.out.2.later ((Below.refl _ _).alloc (Nat.le_refl _) (.cells #[.slice a5 na c5, .slice b5 Na d5, .int .i64 La] 24))))
  go_upto_region 6 with fail
  clear N5 H4'
  generalize w4.alloc (.cells #[.slice a5 na c5, .slice b5 Na d5, .int .i64 La] 24) = v4 at *
  generalize w4.heap.size = q5 at *
  have k00 := H4.out.cell (k := 0) (i := 0) rfl rfl
  have k01 := H4.out.cell (k := 0) (i := 1) rfl rfl
  have k02 := H4.out.cell (k := 0) (i := 2) rfl rfl
  have k10 := H4.out.cell (k := 1) (i := 0) rfl rfl
  have k11 := H4.out.cell (k := 1) (i := 1) rfl rfl
  have k12 := H4.out.cell (k := 1) (i := 2) rfl rfl
  go_wp2_with fail
  clear k00 k01 k02 k10 k11 k12
  refine (HB1.out _ H4.out.below).mono ?_
  rintro e w5 ⟨a6, b6, c6, d6, rfl, ho1, ho2, hb⟩
  have H5 := Lib.hid (H4.out.call hb)
  have O5 := Lib.hid (And.intro (And.intro (M5.out.1.later hb) (M5.out.2.later hb)) (And.intro ho1.ints ho2.ints))
  clear ho1 ho2 hb H4 M5
  go_wp2_with fail
  refine (HC1.out a6 b6 c6 d6 _ O5.out.2.1 O5.out.2.2).mono ?_
  rintro e w6 ⟨A7, C7, rfl, ho, hb⟩
  have H6 := Lib.hid (H5.out.call hb)
  have O6 := Lib.hid (And.intro (And.intro (O5.out.1.1.later hb) (O5.out.1.2.later hb)) ho.ints)
  obtain ⟨b7, o7, ha7, _, hc7⟩ := ho.ints.open (by omega)
  have HC7 : Hid (∀ W', Below w6.heap.size w6 W' → W'.cell? ⟨b7, o7 + 1, none⟩ = some (.int .i64 ((ga : Int) + (gb : Int)))) := Lib.hid fun W' h => by
    have g := hc7 1 (by omega)
    rw [P3.out] at g
    exact (h.cell (p := ⟨b7, o7 + 1, none⟩) (World.block_lt_of_cell? _ _ g)).trans g
  subst ha7
  clear ho hb H5 O5 hc7 P3
  generalize CD.length = lc at *
  go_upto_region 7 with fail
  have HQ : Hid (∀ W', Below w6.heap.size w6 W' → W'.cell? ⟨w.heap.size, 0, none⟩ = some (.slice aSa na cSa) ∧ W'.cell? ⟨w.heap.size, 1, none⟩ = some (.slice aMa Na cMa) ∧ W'.cell? ⟨w.heap.size, 2, none⟩ = some (.int .i64 La) ∧ W'.cell? ⟨w.heap.size + 1, 0, none⟩ = some (.slice aSb nb cSb) ∧ W'.cell? ⟨w.heap.size + 1, 1, none⟩ = some (.slice aMb Nb cMb) ∧ W'.cell? ⟨w.heap.size + 1, 2, none⟩ = some (.int .i64 Lb) ∧ W'.cell? ⟨q5, 0, none⟩ = some (.slice a5 na c5) ∧ W'.cell? ⟨q5, 1, none⟩ = some (.slice b5 Na d5) ∧ W'.cell? ⟨q5, 2, none⟩ = some (.int .i64 La) ∧ W'.cell? ⟨b7, o7 + 1, none⟩ = some (.int .i64 ((ga : Int) + (gb : Int)))) := Lib.hid fun W' h => by
    have h1 := H6.out.call h
    exact ⟨(h1.cell (k := 0) (i := 0) rfl rfl), (h1.cell (k := 0) (i := 1) rfl rfl), (h1.cell (k := 0) (i := 2) rfl rfl), (h1.cell (k := 1) (i := 0) rfl rfl), (h1.cell (k := 1) (i := 1) rfl rfl), (h1.cell (k := 1) (i := 2) rfl rfl), (h1.cell (k := 2) (i := 0) rfl rfl), (h1.cell (k := 2) (i := 1) rfl rfl), (h1.cell (k := 2) (i := 2) rfl rfl), HC7.out W' h⟩
  have B0 : Hid (Below w6.heap.size w6 w6.drew) := Lib.hid (Below.refl _ _).drew
  have Q0 := Lib.hid (HQ.out _ B0.out)
  have HD : Hid (∀ W', Below w6.heap.size w6 W' → Below w.heap.size w W') := Lib.hid fun W' h => below_of H6.out.below h H6.out.below.size
  go_region_held3 (fun W' => W'.cell? ⟨w.heap.size, 0, none⟩ = some (.slice aSa na cSa) ∧ W'.cell? ⟨w.heap.size, 1, none⟩ = some (.slice aMa Na cMa) ∧ W'.cell? ⟨w.heap.size, 2, none⟩ = some (.int .i64 La) ∧ W'.cell? ⟨w.heap.size + 1, 0, none⟩ = some (.slice aSb nb cSb) ∧ W'.cell? ⟨w.heap.size + 1, 1, none⟩ = some (.slice aMb Nb cMb) ∧ W'.cell? ⟨w.heap.size + 1, 2, none⟩ = some (.int .i64 Lb) ∧ W'.cell? ⟨q5, 0, none⟩ = some (.slice a5 na c5) ∧ W'.cell? ⟨q5, 1, none⟩ = some (.slice b5 Na d5) ∧ W'.cell? ⟨q5, 2, none⟩ = some (.int .i64 La) ∧ W'.cell? ⟨b7, o7 + 1, none⟩ = some (.int .i64 ((ga : Int) + (gb : Int))))
    (first
      | with_reducible exact Q0.out
      | with_reducible exact Q1.out
      | with_reducible exact Q2.out
      | with_reducible exact Q3.out
      | with_reducible exact Q4.out
      | with_reducible exact Q5.out
      | with_reducible exact Q6.out
      | with_reducible exact Q7.out
      | with_reducible exact Q8.out)
    (first
      | ((with_reducible refine (HB2.out _ (HD.out _ B0.out)).mono ?_); rintro e z1 ⟨a8, b8, c8, d8, rfl, ho1, ho2, hb⟩; have B1 := Lib.hid (B0.out.trans (hb.mono B0.out.size)); have Q1 := Lib.hid (HQ.out _ B1.out); have O8 := Lib.hid (And.intro ho1.ints ho2.ints); clear ho1 ho2; clear hb)
      | ((with_reducible refine (HC2.out a8 b8 c8 d8 _ O8.out.1 O8.out.2).mono ?_); rintro e z2 ⟨A9, C9, rfl, ho, hb⟩; have B2 := Lib.hid (B1.out.trans (hb.mono B1.out.size)); have Q2 := Lib.hid (HQ.out _ B2.out); have O9 := Lib.hid ho.ints; clear ho; clear hb)
      | ((with_reducible refine (HI.out (some ⟨b7, o7, none⟩) A9 C7 C9 _ (O6.out.2.later B2.out) O9.out).mono ?_); rintro e z3 ⟨rfl, hb⟩; have B3 := Lib.hid (B2.out.trans (hb.mono B2.out.size)); have Q3 := Lib.hid (HQ.out _ B3.out); clear hb)
      | ((with_reducible refine (HB3.out a5 b5 c5 d5 _ (HD.out _ B3.out) (O6.out.1.1.later B3.out) (O6.out.1.2.later B3.out)).mono ?_); rintro e z4 ⟨a10, b10, c10, d10, rfl, ho1, ho2, hb⟩; have B4 := Lib.hid (B3.out.trans (hb.mono B3.out.size)); have Q4 := Lib.hid (HQ.out _ B4.out); have O10 := Lib.hid (And.intro ho1.ints ho2.ints); clear ho1 ho2; clear hb)
      | ((with_reducible refine (HC3.out a10 b10 c10 d10 _ O10.out.1 O10.out.2).mono ?_); rintro e z5 ⟨A11, C11, rfl, ho, hb⟩; have B5 := Lib.hid (B4.out.trans (hb.mono B4.out.size)); have Q5 := Lib.hid (HQ.out _ B5.out); have O11 := Lib.hid ho.ints; clear ho; clear hb)
      | ((with_reducible refine (HI.out (some ⟨b7, o7, none⟩) A11 C7 C11 _ (O6.out.2.later B5.out) O11.out).mono ?_); rintro e z6 ⟨rfl, hb⟩; have B6 := Lib.hid (B5.out.trans (hb.mono B5.out.size)); have Q6 := Lib.hid (HQ.out _ B6.out); clear hb)
      | ((with_reducible refine (HGa.out _ (HD.out _ B6.out)).mono ?_); rintro e z7 ⟨A12, C12, rfl, hb⟩; have B7 := Lib.hid (B6.out.trans (hb.mono B6.out.size)); have Q7 := Lib.hid (HQ.out _ B7.out); clear hb)
      | ((with_reducible refine (HGb.out _ (HD.out _ B7.out)).mono ?_); rintro e z8 ⟨A13, C13, rfl, hb⟩; have B8 := Lib.hid (B7.out.trans (hb.mono B7.out.size)); have Q8 := Lib.hid (HQ.out _ B8.out); clear hb))
  go_wp2_with fail
  go_ret
  exact ⟨rfl, HD.out _ B8.out⟩
theorem lpar_any (Sa Ma : List Int) (La : Int) (aSa aMa : Option Addr) (cSa cMa : Nat) (Sb Mb : List Int) (Lb : Int) (aSb aMb : Option Addr) (cSb cMb : Nat) (w : World) (ht : Pow10 w) (_ : Sa.length ≤ maxLen) (_ : Ma.length ≤ maxLen) (_ : (Lit.int .i64 La).wf = true) (hSa : IntsAt w aSa Sa) (hMa : IntsAt w aMa Ma) (_ : Sb.length ≤ maxLen) (_ : Mb.length ≤ maxLen) (_ : (Lit.int .i64 Lb).wf = true) (hSb : IntsAt w aSb Sb) (hMb : IntsAt w aMb Mb) :
    Calls Tryd.prog 9 #[.agg #[.slice aSa Sa.length cSa, .slice aMa Ma.length cMa, .int .i64 La], .agg #[.slice aSb Sb.length cSb, .slice aMb Mb.length cMb, .int .i64 Lb]] w fun e w' => e = .returned (.bool true) ∧ Below w.heap.size w w' := by
  by_cases h : Sa.length ≤ 10
  · by_cases h2 : Sb.length ≤ 10
    · cases hva : vldB Sa Ma La
      · exact lpar_3 Sa Ma La aSa aMa cSa cMa Sb Mb Lb aSb aMb cSb cMb w ht h h2 hva hSa hMa
      · cases hvb : vldB Sb Mb Lb
        · exact lpar_4 Sa Ma La aSa aMa cSa cMa Sb Mb Lb aSb aMb cSb cMb w ht h h2 hva hvb hSa hMa hSb hMb
        · by_cases hL : La + Lb ≤ 64
          · exact lpar_6 Sa Ma La aSa aMa cSa cMa Sb Mb Lb aSb aMb cSb cMb w ht h h2 hva hvb hL hSa hMa hSb hMb
          · exact lpar_5 Sa Ma La aSa aMa cSa cMa Sb Mb Lb aSb aMb cSb cMb w ht h h2 hva hvb (by omega) hSa hMa hSb hMb
    · exact lpar_2 Sa Ma La aSa aMa cSa cMa Sb Mb Lb aSb aMb cSb cMb w ht h (by omega)
  · exact lpar_1 Sa Ma La aSa aMa cSa cMa Sb Mb Lb aSb aMb cSb cMb w ht (by omega)
end Go.Proofs.YtmhhjchnjaefhaaDoor

