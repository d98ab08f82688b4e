/- The walk of the law CanonComplete. -/
import Derived.WalkKit
import Derived.WalkSpells
import Derived.WalkLawsBesides
import Derived.Deep.AppendSrc
import Derived.Deep.LoopGhost
import Derived.Deep.QuietTactic
import Derived.Deep.RegionWith
import Derived.Deep.DeepMust
import Derived.Deep.DeepFit
import Derived.BigQuiet
import Derived.Lib.Hide
import Derived.Outline
import Derived.Test.YtmhhjchnjaefhaaDoorProg
import Derived.Deep.Matrix
import Derived.Deep.DeepCutAuto
import Derived.Deep.RegionLaw
import Derived.Deep.RegionHeld3
import Derived.Lib.SliceRun
import Derived.Shelf.Strings.Builder1
import Derived.Shelf.Small.Wraps
import Derived.Shelf.Strings.BuilderF
import Derived.Shelf.Strings.BuilderK
import Derived.Shelf.Strconv.Itoa0
import Derived.Shelf.Strconv.Itoa1
import Derived.Shelf.LaysM
import Derived.Shelf.Strconv.Itoa2
import Derived.Shelf.Strconv.Itoa3
import Derived.Shelf.Slices.Equal
import Derived.Ground.Names2Prog
import Derived.Shelf.Slices.Clone
import Derived.Shelf.Slices.SearchI
import Derived.Shelf.Slices.Empties2
import Derived.Ground.SlgnProg
import Derived.Shelf.SlicesE.Clone
import Derived.Sort.OwnSortedInts
import Derived.Shelf.Small.Bits
import Derived.Shelf.Sort.Plain
import Derived.Shelf.Slices.Turned
import Derived.Shelf.Slices.CompactI
import Derived.Shelf.Slices.Cells
import Derived.Shelf.Slices.In.SortNone
import Derived.Lib.AppendZeros
import Derived.Deep.RegionHeld
import Derived.Lib.Builder
import Derived.Lib.AppendStr
import Derived.Lib.Walk
import Derived.Laws.Externs
import Derived.Lib.AppendIntMem
import Derived.Test.YtmhhjchnjaefhaaDoorVAa
import Derived.Test.YtmhhjchnjaefhaaDoorVAb
import Derived.Test.YtmhhjchnjaefhaaDoorVAc
import Derived.Test.YtmhhjchnjaefhaaDoorVAd
import Derived.Test.YtmhhjchnjaefhaaDoorVAe
import Derived.Test.YtmhhjchnjaefhaaDoorVAf
import Derived.Test.YtmhhjchnjaefhaaDoorVAg
import Derived.Test.YtmhhjchnjaefhaaDoorVAh
import Derived.Test.YtmhhjchnjaefhaaDoorVAi
import Derived.Test.YtmhhjchnjaefhaaDoorVAj
import Derived.Test.YtmhhjchnjaefhaaDoorVAk
import Derived.Test.YtmhhjchnjaefhaaDoorVAl
import Derived.Test.YtmhhjchnjaefhaaDoorVAm
import Derived.Test.YtmhhjchnjaefhaaDoorVAn
import Derived.Test.YtmhhjchnjaefhaaDoorVAo
import Derived.Test.YtmhhjchnjaefhaaDoorVAp
import Derived.Test.YtmhhjchnjaefhaaDoorVAq
import Derived.Test.YtmhhjchnjaefhaaDoorVAr
import Derived.Test.YtmhhjchnjaefhaaDoorVAs
namespace Go.Proofs.YtmhhjchnjaefhaaDoor
open Go Go.RowKit
/-- Some order renumbers one into the other just if the codes are equal. -/
theorem found_is {S M T N : List Int} {L K : Int} (hv : vldB S M L = true) (hw : vldB T N K = true) :
    (exts S.length S.length []).any (fun o => eqD (partS S o) (partM M o) L T N K) = decide (codeOf S M L = codeOf T N K) := by
  rw [Bool.eq_iff_iff, List.any_eq_true, decide_eq_true_eq, code_iff hv hw]
  constructor
  · rintro ⟨o, ho, h⟩
    have h := of_decide_eq_true h
    exact ⟨o, exts_all.1 ho, h⟩
  · rintro ⟨o, ho, h⟩
    exact ⟨o, exts_all.2 ho, decide_eq_true h⟩
set_option maxRecDepth 100000 in
set_option maxHeartbeats 8000000 in
theorem lcmp_1 (Sa Ma : List Int) (La : Int) (aSa aMa : Option Addr) (cSa cMa : Nat) (Sb Mb : List Int) (Lb : Int) (aSb aMb : Option Addr) (cSb cMb : Nat) (w : World) (ht : Pow10 w) (ha : 5 < Sa.length) :
    Calls Tryd.prog 5 #[.agg #[.slice aSa Sa.length cSa, .slice aMa Ma.length cMa, .int .i64 La], .agg #[.slice aSb Sb.length cSb, .slice aMb Mb.length cMb, .int .i64 Lb]] w fun e w' => e = .returned (.bool true) ∧ Below w.heap.size w w' := by
  have HA : Hid (∀ W', Below w.heap.size w W' → Calls Tryd.prog 11 #[] W' fun e w' => e = .returned (.bool true) ∧ Below W'.heap.size W' w') := Lib.hid fun W' h => awake_any W' (ht.later h)
  have ta : decide ((5 : Int) < (Sa.length : Int)) = true := decide_eq_true (by omega)
  have ua : decide (5 < Sa.length) = true := decide_eq_true (by omega)
  have H0 := Lib.hid (((HH.start w).alloc #[.slice aSa Sa.length cSa, .slice aMa Ma.length cMa, .int .i64 La] 24 rfl rfl).alloc #[.slice aSb Sb.length cSb, .slice aMb Mb.length cMb, .int .i64 Lb] 24 (b := w.heap.size + 1) (by simp) rfl)
  clear ha ht
  generalize Sa.length = na at *
  generalize Ma.length = Na at *
  generalize Sb.length = nb at *
  generalize Mb.length = Nb at *
  go_enter Tryd.func5, Tryd.ntmps5
  go_wp2_with fail
  refine (HA.out _ H0.out.below).mono ?_
  rintro e w1 ⟨rfl, hb⟩
  have H1 := Lib.hid (H0.out.call hb)
  clear hb H0 
  have k00 := H1.out.cell (k := 0) (i := 0) rfl rfl
  have k01 := H1.out.cell (k := 0) (i := 1) rfl rfl
  have k02 := H1.out.cell (k := 0) (i := 2) rfl rfl
  have k10 := H1.out.cell (k := 1) (i := 0) rfl rfl
  have k11 := H1.out.cell (k := 1) (i := 1) rfl rfl
  have k12 := H1.out.cell (k := 1) (i := 2) rfl rfl
  go_wp2_with fail
  go_ret
  exact ⟨rfl, H1.out.below⟩
set_option maxRecDepth 100000 in
set_option maxHeartbeats 8000000 in
theorem lcmp_2 (Sa Ma : List Int) (La : Int) (aSa aMa : Option Addr) (cSa cMa : Nat) (Sb Mb : List Int) (Lb : Int) (aSb aMb : Option Addr) (cSb cMb : Nat) (w : World) (ht : Pow10 w) (ha : Sa.length ≤ 5) (hb5 : 5 < Sb.length) :
    Calls Tryd.prog 5 #[.agg #[.slice aSa Sa.length cSa, .slice aMa Ma.length cMa, .int .i64 La], .agg #[.slice aSb Sb.length cSb, .slice aMb Mb.length cMb, .int .i64 Lb]] w fun e w' => e = .returned (.bool true) ∧ Below w.heap.size w w' := by
  have HA : Hid (∀ W', Below w.heap.size w W' → Calls Tryd.prog 11 #[] W' fun e w' => e = .returned (.bool true) ∧ Below W'.heap.size W' w') := Lib.hid fun W' h => awake_any W' (ht.later h)
  have ta : decide ((5 : Int) < (Sa.length : Int)) = false := decide_eq_false (by omega)
  have ua : decide (5 < Sa.length) = false := decide_eq_false (by omega)
  have tb : decide ((5 : Int) < (Sb.length : Int)) = true := decide_eq_true (by omega)
  have ub : decide (5 < Sb.length) = true := decide_eq_true (by omega)
  have H0 := Lib.hid (((HH.start w).alloc #[.slice aSa Sa.length cSa, .slice aMa Ma.length cMa, .int .i64 La] 24 rfl rfl).alloc #[.slice aSb Sb.length cSb, .slice aMb Mb.length cMb, .int .i64 Lb] 24 (b := w.heap.size + 1) (by simp) rfl)
  clear ha hb5 ht
  generalize Sa.length = na at *
  generalize Ma.length = Na at *
  generalize Sb.length = nb at *
  generalize Mb.length = Nb at *
  go_enter Tryd.func5, Tryd.ntmps5
  go_wp2_with fail
  refine (HA.out _ H0.out.below).mono ?_
  rintro e w1 ⟨rfl, hb⟩
  have H1 := Lib.hid (H0.out.call hb)
  clear hb H0 
  have k00 := H1.out.cell (k := 0) (i := 0) rfl rfl
  have k01 := H1.out.cell (k := 0) (i := 1) rfl rfl
  have k02 := H1.out.cell (k := 0) (i := 2) rfl rfl
  have k10 := H1.out.cell (k := 1) (i := 0) rfl rfl
  have k11 := H1.out.cell (k := 1) (i := 1) rfl rfl
  have k12 := H1.out.cell (k := 1) (i := 2) rfl rfl
  go_wp2_with fail
  go_ret
  exact ⟨rfl, H1.out.below⟩
set_option maxRecDepth 100000 in
set_option maxHeartbeats 8000000 in
theorem lcmp_3 (Sa Ma : List Int) (La : Int) (aSa aMa : Option Addr) (cSa cMa : Nat) (Sb Mb : List Int) (Lb : Int) (aSb aMb : Option Addr) (cSb cMb : Nat) (w : World) (ht : Pow10 w) (ha : Sa.length ≤ 5) (hb5 : Sb.length ≤ 5) (hva : vldB Sa Ma La = false) (hSa : IntsAt w aSa Sa) (hMa : IntsAt w aMa Ma) :
    Calls Tryd.prog 5 #[.agg #[.slice aSa Sa.length cSa, .slice aMa Ma.length cMa, .int .i64 La], .agg #[.slice aSb Sb.length cSb, .slice aMb Mb.length cMb, .int .i64 Lb]] w fun e w' => e = .returned (.bool true) ∧ Below w.heap.size w w' := by
  have HA : Hid (∀ W', Below w.heap.size w W' → Calls Tryd.prog 11 #[] W' fun e w' => e = .returned (.bool true) ∧ Below W'.heap.size W' w') := Lib.hid fun W' h => awake_any W' (ht.later h)
  have ta : decide ((5 : Int) < (Sa.length : Int)) = false := decide_eq_false (by omega)
  have ua : decide (5 < Sa.length) = false := decide_eq_false (by omega)
  have tb : decide ((5 : Int) < (Sb.length : Int)) = false := decide_eq_false (by omega)
  have ub : decide (5 < Sb.length) = false := decide_eq_false (by omega)
  have HVa : Hid (∀ W', Below w.heap.size w W' → Calls Tryd.prog 18 #[.agg #[.slice aSa Sa.length cSa, .slice aMa Ma.length cMa, .int .i64 La]] W' fun e w' => e = .returned (.bool false) ∧ Below W'.heap.size W' w') := Lib.hid fun W' h => by
    have g := valid_all Sa Ma La aSa aMa cSa cMa W' (by omega) (hSa.later h) (hMa.later h)
    rw [hva] at g; exact g
  have H0 := Lib.hid (((HH.start w).alloc #[.slice aSa Sa.length cSa, .slice aMa Ma.length cMa, .int .i64 La] 24 rfl rfl).alloc #[.slice aSb Sb.length cSb, .slice aMb Mb.length cMb, .int .i64 Lb] 24 (b := w.heap.size + 1) (by simp) rfl)
  clear ha hb5 ht hva hSa hMa
  generalize Sa.length = na at *
  generalize Ma.length = Na at *
  generalize Sb.length = nb at *
  generalize Mb.length = Nb at *
  go_enter Tryd.func5, Tryd.ntmps5
  go_wp2_with fail
  refine (HA.out _ H0.out.below).mono ?_
  rintro e w1 ⟨rfl, hb⟩
  have H1 := Lib.hid (H0.out.call hb)
  clear hb H0 
  have k00 := H1.out.cell (k := 0) (i := 0) rfl rfl
  have k01 := H1.out.cell (k := 0) (i := 1) rfl rfl
  have k02 := H1.out.cell (k := 0) (i := 2) rfl rfl
  have k10 := H1.out.cell (k := 1) (i := 0) rfl rfl
  have k11 := H1.out.cell (k := 1) (i := 1) rfl rfl
  have k12 := H1.out.cell (k := 1) (i := 2) rfl rfl
  go_wp2_with fail
  clear k00 k01 k02 k10 k11 k12
  refine (HVa.out _ H1.out.below).mono ?_
  rintro e w2 ⟨rfl, hb⟩
  have H2 := Lib.hid (H1.out.call hb)
  clear hb H1 
  have k00 := H2.out.cell (k := 0) (i := 0) rfl rfl
  have k01 := H2.out.cell (k := 0) (i := 1) rfl rfl
  have k02 := H2.out.cell (k := 0) (i := 2) rfl rfl
  have k10 := H2.out.cell (k := 1) (i := 0) rfl rfl
  have k11 := H2.out.cell (k := 1) (i := 1) rfl rfl
  have k12 := H2.out.cell (k := 1) (i := 2) rfl rfl
  go_wp2_with fail
  go_ret
  exact ⟨rfl, H2.out.below⟩
set_option maxRecDepth 100000 in
set_option maxHeartbeats 8000000 in
theorem lcmp_4 (Sa Ma : List Int) (La : Int) (aSa aMa : Option Addr) (cSa cMa : Nat) (Sb Mb : List Int) (Lb : Int) (aSb aMb : Option Addr) (cSb cMb : Nat) (w : World) (ht : Pow10 w) (ha : Sa.length ≤ 5) (hb5 : Sb.length ≤ 5) (hva : vldB Sa Ma La = true) (hvb : vldB Sb Mb Lb = false) (hSa : IntsAt w aSa Sa) (hMa : IntsAt w aMa Ma) (hSb : IntsAt w aSb Sb) (hMb : IntsAt w aMb Mb) :
    Calls Tryd.prog 5 #[.agg #[.slice aSa Sa.length cSa, .slice aMa Ma.length cMa, .int .i64 La], .agg #[.slice aSb Sb.length cSb, .slice aMb Mb.length cMb, .int .i64 Lb]] w fun e w' => e = .returned (.bool true) ∧ Below w.heap.size w w' := by
  have HA : Hid (∀ W', Below w.heap.size w W' → Calls Tryd.prog 11 #[] W' fun e w' => e = .returned (.bool true) ∧ Below W'.heap.size W' w') := Lib.hid fun W' h => awake_any W' (ht.later h)
  have ta : decide ((5 : Int) < (Sa.length : Int)) = false := decide_eq_false (by omega)
  have ua : decide (5 < Sa.length) = false := decide_eq_false (by omega)
  have tb : decide ((5 : Int) < (Sb.length : Int)) = false := decide_eq_false (by omega)
  have ub : decide (5 < Sb.length) = false := decide_eq_false (by omega)
  have HVa : Hid (∀ W', Below w.heap.size w W' → Calls Tryd.prog 18 #[.agg #[.slice aSa Sa.length cSa, .slice aMa Ma.length cMa, .int .i64 La]] W' fun e w' => e = .returned (.bool true) ∧ Below W'.heap.size W' w') := Lib.hid fun W' h => by
    have g := valid_all Sa Ma La aSa aMa cSa cMa W' (by omega) (hSa.later h) (hMa.later h)
    rw [hva] at g; exact g
  have HVb : Hid (∀ W', Below w.heap.size w W' → Calls Tryd.prog 18 #[.agg #[.slice aSb Sb.length cSb, .slice aMb Mb.length cMb, .int .i64 Lb]] W' fun e w' => e = .returned (.bool false) ∧ Below W'.heap.size W' w') := Lib.hid fun W' h => by
    have g := valid_all Sb Mb Lb aSb aMb cSb cMb W' (by omega) (hSb.later h) (hMb.later h)
    rw [hvb] at g; exact g
  have H0 := Lib.hid (((HH.start w).alloc #[.slice aSa Sa.length cSa, .slice aMa Ma.length cMa, .int .i64 La] 24 rfl rfl).alloc #[.slice aSb Sb.length cSb, .slice aMb Mb.length cMb, .int .i64 Lb] 24 (b := w.heap.size + 1) (by simp) rfl)
  clear ha hb5 ht hva hvb hSa hMa hSb hMb
  generalize Sa.length = na at *
  generalize Ma.length = Na at *
  generalize Sb.length = nb at *
  generalize Mb.length = Nb at *
  go_enter Tryd.func5, Tryd.ntmps5
  go_wp2_with fail
  refine (HA.out _ H0.out.below).mono ?_
  rintro e w1 ⟨rfl, hb⟩
  have H1 := Lib.hid (H0.out.call hb)
  clear hb H0 
  have k00 := H1.out.cell (k := 0) (i := 0) rfl rfl
  have k01 := H1.out.cell (k := 0) (i := 1) rfl rfl
  have k02 := H1.out.cell (k := 0) (i := 2) rfl rfl
  have k10 := H1.out.cell (k := 1) (i := 0) rfl rfl
  have k11 := H1.out.cell (k := 1) (i := 1) rfl rfl
  have k12 := H1.out.cell (k := 1) (i := 2) rfl rfl
  go_wp2_with fail
  clear k00 k01 k02 k10 k11 k12
  refine (HVa.out _ H1.out.below).mono ?_
  rintro e w2 ⟨rfl, hb⟩
  have H2 := Lib.hid (H1.out.call hb)
  clear hb H1 
  have k00 := H2.out.cell (k := 0) (i := 0) rfl rfl
  have k01 := H2.out.cell (k := 0) (i := 1) rfl rfl
  have k02 := H2.out.cell (k := 0) (i := 2) rfl rfl
  have k10 := H2.out.cell (k := 1) (i := 0) rfl rfl
  have k11 := H2.out.cell (k := 1) (i := 1) rfl rfl
  have k12 := H2.out.cell (k := 1) (i := 2) rfl rfl
  go_wp2_with fail
  clear k00 k01 k02 k10 k11 k12
  refine (HVb.out _ H2.out.below).mono ?_
  rintro e w3 ⟨rfl, hb⟩
  have H3 := Lib.hid (H2.out.call hb)
  clear hb H2 
  have k00 := H3.out.cell (k := 0) (i := 0) rfl rfl
  have k01 := H3.out.cell (k := 0) (i := 1) rfl rfl
  have k02 := H3.out.cell (k := 0) (i := 2) rfl rfl
  have k10 := H3.out.cell (k := 1) (i := 0) rfl rfl
  have k11 := H3.out.cell (k := 1) (i := 1) rfl rfl
  have k12 := H3.out.cell (k := 1) (i := 2) rfl rfl
  go_wp2_with fail
  go_ret
  exact ⟨rfl, H3.out.below⟩
set_option maxRecDepth 100000 in
set_option maxHeartbeats 8000000 in
theorem lcmp_5 (Sa Ma : List Int) (La : Int) (aSa aMa : Option Addr) (cSa cMa : Nat) (Sb Mb : List Int) (Lb : Int) (aSb aMb : Option Addr) (cSb cMb : Nat) (w : World) (ht : Pow10 w) (ha : Sa.length ≤ 5) (hb5 : Sb.length ≤ 5) (hva : vldB Sa Ma La = true) (hvb : vldB Sb Mb Lb = true) (hC : codeOf Sa Ma La = codeOf Sb Mb Lb) (hSa : IntsAt w aSa Sa) (hMa : IntsAt w aMa Ma) (hSb : IntsAt w aSb Sb) (hMb : IntsAt w aMb Mb) :
    Calls Tryd.prog 5 #[.agg #[.slice aSa Sa.length cSa, .slice aMa Ma.length cMa, .int .i64 La], .agg #[.slice aSb Sb.length cSb, .slice aMb Mb.length cMb, .int .i64 Lb]] w fun e w' => e = .returned (.bool true) ∧ Below w.heap.size w w' := by
  have HA : Hid (∀ W', Below w.heap.size w W' → Calls Tryd.prog 11 #[] W' fun e w' => e = .returned (.bool true) ∧ Below W'.heap.size W' w') := Lib.hid fun W' h => awake_any W' (ht.later h)
  have ta : decide ((5 : Int) < (Sa.length : Int)) = false := decide_eq_false (by omega)
  have ua : decide (5 < Sa.length) = false := decide_eq_false (by omega)
  have tb : decide ((5 : Int) < (Sb.length : Int)) = false := decide_eq_false (by omega)
  have ub : decide (5 < Sb.length) = false := decide_eq_false (by omega)
  have HVa : Hid (∀ W', Below w.heap.size w W' → Calls Tryd.prog 18 #[.agg #[.slice aSa Sa.length cSa, .slice aMa Ma.length cMa, .int .i64 La]] W' fun e w' => e = .returned (.bool true) ∧ Below W'.heap.size W' w') := Lib.hid fun W' h => by
    have g := valid_all Sa Ma La aSa aMa cSa cMa W' (by omega) (hSa.later h) (hMa.later h)
    rw [hva] at g; exact g
  have HVb : Hid (∀ W', Below w.heap.size w W' → Calls Tryd.prog 18 #[.agg #[.slice aSb Sb.length cSb, .slice aMb Mb.length cMb, .int .i64 Lb]] W' fun e w' => e = .returned (.bool true) ∧ Below W'.heap.size W' w') := Lib.hid fun W' h => by
    have g := valid_all Sb Mb Lb aSb aMb cSb cMb W' (by omega) (hSb.later h) (hMb.later h)
    rw [hvb] at g; exact g
  have hla := (vldB_shape hva).len
  have hlb := (vldB_shape hvb).len
  have HO : Hid (∀ (q : Nat) (W' : World), HH w W' [(w.heap.size, rowO 24 [.slice aSa Sa.length cSa, .slice aMa Ma.length cMa, .int .i64 La]), (w.heap.size + 1, rowO 24 [.slice aSb Sb.length cSb, .slice aMb Mb.length cMb, .int .i64 Lb]), (q, rowO 4 [.bool false])] [] → Calls Tryd.prog 19 #[.int .i64 (Sa.length : Int), .slice none 0 0, .func (.func 23) #[] #[.pointer (some ⟨w.heap.size, 0, none⟩), .pointer (some ⟨w.heap.size + 1, 0, none⟩), .pointer (some ⟨q, 0, none⟩)]] W' fun e w' => ∃ b, e = .returned (.bool b) ∧ Hid (HH w w' [(w.heap.size, rowO 24 [.slice aSa Sa.length cSa, .slice aMa Ma.length cMa, .int .i64 La]), (w.heap.size + 1, rowO 24 [.slice aSb Sb.length cSb, .slice aMb Mb.length cMb, .int .i64 Lb]), (q, rowO 4 [.bool true])] [])) := Lib.hid fun q W' h => by
    have hV := visC_any Sa Ma La aSa aMa cSa cMa Sb Mb Lb aSb aMb cSb cMb w.heap.size (w.heap.size + 1) q w hva hSa hMa hSb hMb
    have g := ordsC_any w Sa.length _ w.heap.size (w.heap.size + 1) q _ ha (fun s => ⟨rowO 4 [.bool s], List.mem_cons_of_mem _ (List.mem_cons_of_mem _ List.mem_cons_self)⟩) hV Sa.length false [] none 0 W' h List.nodup_nil (fun x hx => by simp at hx) (by simp) (IntsAt.nil _ _) (fun x hx => by cases hx)
    rw [runX_ext, runL_any, found_is hva hvb, decide_eq_true hC] at g
    exact g.mono fun e w' ⟨e1, e2, _⟩ => ⟨_, e1, Lib.hid e2⟩
  have HSm : Hid (∀ W', Below w.heap.size w W' → Calls Tryd.prog 14 #[.agg #[.slice aSa Sa.length cSa, .slice aMa Ma.length cMa, .int .i64 La], .agg #[.slice aSb Sb.length cSb, .slice aMb Mb.length cMb, .int .i64 Lb]] W' fun e w' => e = .returned (.bool true) ∧ Below W'.heap.size W' w') := Lib.hid fun W' h => by
    have g := csame_any Sa Ma La aSa aMa cSa cMa Sb Mb Lb aSb aMb cSb cMb W' (by omega) (by omega) (by omega) (by omega) (by omega) (by omega) (hSa.later h) (hMa.later h) (hSb.later h) (hMb.later h)
    have e : cSame Sa Ma La Sb Mb Lb = true := by unfold cSame; rw [hva, hvb, decide_eq_true hC]; rfl
    rw [e] at g; exact g
  have HK1 : Hid (∀ W', Below w.heap.size w W' → Calls Tryd.prog 24 #[.agg #[.slice aSa Sa.length cSa, .slice aMa Ma.length cMa, .int .i64 La]] W' fun e w' => e = .returned (.string ⟨(keyOf (codeOf Sa Ma La)).toArray⟩) ∧ Below W'.heap.size W' w') := Lib.hid fun W' h => by
    have g := key_any Sa Ma La aSa aMa cSa cMa W' (by omega) (by omega) (ht.later h) (hSa.later h) (hMa.later h)
    rw [cdV_yes hva] at g; exact g
  have HK2 : Hid (∀ W', Below w.heap.size w W' → Calls Tryd.prog 24 #[.agg #[.slice aSb Sb.length cSb, .slice aMb Mb.length cMb, .int .i64 Lb]] W' fun e w' => e = .returned (.string ⟨(keyOf (codeOf Sb Mb Lb)).toArray⟩) ∧ Below W'.heap.size W' w') := Lib.hid fun W' h => by
    have g := key_any Sb Mb Lb aSb aMb cSb cMb W' (by omega) (by omega) (ht.later h) (hSb.later h) (hMb.later h)
    rw [cdV_yes hvb] at g; exact g
  rw [← hC] at HK2
  generalize (keyOf (codeOf Sa Ma La)).toArray = K1 at *
  have eK : ((⟨K1⟩ : ByteArray).toList == (⟨K1⟩ : ByteArray).toList) = true := beq_self_eq_true _
  have H0 := Lib.hid (((HH.start w).alloc #[.slice aSa Sa.length cSa, .slice aMa Ma.length cMa, .int .i64 La] 24 rfl rfl).alloc #[.slice aSb Sb.length cSb, .slice aMb Mb.length cMb, .int .i64 Lb] 24 (b := w.heap.size + 1) (by simp) rfl)
  clear ht hva hvb hC hla hlb hSa hMa hSb hMb
  generalize Sa.length = na at *
  generalize Ma.length = Na at *
  generalize Sb.length = nb at *
  generalize Mb.length = Nb at *
  go_enter Tryd.func5, Tryd.ntmps5
  go_wp2_with fail
  refine (HA.out _ H0.out.below).mono ?_
  rintro e w1 ⟨rfl, hb⟩
  have H1 := Lib.hid (H0.out.call hb)
  clear hb H0 
  have k00 := H1.out.cell (k := 0) (i := 0) rfl rfl
  have k01 := H1.out.cell (k := 0) (i := 1) rfl rfl
  have k02 := H1.out.cell (k := 0) (i := 2) rfl rfl
  have k10 := H1.out.cell (k := 1) (i := 0) rfl rfl
  have k11 := H1.out.cell (k := 1) (i := 1) rfl rfl
  have k12 := H1.out.cell (k := 1) (i := 2) rfl rfl
  go_wp2_with fail
  clear k00 k01 k02 k10 k11 k12
  refine (HVa.out _ H1.out.below).mono ?_
  rintro e w2 ⟨rfl, hb⟩
  have H2 := Lib.hid (H1.out.call hb)
  clear hb H1 
  have k00 := H2.out.cell (k := 0) (i := 0) rfl rfl
  have k01 := H2.out.cell (k := 0) (i := 1) rfl rfl
  have k02 := H2.out.cell (k := 0) (i := 2) rfl rfl
  have k10 := H2.out.cell (k := 1) (i := 0) rfl rfl
  have k11 := H2.out.cell (k := 1) (i := 1) rfl rfl
  have k12 := H2.out.cell (k := 1) (i := 2) rfl rfl
  go_wp2_with fail
  clear k00 k01 k02 k10 k11 k12
  refine (HVb.out _ H2.out.below).mono ?_
  rintro e w3 ⟨rfl, hb⟩
  have H3 := Lib.hid (H2.out.call hb)
  clear hb H2 
  have k00 := H3.out.cell (k := 0) (i := 0) rfl rfl
  have k01 := H3.out.cell (k := 0) (i := 1) rfl rfl
  have k02 := H3.out.cell (k := 0) (i := 2) rfl rfl
  have k10 := H3.out.cell (k := 1) (i := 0) rfl rfl
  have k11 := H3.out.cell (k := 1) (i := 1) rfl rfl
  have k12 := H3.out.cell (k := 1) (i := 2) rfl rfl
  have H4 := Lib.hid (H3.out.alloc #[.bool false] 4 (b := w3.heap.size) rfl rfl)
  go_upto_region 6 with fail
  clear k00 k01 k02 k10 k11 k12
  clear H3
  generalize w3.alloc (.cells #[.bool false] 4) = v3 at *
  generalize w3.heap.size = q at *
  have j0 := H4.out.cell (k := 0) (i := 0) rfl rfl
  go_wp2_with fail
  clear j0
  refine (HO.out q v3 H4.out).mono ?_
  rintro e w5 ⟨b5, rfl, H5⟩
  clear H4 HO
  go_upto_region 7 with fail
  have HQ : Hid (∀ W', Below w5.heap.size w5 W' → W'.cell? ⟨w.heap.size, 0, none⟩ = some (.slice aSa na cSa) ∧ W'.cell? ⟨w.heap.size, 1, none⟩ = some (.slice aMa Na cMa) ∧ W'.cell? ⟨w.heap.size, 2, none⟩ = some (.int .i64 La) ∧ W'.cell? ⟨w.heap.size + 1, 0, none⟩ = some (.slice aSb nb cSb) ∧ W'.cell? ⟨w.heap.size + 1, 1, none⟩ = some (.slice aMb Nb cMb) ∧ W'.cell? ⟨w.heap.size + 1, 2, none⟩ = some (.int .i64 Lb) ∧ W'.cell? ⟨q, 0, none⟩ = some (.bool true)) := Lib.hid fun W' h => by
    have h1 := H5.out.call h
    exact ⟨(h1.cell (k := 0) (i := 0) rfl rfl), (h1.cell (k := 0) (i := 1) rfl rfl), (h1.cell (k := 0) (i := 2) rfl rfl), (h1.cell (k := 1) (i := 0) rfl rfl), (h1.cell (k := 1) (i := 1) rfl rfl), (h1.cell (k := 1) (i := 2) rfl rfl), (h1.cell (k := 2) (i := 0) rfl rfl)⟩
  have HD : Hid (∀ W', Below w5.heap.size w5 W' → Below w.heap.size w W') := Lib.hid fun W' h => below_of H5.out.below h H5.out.below.size
  have B0 : Hid (Below w5.heap.size w5 w5.drew) := Lib.hid (Below.refl _ _).drew
  have Q0 := Lib.hid (HQ.out _ B0.out)
  go_region_held3 (fun W' => W'.cell? ⟨w.heap.size, 0, none⟩ = some (.slice aSa na cSa) ∧ W'.cell? ⟨w.heap.size, 1, none⟩ = some (.slice aMa Na cMa) ∧ W'.cell? ⟨w.heap.size, 2, none⟩ = some (.int .i64 La) ∧ W'.cell? ⟨w.heap.size + 1, 0, none⟩ = some (.slice aSb nb cSb) ∧ W'.cell? ⟨w.heap.size + 1, 1, none⟩ = some (.slice aMb Nb cMb) ∧ W'.cell? ⟨w.heap.size + 1, 2, none⟩ = some (.int .i64 Lb) ∧ W'.cell? ⟨q, 0, none⟩ = some (.bool true))
    (first
      | with_reducible exact Q0.out
      | with_reducible exact Q1.out
      | with_reducible exact Q2.out
      | with_reducible exact Q3.out)
    (first
      | ((with_reducible refine (HSm.out _ (HD.out _ B0.out)).mono ?_); rintro e z1 ⟨rfl, hb⟩; have B1 := Lib.hid (B0.out.trans (hb.mono B0.out.size)); have Q1 := Lib.hid (HQ.out _ B1.out); clear hb)
      | ((with_reducible refine (HK1.out _ (HD.out _ B1.out)).mono ?_); rintro e z2 ⟨rfl, hb⟩; have B2 := Lib.hid (B1.out.trans (hb.mono B1.out.size)); have Q2 := Lib.hid (HQ.out _ B2.out); clear hb)
      | ((with_reducible refine (HK2.out _ (HD.out _ B2.out)).mono ?_); rintro e z3 ⟨rfl, hb⟩; have B3 := Lib.hid (B2.out.trans (hb.mono B2.out.size)); have Q3 := Lib.hid (HQ.out _ B3.out); clear hb))
  go_wp2_with fail
  go_ret
  exact ⟨rfl, HD.out _ B3.out⟩
set_option maxRecDepth 100000 in
set_option maxHeartbeats 8000000 in
theorem lcmp_6 (Sa Ma : List Int) (La : Int) (aSa aMa : Option Addr) (cSa cMa : Nat) (Sb Mb : List Int) (Lb : Int) (aSb aMb : Option Addr) (cSb cMb : Nat) (w : World) (ht : Pow10 w) (ha : Sa.length ≤ 5) (hb5 : Sb.length ≤ 5) (hva : vldB Sa Ma La = true) (hvb : vldB Sb Mb Lb = true) (hC : codeOf Sa Ma La ≠ codeOf Sb Mb Lb) (hSa : IntsAt w aSa Sa) (hMa : IntsAt w aMa Ma) (hSb : IntsAt w aSb Sb) (hMb : IntsAt w aMb Mb) :
    Calls Tryd.prog 5 #[.agg #[.slice aSa Sa.length cSa, .slice aMa Ma.length cMa, .int .i64 La], .agg #[.slice aSb Sb.length cSb, .slice aMb Mb.length cMb, .int .i64 Lb]] w fun e w' => e = .returned (.bool true) ∧ Below w.heap.size w w' := by
  have HA : Hid (∀ W', Below w.heap.size w W' → Calls Tryd.prog 11 #[] W' fun e w' => e = .returned (.bool true) ∧ Below W'.heap.size W' w') := Lib.hid fun W' h => awake_any W' (ht.later h)
  have ta : decide ((5 : Int) < (Sa.length : Int)) = false := decide_eq_false (by omega)
  have ua : decide (5 < Sa.length) = false := decide_eq_false (by omega)
  have tb : decide ((5 : Int) < (Sb.length : Int)) = false := decide_eq_false (by omega)
  have ub : decide (5 < Sb.length) = false := decide_eq_false (by omega)
  have HVa : Hid (∀ W', Below w.heap.size w W' → Calls Tryd.prog 18 #[.agg #[.slice aSa Sa.length cSa, .slice aMa Ma.length cMa, .int .i64 La]] W' fun e w' => e = .returned (.bool true) ∧ Below W'.heap.size W' w') := Lib.hid fun W' h => by
    have g := valid_all Sa Ma La aSa aMa cSa cMa W' (by omega) (hSa.later h) (hMa.later h)
    rw [hva] at g; exact g
  have HVb : Hid (∀ W', Below w.heap.size w W' → Calls Tryd.prog 18 #[.agg #[.slice aSb Sb.length cSb, .slice aMb Mb.length cMb, .int .i64 Lb]] W' fun e w' => e = .returned (.bool true) ∧ Below W'.heap.size W' w') := Lib.hid fun W' h => by
    have g := valid_all Sb Mb Lb aSb aMb cSb cMb W' (by omega) (hSb.later h) (hMb.later h)
    rw [hvb] at g; exact g
  have hla := (vldB_shape hva).len
  have hlb := (vldB_shape hvb).len
  have HO : Hid (∀ (q : Nat) (W' : World), HH w W' [(w.heap.size, rowO 24 [.slice aSa Sa.length cSa, .slice aMa Ma.length cMa, .int .i64 La]), (w.heap.size + 1, rowO 24 [.slice aSb Sb.length cSb, .slice aMb Mb.length cMb, .int .i64 Lb]), (q, rowO 4 [.bool false])] [] → Calls Tryd.prog 19 #[.int .i64 (Sa.length : Int), .slice none 0 0, .func (.func 23) #[] #[.pointer (some ⟨w.heap.size, 0, none⟩), .pointer (some ⟨w.heap.size + 1, 0, none⟩), .pointer (some ⟨q, 0, none⟩)]] W' fun e w' => ∃ b, e = .returned (.bool b) ∧ Hid (HH w w' [(w.heap.size, rowO 24 [.slice aSa Sa.length cSa, .slice aMa Ma.length cMa, .int .i64 La]), (w.heap.size + 1, rowO 24 [.slice aSb Sb.length cSb, .slice aMb Mb.length cMb, .int .i64 Lb]), (q, rowO 4 [.bool false])] [])) := Lib.hid fun q W' h => by
    have hV := visC_any Sa Ma La aSa aMa cSa cMa Sb Mb Lb aSb aMb cSb cMb w.heap.size (w.heap.size + 1) q w hva hSa hMa hSb hMb
    have g := ordsC_any w Sa.length _ w.heap.size (w.heap.size + 1) q _ ha (fun s => ⟨rowO 4 [.bool s], List.mem_cons_of_mem _ (List.mem_cons_of_mem _ List.mem_cons_self)⟩) hV Sa.length false [] none 0 W' h List.nodup_nil (fun x hx => by simp at hx) (by simp) (IntsAt.nil _ _) (fun x hx => by cases hx)
    rw [runX_ext, runL_any, found_is hva hvb, decide_eq_false hC] at g
    exact g.mono fun e w' ⟨e1, e2, _⟩ => ⟨_, e1, Lib.hid e2⟩
  have HSm : Hid (∀ W', Below w.heap.size w W' → Calls Tryd.prog 14 #[.agg #[.slice aSa Sa.length cSa, .slice aMa Ma.length cMa, .int .i64 La], .agg #[.slice aSb Sb.length cSb, .slice aMb Mb.length cMb, .int .i64 Lb]] W' fun e w' => e = .returned (.bool false) ∧ Below W'.heap.size W' w') := Lib.hid fun W' h => by
    have g := csame_any Sa Ma La aSa aMa cSa cMa Sb Mb Lb aSb aMb cSb cMb W' (by omega) (by omega) (by omega) (by omega) (by omega) (by omega) (hSa.later h) (hMa.later h) (hSb.later h) (hMb.later h)
    have e : cSame Sa Ma La Sb Mb Lb = false := by unfold cSame; rw [hva, hvb, decide_eq_false hC]; rfl
    rw [e] at g; exact g
  have HK1 : Hid (∀ W', Below w.heap.size w W' → Calls Tryd.prog 24 #[.agg #[.slice aSa Sa.length cSa, .slice aMa Ma.length cMa, .int .i64 La]] W' fun e w' => e = .returned (.string ⟨(keyOf (codeOf Sa Ma La)).toArray⟩) ∧ Below W'.heap.size W' w') := Lib.hid fun W' h => by
    have g := key_any Sa Ma La aSa aMa cSa cMa W' (by omega) (by omega) (ht.later h) (hSa.later h) (hMa.later h)
    rw [cdV_yes hva] at g; exact g
  have HK2 : Hid (∀ W', Below w.heap.size w W' → Calls Tryd.prog 24 #[.agg #[.slice aSb Sb.length cSb, .slice aMb Mb.length cMb, .int .i64 Lb]] W' fun e w' => e = .returned (.string ⟨(keyOf (codeOf Sb Mb Lb)).toArray⟩) ∧ Below W'.heap.size W' w') := Lib.hid fun W' h => by
    have g := key_any Sb Mb Lb aSb aMb cSb cMb W' (by omega) (by omega) (ht.later h) (hSb.later h) (hMb.later h)
    rw [cdV_yes hvb] at g; exact g
  have hkn : (keyOf (codeOf Sa Ma La)).toArray ≠ (keyOf (codeOf Sb Mb Lb)).toArray := fun h => hC (keyOf_inj (codeOf_sml hva (by omega)) (codeOf_sml hvb (by omega)) (codeOf_ne _ _ _) (codeOf_ne _ _ _) (List.toArray_inj h))
  generalize (keyOf (codeOf Sa Ma La)).toArray = K1 at *
  generalize (keyOf (codeOf Sb Mb Lb)).toArray = K2 at *
  have eK : ((⟨K1⟩ : ByteArray).toList == (⟨K2⟩ : ByteArray).toList) = false := by
    rw [beq_eq_false_iff_ne, ByteArray.toList_eq, ByteArray.toList_eq]; exact fun h => hkn (Array.toList_inj.1 h)
  clear hkn
  have H0 := Lib.hid (((HH.start w).alloc #[.slice aSa Sa.length cSa, .slice aMa Ma.length cMa, .int .i64 La] 24 rfl rfl).alloc #[.slice aSb Sb.length cSb, .slice aMb Mb.length cMb, .int .i64 Lb] 24 (b := w.heap.size + 1) (by simp) rfl)
  clear ht hva hvb hC hla hlb hSa hMa hSb hMb
  generalize Sa.length = na at *
  generalize Ma.length = Na at *
  generalize Sb.length = nb at *
  generalize Mb.length = Nb at *
  go_enter Tryd.func5, Tryd.ntmps5
  go_wp2_with fail
  refine (HA.out _ H0.out.below).mono ?_
  rintro e w1 ⟨rfl, hb⟩
  have H1 := Lib.hid (H0.out.call hb)
  clear hb H0 
  have k00 := H1.out.cell (k := 0) (i := 0) rfl rfl
  have k01 := H1.out.cell (k := 0) (i := 1) rfl rfl
  have k02 := H1.out.cell (k := 0) (i := 2) rfl rfl
  have k10 := H1.out.cell (k := 1) (i := 0) rfl rfl
  have k11 := H1.out.cell (k := 1) (i := 1) rfl rfl
  have k12 := H1.out.cell (k := 1) (i := 2) rfl rfl
  go_wp2_with fail
  clear k00 k01 k02 k10 k11 k12
  refine (HVa.out _ H1.out.below).mono ?_
  rintro e w2 ⟨rfl, hb⟩
  have H2 := Lib.hid (H1.out.call hb)
  clear hb H1 
  have k00 := H2.out.cell (k := 0) (i := 0) rfl rfl
  have k01 := H2.out.cell (k := 0) (i := 1) rfl rfl
  have k02 := H2.out.cell (k := 0) (i := 2) rfl rfl
  have k10 := H2.out.cell (k := 1) (i := 0) rfl rfl
  have k11 := H2.out.cell (k := 1) (i := 1) rfl rfl
  have k12 := H2.out.cell (k := 1) (i := 2) rfl rfl
  go_wp2_with fail
  clear k00 k01 k02 k10 k11 k12
  refine (HVb.out _ H2.out.below).mono ?_
  rintro e w3 ⟨rfl, hb⟩
  have H3 := Lib.hid (H2.out.call hb)
  clear hb H2 
  have k00 := H3.out.cell (k := 0) (i := 0) rfl rfl
  have k01 := H3.out.cell (k := 0) (i := 1) rfl rfl
  have k02 := H3.out.cell (k := 0) (i := 2) rfl rfl
  have k10 := H3.out.cell (k := 1) (i := 0) rfl rfl
  have k11 := H3.out.cell (k := 1) (i := 1) rfl rfl
  have k12 := H3.out.cell (k := 1) (i := 2) rfl rfl
  have H4 := Lib.hid (H3.out.alloc #[.bool false] 4 (b := w3.heap.size) rfl rfl)
  go_upto_region 6 with fail
  clear k00 k01 k02 k10 k11 k12
  clear H3
  generalize w3.alloc (.cells #[.bool false] 4) = v3 at *
  generalize w3.heap.size = q at *
  have j0 := H4.out.cell (k := 0) (i := 0) rfl rfl
  go_wp2_with fail
  clear j0
  refine (HO.out q v3 H4.out).mono ?_
  rintro e w5 ⟨b5, rfl, H5⟩
  clear H4 HO
  go_upto_region 7 with fail
  have HQ : Hid (∀ W', Below w5.heap.size w5 W' → W'.cell? ⟨w.heap.size, 0, none⟩ = some (.slice aSa na cSa) ∧ W'.cell? ⟨w.heap.size, 1, none⟩ = some (.slice aMa Na cMa) ∧ W'.cell? ⟨w.heap.size, 2, none⟩ = some (.int .i64 La) ∧ W'.cell? ⟨w.heap.size + 1, 0, none⟩ = some (.slice aSb nb cSb) ∧ W'.cell? ⟨w.heap.size + 1, 1, none⟩ = some (.slice aMb Nb cMb) ∧ W'.cell? ⟨w.heap.size + 1, 2, none⟩ = some (.int .i64 Lb) ∧ W'.cell? ⟨q, 0, none⟩ = some (.bool false)) := Lib.hid fun W' h => by
    have h1 := H5.out.call h
    exact ⟨(h1.cell (k := 0) (i := 0) rfl rfl), (h1.cell (k := 0) (i := 1) rfl rfl), (h1.cell (k := 0) (i := 2) rfl rfl), (h1.cell (k := 1) (i := 0) rfl rfl), (h1.cell (k := 1) (i := 1) rfl rfl), (h1.cell (k := 1) (i := 2) rfl rfl), (h1.cell (k := 2) (i := 0) rfl rfl)⟩
  have HD : Hid (∀ W', Below w5.heap.size w5 W' → Below w.heap.size w W') := Lib.hid fun W' h => below_of H5.out.below h H5.out.below.size
  have B0 : Hid (Below w5.heap.size w5 w5.drew) := Lib.hid (Below.refl _ _).drew
  have Q0 := Lib.hid (HQ.out _ B0.out)
  go_region_held3 (fun W' => W'.cell? ⟨w.heap.size, 0, none⟩ = some (.slice aSa na cSa) ∧ W'.cell? ⟨w.heap.size, 1, none⟩ = some (.slice aMa Na cMa) ∧ W'.cell? ⟨w.heap.size, 2, none⟩ = some (.int .i64 La) ∧ W'.cell? ⟨w.heap.size + 1, 0, none⟩ = some (.slice aSb nb cSb) ∧ W'.cell? ⟨w.heap.size + 1, 1, none⟩ = some (.slice aMb Nb cMb) ∧ W'.cell? ⟨w.heap.size + 1, 2, none⟩ = some (.int .i64 Lb) ∧ W'.cell? ⟨q, 0, none⟩ = some (.bool false))
    (first
      | with_reducible exact Q0.out
      | with_reducible exact Q1.out
      | with_reducible exact Q2.out
      | with_reducible exact Q3.out)
    (first
      | ((with_reducible refine (HSm.out _ (HD.out _ B0.out)).mono ?_); rintro e z1 ⟨rfl, hb⟩; have B1 := Lib.hid (B0.out.trans (hb.mono B0.out.size)); have Q1 := Lib.hid (HQ.out _ B1.out); clear hb)
      | ((with_reducible refine (HK1.out _ (HD.out _ B1.out)).mono ?_); rintro e z2 ⟨rfl, hb⟩; have B2 := Lib.hid (B1.out.trans (hb.mono B1.out.size)); have Q2 := Lib.hid (HQ.out _ B2.out); clear hb)
      | ((with_reducible refine (HK2.out _ (HD.out _ B2.out)).mono ?_); rintro e z3 ⟨rfl, hb⟩; have B3 := Lib.hid (B2.out.trans (hb.mono B2.out.size)); have Q3 := Lib.hid (HQ.out _ B3.out); clear hb))
  go_wp2_with fail
  go_ret
  exact ⟨rfl, HD.out _ B3.out⟩
theorem lcmp_any (Sa Ma : List Int) (La : Int) (aSa aMa : Option Addr) (cSa cMa : Nat) (Sb Mb : List Int) (Lb : Int) (aSb aMb : Option Addr) (cSb cMb : Nat) (w : World) (ht : Pow10 w) (_ : Sa.length ≤ maxLen) (_ : Ma.length ≤ maxLen) (_ : (Lit.int .i64 La).wf = true) (hSa : IntsAt w aSa Sa) (hMa : IntsAt w aMa Ma) (_ : Sb.length ≤ maxLen) (_ : Mb.length ≤ maxLen) (_ : (Lit.int .i64 Lb).wf = true) (hSb : IntsAt w aSb Sb) (hMb : IntsAt w aMb Mb) :
    Calls Tryd.prog 5 #[.agg #[.slice aSa Sa.length cSa, .slice aMa Ma.length cMa, .int .i64 La], .agg #[.slice aSb Sb.length cSb, .slice aMb Mb.length cMb, .int .i64 Lb]] w fun e w' => e = .returned (.bool true) ∧ Below w.heap.size w w' := by
  by_cases ha : Sa.length ≤ 5
  · by_cases hb5 : Sb.length ≤ 5
    · cases hva : vldB Sa Ma La
      · exact lcmp_3 Sa Ma La aSa aMa cSa cMa Sb Mb Lb aSb aMb cSb cMb w ht ha hb5 hva hSa hMa
      · cases hvb : vldB Sb Mb Lb
        · exact lcmp_4 Sa Ma La aSa aMa cSa cMa Sb Mb Lb aSb aMb cSb cMb w ht ha hb5 hva hvb hSa hMa hSb hMb
        · by_cases hC : codeOf Sa Ma La = codeOf Sb Mb Lb
          · exact lcmp_5 Sa Ma La aSa aMa cSa cMa Sb Mb Lb aSb aMb cSb cMb w ht ha hb5 hva hvb hC hSa hMa hSb hMb
          · exact lcmp_6 Sa Ma La aSa aMa cSa cMa Sb Mb Lb aSb aMb cSb cMb w ht ha hb5 hva hvb hC hSa hMa hSb hMb
    · exact lcmp_2 Sa Ma La aSa aMa cSa cMa Sb Mb Lb aSb aMb cSb cMb w ht ha (by omega)
  · exact lcmp_1 Sa Ma La aSa aMa cSa cMa Sb Mb Lb aSb aMb cSb cMb w ht (by omega)
end Go.Proofs.YtmhhjchnjaefhaaDoor

