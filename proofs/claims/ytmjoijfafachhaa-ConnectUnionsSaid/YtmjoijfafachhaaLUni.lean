/- The walk of the law ConnectUnions. -/
import Derived.Test.YtmjoijfafachhaaLSum
import Derived.DataShut
namespace Go.Proofs.Ytmjoijfafachhaa
open Go Go.RowKit
set_option maxRecDepth 100000 in
set_option maxHeartbeats 4000000 in
theorem luni_ga (Sa Ma : List Int) (La : Int) (aSa aMa : Option Addr) (cSa cMa : Nat) (Sb Mb : List Int) (Lb : Int) (aSb aMb : Option Addr) (cSb cMb : Nat) (u : Int) (w : World) (hga : greatB Sa Ma La = true) :
    Calls Try.prog 11 #[.agg #[.slice aSa Sa.length cSa, .slice aMa Ma.length cMa, .int .i64 La], .agg #[.slice aSb Sb.length cSb, .slice aMb Mb.length cMb, .int .i64 Lb], .int .u8 u] w fun e w' => e = .returned (.bool true) ∧ Below w.heap.size w w' := by
  have HGa : Hid (∀ W', Calls Try.prog 13 #[.agg #[.slice aSa Sa.length cSa, .slice aMa Ma.length cMa, .int .i64 La]] W' fun e w' => e = .returned (.bool true) ∧ Below W'.heap.size W' w') := Lib.hid fun W' => by
    have g := great_any Sa Ma La aSa aMa cSa cMa W'
    rw [hga] at g; exact g
  have H0 := Lib.hid (((HH.start w).alloc #[.slice aSa Sa.length cSa, .slice aMa Ma.length cMa, .int .i64 La] 24 rfl rfl).alloc #[.slice aSb Sb.length cSb, .slice aMb Mb.length cMb, .int .i64 Lb] 24 (b := w.heap.size + 1) (by simp) rfl)
  clear hga
  go_enter Try.func11, Try.ntmps11
  go_wp2_with fail
  refine (awake_any _).mono ?_
  rintro e w1 ⟨rfl, hb⟩
  have H1 := Lib.hid (H0.out.call hb)
  clear hb H0 
  have k00 := H1.out.cell (k := 0) (i := 0) rfl rfl
  have k01 := H1.out.cell (k := 0) (i := 1) rfl rfl
  have k02 := H1.out.cell (k := 0) (i := 2) rfl rfl
  have k10 := H1.out.cell (k := 1) (i := 0) rfl rfl
  have k11 := H1.out.cell (k := 1) (i := 1) rfl rfl
  have k12 := H1.out.cell (k := 1) (i := 2) rfl rfl
  go_wp2_with fail
  clear k00 k01 k02 k10 k11 k12
  refine (HGa.out _).mono ?_
  rintro e w2 ⟨rfl, hb⟩
  have H2 := Lib.hid (H1.out.call hb)
  clear hb H1 
  go_wp2_with fail
  go_ret
  exact ⟨rfl, H2.out.below⟩
set_option maxRecDepth 100000 in
set_option maxHeartbeats 4000000 in
theorem luni_gb (Sa Ma : List Int) (La : Int) (aSa aMa : Option Addr) (cSa cMa : Nat) (Sb Mb : List Int) (Lb : Int) (aSb aMb : Option Addr) (cSb cMb : Nat) (u : Int) (w : World) (hga : greatB Sa Ma La = false) (hgb : greatB Sb Mb Lb = true) :
    Calls Try.prog 11 #[.agg #[.slice aSa Sa.length cSa, .slice aMa Ma.length cMa, .int .i64 La], .agg #[.slice aSb Sb.length cSb, .slice aMb Mb.length cMb, .int .i64 Lb], .int .u8 u] w fun e w' => e = .returned (.bool true) ∧ Below w.heap.size w w' := by
  have HGa : Hid (∀ W', Calls Try.prog 13 #[.agg #[.slice aSa Sa.length cSa, .slice aMa Ma.length cMa, .int .i64 La]] W' fun e w' => e = .returned (.bool false) ∧ Below W'.heap.size W' w') := Lib.hid fun W' => by
    have g := great_any Sa Ma La aSa aMa cSa cMa W'
    rw [hga] at g; exact g
  have HGb : Hid (∀ W', Calls Try.prog 13 #[.agg #[.slice aSb Sb.length cSb, .slice aMb Mb.length cMb, .int .i64 Lb]] W' fun e w' => e = .returned (.bool true) ∧ Below W'.heap.size W' w') := Lib.hid fun W' => by
    have g := great_any Sb Mb Lb aSb aMb cSb cMb W'
    rw [hgb] at g; exact g
  have H0 := Lib.hid (((HH.start w).alloc #[.slice aSa Sa.length cSa, .slice aMa Ma.length cMa, .int .i64 La] 24 rfl rfl).alloc #[.slice aSb Sb.length cSb, .slice aMb Mb.length cMb, .int .i64 Lb] 24 (b := w.heap.size + 1) (by simp) rfl)
  clear hga hgb
  go_enter Try.func11, Try.ntmps11
  go_wp2_with fail
  refine (awake_any _).mono ?_
  rintro e w1 ⟨rfl, hb⟩
  have H1 := Lib.hid (H0.out.call hb)
  clear hb H0 
  have k00 := H1.out.cell (k := 0) (i := 0) rfl rfl
  have k01 := H1.out.cell (k := 0) (i := 1) rfl rfl
  have k02 := H1.out.cell (k := 0) (i := 2) rfl rfl
  have k10 := H1.out.cell (k := 1) (i := 0) rfl rfl
  have k11 := H1.out.cell (k := 1) (i := 1) rfl rfl
  have k12 := H1.out.cell (k := 1) (i := 2) rfl rfl
  go_wp2_with fail
  clear k00 k01 k02 k10 k11 k12
  refine (HGa.out _).mono ?_
  rintro e w2 ⟨rfl, hb⟩
  have H2 := Lib.hid (H1.out.call hb)
  clear hb H1 
  have k00 := H2.out.cell (k := 0) (i := 0) rfl rfl
  have k01 := H2.out.cell (k := 0) (i := 1) rfl rfl
  have k02 := H2.out.cell (k := 0) (i := 2) rfl rfl
  have k10 := H2.out.cell (k := 1) (i := 0) rfl rfl
  have k11 := H2.out.cell (k := 1) (i := 1) rfl rfl
  have k12 := H2.out.cell (k := 1) (i := 2) rfl rfl
  go_wp2_with fail
  clear k00 k01 k02 k10 k11 k12
  refine (HGb.out _).mono ?_
  rintro e w3 ⟨rfl, hb⟩
  have H3 := Lib.hid (H2.out.call hb)
  clear hb H2 
  go_wp2_with fail
  go_ret
  exact ⟨rfl, H3.out.below⟩
set_option maxRecDepth 100000 in
set_option maxHeartbeats 4000000 in
theorem luni_na (Sa Ma : List Int) (La : Int) (aSa aMa : Option Addr) (cSa cMa : Nat) (Sb Mb : List Int) (Lb : Int) (aSb aMb : Option Addr) (cSb cMb : Nat) (u : Int) (w : World) (hga : greatB Sa Ma La = false) (hgb : greatB Sb Mb Lb = false) (hva : vldB Sa Ma La = false) (hSa : IntsAt w aSa Sa) (hMa : IntsAt w aMa Ma) (hSb : IntsAt w aSb Sb) (hMb : IntsAt w aMb Mb) :
    Calls Try.prog 11 #[.agg #[.slice aSa Sa.length cSa, .slice aMa Ma.length cMa, .int .i64 La], .agg #[.slice aSb Sb.length cSb, .slice aMb Mb.length cMb, .int .i64 Lb], .int .u8 u] w fun e w' => e = .returned (.bool true) ∧ Below w.heap.size w w' := by
  obtain ⟨hga1, hga2⟩ := greatB_no hga
  obtain ⟨hgb1, hgb2⟩ := greatB_no hgb
  have HGa : Hid (∀ W', Calls Try.prog 13 #[.agg #[.slice aSa Sa.length cSa, .slice aMa Ma.length cMa, .int .i64 La]] W' fun e w' => e = .returned (.bool false) ∧ Below W'.heap.size W' w') := Lib.hid fun W' => by
    have g := great_any Sa Ma La aSa aMa cSa cMa W'
    rw [hga] at g; exact g
  have HGb : Hid (∀ W', Calls Try.prog 13 #[.agg #[.slice aSb Sb.length cSb, .slice aMb Mb.length cMb, .int .i64 Lb]] W' fun e w' => e = .returned (.bool false) ∧ Below W'.heap.size W' w') := Lib.hid fun W' => by
    have g := great_any Sb Mb Lb aSb aMb cSb cMb W'
    rw [hgb] at g; exact g
  have HEZ : Hid (∀ W', Calls Try.prog 24 #[.agg #[.slice none 0 0, .slice none 0 0, .int .i64 0], .agg #[.slice none 0 0, .slice none 0 0, .int .i64 0]] W' fun e w' => e = .returned (.bool true) ∧ Below W'.heap.size W' w') := Lib.hid fun W' => equalR_any [] [] [] [] 0 0 none none none none 0 0 0 0 W' (by decide) (by decide) (IntsAt.nil _ _) (IntsAt.nil _ _) (IntsAt.nil _ _) (IntsAt.nil _ _)
  have HU : Hid (∀ W', Below w.heap.size w W' → Calls Try.prog 16 #[.agg #[.slice aSa Sa.length cSa, .slice aMa Ma.length cMa, .int .i64 La], .agg #[.slice aSb Sb.length cSb, .slice aMb Mb.length cMb, .int .i64 Lb]] W' fun e w' => e = .returned (.tuple #[.agg #[.slice none 0 0, .slice none 0 0, .int .i64 0], .int .i64 1]) ∧ Below W'.heap.size W' w') := Lib.hid fun W' h => union_arg_a Sa Ma La aSa aMa cSa cMa Sb Mb Lb aSb aMb cSb cMb W' (by omega) (by omega) (by omega) (by omega) hva (hSa.later h) (hMa.later h) (hSb.later h) (hMb.later h)
  have HRa : Hid (∀ W', Below w.heap.size w W' → Calls Try.prog 15 #[.agg #[.slice aSa Sa.length cSa, .slice aMa Ma.length cMa, .int .i64 La]] W' fun e w' => e = .returned (.bool false) ∧ Below W'.heap.size W' w') := Lib.hid fun W' h => by
    have g := rvalid_any Sa Ma La aSa aMa cSa cMa W' (by omega) (by omega) (hSa.later h) (hMa.later h)
    rw [hva] at g; exact g
  have H0 := Lib.hid (((HH.start w).alloc #[.slice aSa Sa.length cSa, .slice aMa Ma.length cMa, .int .i64 La] 24 rfl rfl).alloc #[.slice aSb Sb.length cSb, .slice aMb Mb.length cMb, .int .i64 Lb] 24 (b := w.heap.size + 1) (by simp) rfl)
  clear hga hgb hva hSa hMa hSb hMb
  generalize Sa.length = na at *
  generalize Sb.length = nb at *
  generalize Ma.length = ma at *
  generalize Mb.length = mb at *
  go_enter Try.func11, Try.ntmps11
  go_wp2_with fail
  refine (awake_any _).mono ?_
  rintro e w1 ⟨rfl, hb⟩
  have H1 := Lib.hid (H0.out.call hb)
  clear hb H0 
  have k00 := H1.out.cell (k := 0) (i := 0) rfl rfl
  have k01 := H1.out.cell (k := 0) (i := 1) rfl rfl
  have k02 := H1.out.cell (k := 0) (i := 2) rfl rfl
  have k10 := H1.out.cell (k := 1) (i := 0) rfl rfl
  have k11 := H1.out.cell (k := 1) (i := 1) rfl rfl
  have k12 := H1.out.cell (k := 1) (i := 2) rfl rfl
  go_wp2_with fail
  clear k00 k01 k02 k10 k11 k12
  refine (HGa.out _).mono ?_
  rintro e w2 ⟨rfl, hb⟩
  have H2 := Lib.hid (H1.out.call hb)
  clear hb H1 
  have k00 := H2.out.cell (k := 0) (i := 0) rfl rfl
  have k01 := H2.out.cell (k := 0) (i := 1) rfl rfl
  have k02 := H2.out.cell (k := 0) (i := 2) rfl rfl
  have k10 := H2.out.cell (k := 1) (i := 0) rfl rfl
  have k11 := H2.out.cell (k := 1) (i := 1) rfl rfl
  have k12 := H2.out.cell (k := 1) (i := 2) rfl rfl
  go_wp2_with fail
  clear k00 k01 k02 k10 k11 k12
  refine (HGb.out _).mono ?_
  rintro e w3 ⟨rfl, hb⟩
  have H3 := Lib.hid (H2.out.call hb)
  clear hb H2 
  have k00 := H3.out.cell (k := 0) (i := 0) rfl rfl
  have k01 := H3.out.cell (k := 0) (i := 1) rfl rfl
  have k02 := H3.out.cell (k := 0) (i := 2) rfl rfl
  have k10 := H3.out.cell (k := 1) (i := 0) rfl rfl
  have k11 := H3.out.cell (k := 1) (i := 1) rfl rfl
  have k12 := H3.out.cell (k := 1) (i := 2) rfl rfl
  go_wp2_with fail
  clear k00 k01 k02 k10 k11 k12
  refine (HU.out _ H3.out.below).mono ?_
  rintro e w4 ⟨rfl, hb⟩
  have H4 := Lib.hid ((H3.out.call hb).alloc #[.slice none 0 0, .slice none 0 0, .int .i64 0] 24 (b := w4.heap.size) rfl rfl)
  clear hb H3 HU
  go_upto_region 6 with fail
  generalize w4.alloc (.cells #[.slice none 0 0, .slice none 0 0, .int .i64 0] 24) = v4 at *
  generalize w4.heap.size = q4 at *
  have k00 := H4.out.cell (k := 0) (i := 0) rfl rfl
  have k01 := H4.out.cell (k := 0) (i := 1) rfl rfl
  have k02 := H4.out.cell (k := 0) (i := 2) rfl rfl
  have k10 := H4.out.cell (k := 1) (i := 0) rfl rfl
  have k11 := H4.out.cell (k := 1) (i := 1) rfl rfl
  have k12 := H4.out.cell (k := 1) (i := 2) rfl rfl
  have k20 := H4.out.cell (k := 2) (i := 0) rfl rfl
  have k21 := H4.out.cell (k := 2) (i := 1) rfl rfl
  have k22 := H4.out.cell (k := 2) (i := 2) rfl rfl
  go_wp2_with fail
  clear k00 k01 k02 k10 k11 k12 k20 k21 k22
  refine (HRa.out _ H4.out.below).mono ?_
  rintro e w5 ⟨rfl, hb⟩
  have H5 := Lib.hid (H4.out.call hb)
  clear hb H4 
  have k00 := H5.out.cell (k := 0) (i := 0) rfl rfl
  have k01 := H5.out.cell (k := 0) (i := 1) rfl rfl
  have k02 := H5.out.cell (k := 0) (i := 2) rfl rfl
  have k10 := H5.out.cell (k := 1) (i := 0) rfl rfl
  have k11 := H5.out.cell (k := 1) (i := 1) rfl rfl
  have k12 := H5.out.cell (k := 1) (i := 2) rfl rfl
  have k20 := H5.out.cell (k := 2) (i := 0) rfl rfl
  have k21 := H5.out.cell (k := 2) (i := 1) rfl rfl
  have k22 := H5.out.cell (k := 2) (i := 2) rfl rfl
  go_wp2_with fail
  clear k00 k01 k02 k10 k11 k12 k20 k21 k22
  refine (HEZ.out _).mono ?_
  rintro e w6 ⟨rfl, hb⟩
  have H6 := Lib.hid (H5.out.call hb)
  clear hb H5 
  go_wp2_with fail
  go_ret
  exact ⟨rfl, H6.out.below⟩
set_option maxRecDepth 100000 in
set_option maxHeartbeats 4000000 in
theorem luni_nb (Sa Ma : List Int) (La : Int) (aSa aMa : Option Addr) (cSa cMa : Nat) (Sb Mb : List Int) (Lb : Int) (aSb aMb : Option Addr) (cSb cMb : Nat) (u : Int) (w : World) (hga : greatB Sa Ma La = false) (hgb : greatB Sb Mb Lb = false) (hva : vldB Sa Ma La = true) (hvb : vldB Sb Mb Lb = false) (hSa : IntsAt w aSa Sa) (hMa : IntsAt w aMa Ma) (hSb : IntsAt w aSb Sb) (hMb : IntsAt w aMb Mb) :
    Calls Try.prog 11 #[.agg #[.slice aSa Sa.length cSa, .slice aMa Ma.length cMa, .int .i64 La], .agg #[.slice aSb Sb.length cSb, .slice aMb Mb.length cMb, .int .i64 Lb], .int .u8 u] w fun e w' => e = .returned (.bool true) ∧ Below w.heap.size w w' := by
  obtain ⟨hga1, hga2⟩ := greatB_no hga
  obtain ⟨hgb1, hgb2⟩ := greatB_no hgb
  have HGa : Hid (∀ W', Calls Try.prog 13 #[.agg #[.slice aSa Sa.length cSa, .slice aMa Ma.length cMa, .int .i64 La]] W' fun e w' => e = .returned (.bool false) ∧ Below W'.heap.size W' w') := Lib.hid fun W' => by
    have g := great_any Sa Ma La aSa aMa cSa cMa W'
    rw [hga] at g; exact g
  have HGb : Hid (∀ W', Calls Try.prog 13 #[.agg #[.slice aSb Sb.length cSb, .slice aMb Mb.length cMb, .int .i64 Lb]] W' fun e w' => e = .returned (.bool false) ∧ Below W'.heap.size W' w') := Lib.hid fun W' => by
    have g := great_any Sb Mb Lb aSb aMb cSb cMb W'
    rw [hgb] at g; exact g
  have HEZ : Hid (∀ W', Calls Try.prog 24 #[.agg #[.slice none 0 0, .slice none 0 0, .int .i64 0], .agg #[.slice none 0 0, .slice none 0 0, .int .i64 0]] W' fun e w' => e = .returned (.bool true) ∧ Below W'.heap.size W' w') := Lib.hid fun W' => equalR_any [] [] [] [] 0 0 none none none none 0 0 0 0 W' (by decide) (by decide) (IntsAt.nil _ _) (IntsAt.nil _ _) (IntsAt.nil _ _) (IntsAt.nil _ _)
  have HU : Hid (∀ W', Below w.heap.size w W' → Calls Try.prog 16 #[.agg #[.slice aSa Sa.length cSa, .slice aMa Ma.length cMa, .int .i64 La], .agg #[.slice aSb Sb.length cSb, .slice aMb Mb.length cMb, .int .i64 Lb]] W' fun e w' => e = .returned (.tuple #[.agg #[.slice none 0 0, .slice none 0 0, .int .i64 0], .int .i64 1]) ∧ Below W'.heap.size W' w') := Lib.hid fun W' h => union_arg_b Sa Ma La aSa aMa cSa cMa Sb Mb Lb aSb aMb cSb cMb W' (by omega) (by omega) (by omega) (by omega) hva hvb (hSa.later h) (hMa.later h) (hSb.later h) (hMb.later h)
  have HRa : Hid (∀ W', Below w.heap.size w W' → Calls Try.prog 15 #[.agg #[.slice aSa Sa.length cSa, .slice aMa Ma.length cMa, .int .i64 La]] W' fun e w' => e = .returned (.bool true) ∧ Below W'.heap.size W' w') := Lib.hid fun W' h => by
    have g := rvalid_any Sa Ma La aSa aMa cSa cMa W' (by omega) (by omega) (hSa.later h) (hMa.later h)
    rw [hva] at g; exact g
  have HRb : Hid (∀ W', Below w.heap.size w W' → Calls Try.prog 15 #[.agg #[.slice aSb Sb.length cSb, .slice aMb Mb.length cMb, .int .i64 Lb]] W' fun e w' => e = .returned (.bool false) ∧ Below W'.heap.size W' w') := Lib.hid fun W' h => by
    have g := rvalid_any Sb Mb Lb aSb aMb cSb cMb W' (by omega) (by omega) (hSb.later h) (hMb.later h)
    rw [hvb] at g; exact g
  have H0 := Lib.hid (((HH.start w).alloc #[.slice aSa Sa.length cSa, .slice aMa Ma.length cMa, .int .i64 La] 24 rfl rfl).alloc #[.slice aSb Sb.length cSb, .slice aMb Mb.length cMb, .int .i64 Lb] 24 (b := w.heap.size + 1) (by simp) rfl)
  clear hga hgb hva hvb hSa hMa hSb hMb
  generalize Sa.length = na at *
  generalize Sb.length = nb at *
  generalize Ma.length = ma at *
  generalize Mb.length = mb at *
  go_enter Try.func11, Try.ntmps11
  go_wp2_with fail
  refine (awake_any _).mono ?_
  rintro e w1 ⟨rfl, hb⟩
  have H1 := Lib.hid (H0.out.call hb)
  clear hb H0 
  have k00 := H1.out.cell (k := 0) (i := 0) rfl rfl
  have k01 := H1.out.cell (k := 0) (i := 1) rfl rfl
  have k02 := H1.out.cell (k := 0) (i := 2) rfl rfl
  have k10 := H1.out.cell (k := 1) (i := 0) rfl rfl
  have k11 := H1.out.cell (k := 1) (i := 1) rfl rfl
  have k12 := H1.out.cell (k := 1) (i := 2) rfl rfl
  go_wp2_with fail
  clear k00 k01 k02 k10 k11 k12
  refine (HGa.out _).mono ?_
  rintro e w2 ⟨rfl, hb⟩
  have H2 := Lib.hid (H1.out.call hb)
  clear hb H1 
  have k00 := H2.out.cell (k := 0) (i := 0) rfl rfl
  have k01 := H2.out.cell (k := 0) (i := 1) rfl rfl
  have k02 := H2.out.cell (k := 0) (i := 2) rfl rfl
  have k10 := H2.out.cell (k := 1) (i := 0) rfl rfl
  have k11 := H2.out.cell (k := 1) (i := 1) rfl rfl
  have k12 := H2.out.cell (k := 1) (i := 2) rfl rfl
  go_wp2_with fail
  clear k00 k01 k02 k10 k11 k12
  refine (HGb.out _).mono ?_
  rintro e w3 ⟨rfl, hb⟩
  have H3 := Lib.hid (H2.out.call hb)
  clear hb H2 
  have k00 := H3.out.cell (k := 0) (i := 0) rfl rfl
  have k01 := H3.out.cell (k := 0) (i := 1) rfl rfl
  have k02 := H3.out.cell (k := 0) (i := 2) rfl rfl
  have k10 := H3.out.cell (k := 1) (i := 0) rfl rfl
  have k11 := H3.out.cell (k := 1) (i := 1) rfl rfl
  have k12 := H3.out.cell (k := 1) (i := 2) rfl rfl
  go_wp2_with fail
  clear k00 k01 k02 k10 k11 k12
  refine (HU.out _ H3.out.below).mono ?_
  rintro e w4 ⟨rfl, hb⟩
  have H4 := Lib.hid ((H3.out.call hb).alloc #[.slice none 0 0, .slice none 0 0, .int .i64 0] 24 (b := w4.heap.size) rfl rfl)
  clear hb H3 HU
  go_upto_region 6 with fail
  generalize w4.alloc (.cells #[.slice none 0 0, .slice none 0 0, .int .i64 0] 24) = v4 at *
  generalize w4.heap.size = q4 at *
  have k00 := H4.out.cell (k := 0) (i := 0) rfl rfl
  have k01 := H4.out.cell (k := 0) (i := 1) rfl rfl
  have k02 := H4.out.cell (k := 0) (i := 2) rfl rfl
  have k10 := H4.out.cell (k := 1) (i := 0) rfl rfl
  have k11 := H4.out.cell (k := 1) (i := 1) rfl rfl
  have k12 := H4.out.cell (k := 1) (i := 2) rfl rfl
  have k20 := H4.out.cell (k := 2) (i := 0) rfl rfl
  have k21 := H4.out.cell (k := 2) (i := 1) rfl rfl
  have k22 := H4.out.cell (k := 2) (i := 2) rfl rfl
  go_wp2_with fail
  clear k00 k01 k02 k10 k11 k12 k20 k21 k22
  refine (HRa.out _ H4.out.below).mono ?_
  rintro e w5 ⟨rfl, hb⟩
  have H5 := Lib.hid (H4.out.call hb)
  clear hb H4 
  have k00 := H5.out.cell (k := 0) (i := 0) rfl rfl
  have k01 := H5.out.cell (k := 0) (i := 1) rfl rfl
  have k02 := H5.out.cell (k := 0) (i := 2) rfl rfl
  have k10 := H5.out.cell (k := 1) (i := 0) rfl rfl
  have k11 := H5.out.cell (k := 1) (i := 1) rfl rfl
  have k12 := H5.out.cell (k := 1) (i := 2) rfl rfl
  have k20 := H5.out.cell (k := 2) (i := 0) rfl rfl
  have k21 := H5.out.cell (k := 2) (i := 1) rfl rfl
  have k22 := H5.out.cell (k := 2) (i := 2) rfl rfl
  go_wp2_with fail
  clear k00 k01 k02 k10 k11 k12 k20 k21 k22
  refine (HRb.out _ H5.out.below).mono ?_
  rintro e w6 ⟨rfl, hb⟩
  have H6 := Lib.hid (H5.out.call hb)
  clear hb H5 
  have k00 := H6.out.cell (k := 0) (i := 0) rfl rfl
  have k01 := H6.out.cell (k := 0) (i := 1) rfl rfl
  have k02 := H6.out.cell (k := 0) (i := 2) rfl rfl
  have k10 := H6.out.cell (k := 1) (i := 0) rfl rfl
  have k11 := H6.out.cell (k := 1) (i := 1) rfl rfl
  have k12 := H6.out.cell (k := 1) (i := 2) rfl rfl
  have k20 := H6.out.cell (k := 2) (i := 0) rfl rfl
  have k21 := H6.out.cell (k := 2) (i := 1) rfl rfl
  have k22 := H6.out.cell (k := 2) (i := 2) rfl rfl
  go_wp2_with fail
  clear k00 k01 k02 k10 k11 k12 k20 k21 k22
  refine (HEZ.out _).mono ?_
  rintro e w7 ⟨rfl, hb⟩
  have H7 := Lib.hid (H6.out.call hb)
  clear hb H6 
  go_wp2_with fail
  go_ret
  exact ⟨rfl, H7.out.below⟩
set_option maxRecDepth 100000 in
set_option maxHeartbeats 4000000 in
theorem luni_yes (Sa Ma : List Int) (La : Int) (aSa aMa : Option Addr) (cSa cMa : Nat) (Sb Mb : List Int) (Lb : Int) (aSb aMb : Option Addr) (cSb cMb : Nat) (u : Int) (w : World) (hga : greatB Sa Ma La = false) (hgb : greatB Sb Mb Lb = false) (hva : vldB Sa Ma La = true) (hvb : vldB Sb Mb Lb = true) (hu0 : 0 ≤ u) (_ : u ≤ 255) (hSa : IntsAt w aSa Sa) (hMa : IntsAt w aMa Ma) (hSb : IntsAt w aSb Sb) (hMb : IntsAt w aMb Mb) :
    Calls Try.prog 11 #[.agg #[.slice aSa Sa.length cSa, .slice aMa Ma.length cMa, .int .i64 La], .agg #[.slice aSb Sb.length cSb, .slice aMb Mb.length cMb, .int .i64 Lb], .int .u8 u] w fun e w' => e = .returned (.bool true) ∧ Below w.heap.size w w' := by
  obtain ⟨hga1, hga2⟩ := greatB_no hga
  obtain ⟨hgb1, hgb2⟩ := greatB_no hgb
  have HGa : Hid (∀ W', Calls Try.prog 13 #[.agg #[.slice aSa Sa.length cSa, .slice aMa Ma.length cMa, .int .i64 La]] W' fun e w' => e = .returned (.bool false) ∧ Below W'.heap.size W' w') := Lib.hid fun W' => by
    have g := great_any Sa Ma La aSa aMa cSa cMa W'
    rw [hga] at g; exact g
  have HGb : Hid (∀ W', Calls Try.prog 13 #[.agg #[.slice aSb Sb.length cSb, .slice aMb Mb.length cMb, .int .i64 Lb]] W' fun e w' => e = .returned (.bool false) ∧ Below W'.heap.size W' w') := Lib.hid fun W' => by
    have g := great_any Sb Mb Lb aSb aMb cSb cMb W'
    rw [hgb] at g; exact g
  have HEZ : Hid (∀ W', Calls Try.prog 24 #[.agg #[.slice none 0 0, .slice none 0 0, .int .i64 0], .agg #[.slice none 0 0, .slice none 0 0, .int .i64 0]] W' fun e w' => e = .returned (.bool true) ∧ Below W'.heap.size W' w') := Lib.hid fun W' => equalR_any [] [] [] [] 0 0 none none none none 0 0 0 0 W' (by decide) (by decide) (IntsAt.nil _ _) (IntsAt.nil _ _) (IntsAt.nil _ _) (IntsAt.nil _ _)
  have hsa := vldB_shape hva
  have hsb := vldB_shape hvb
  have hma := hsa.len
  have hmb := hsb.len
  have hla0 := hsa.lo
  have hlb0 := hsb.lo
  have hla : La ≤ 10 := by
    have h1 := hsa.hi
    have h2 := hga
    unfold greatB at h2
    simp only [Bool.or_eq_false_iff, Bool.and_eq_false_iff, decide_eq_false_iff_not] at h2
    omega
  have hlb : Lb ≤ 10 := by
    have h1 := hsb.hi
    have h2 := hgb
    unfold greatB at h2
    simp only [Bool.or_eq_false_iff, Bool.and_eq_false_iff, decide_eq_false_iff_not] at h2
    omega
  have hn : Sa.length + Sb.length ≤ 64 := by omega
  have hgv : vldB (Sa ++ Sb) (uniM Ma Mb) (La + Lb) = true := uni_valid hva hvb hn (by omega) (by omega)
  have hgc : compsN (Sa ++ Sb) (uniM Ma Mb) (La + Lb) = compsN Sa Ma La + compsN Sb Mb Lb := by
    have := comps_uni hva hvb hn (K := La + Lb) (by omega) (by omega)
    omega
  have hVl : (uniM Ma Mb).length = Ma.length + Mb.length := uniM_len _ _
  have hTl : (Sa ++ Sb).length = Sa.length + Sb.length := List.length_append
  have HU : Hid (∀ W', Below w.heap.size w W' → Calls Try.prog 16 #[.agg #[.slice aSa Sa.length cSa, .slice aMa Ma.length cMa, .int .i64 La], .agg #[.slice aSb Sb.length cSb, .slice aMb Mb.length cMb, .int .i64 Lb]] W' fun e w' => ∃ a b c d, e = .returned (.tuple #[.agg #[.slice a (Sa.length + Sb.length) c, .slice b (Ma.length + Mb.length) d, .int .i64 (La + Lb)], .int .i64 0]) ∧ Own w' W'.heap.size 3 a c (ints (Sa ++ Sb)) ∧ Own w' W'.heap.size 3 b d (ints (uniM Ma Mb)) ∧ Below W'.heap.size W' w') := Lib.hid fun W' h => union_yes Sa Ma La aSa aMa cSa cMa Sb Mb Lb aSb aMb cSb cMb W' hva hvb hn (by omega) (hSa.later h) (hMa.later h) (hSb.later h) (hMb.later h)
  have HRs : Hid (∀ W', Below w.heap.size w W' → Calls Try.prog 46 #[.agg #[.slice aSa Sa.length cSa, .slice aMa Ma.length cMa, .int .i64 La], .agg #[.slice aSb Sb.length cSb, .slice aMb Mb.length cMb, .int .i64 Lb]] W' fun e w' => ∃ a b c d, e = .returned (.agg #[.slice a (Sa.length + Sb.length) c, .slice b (Ma.length + Mb.length) d, .int .i64 (La + Lb)]) ∧ Own w' W'.heap.size 3 a c (ints (Sa ++ Sb)) ∧ Own w' W'.heap.size 3 b d (ints (uniM Ma Mb)) ∧ Below W'.heap.size W' w') := Lib.hid fun W' h => (runion_yes Sa Ma La aSa aMa cSa cMa Sb Mb Lb aSb aMb cSb cMb W' hva hvb (hSa.later h) (hMa.later h) (hSb.later h) (hMb.later h)).mono fun e w' ⟨a, b, c, d, h1, h2, h3, _, h5⟩ => ⟨a, b, c, d, h1, h2, h3, h5⟩
  have HEq : Hid (∀ (a b a' b' : Option Addr) (c d c' d' : Nat) W', IntsAt W' a (Sa ++ Sb) → IntsAt W' b (uniM Ma Mb) → IntsAt W' a' (Sa ++ Sb) → IntsAt W' b' (uniM Ma Mb) → Calls Try.prog 24 #[.agg #[.slice a (Sa.length + Sb.length) c, .slice b (Ma.length + Mb.length) d, .int .i64 (La + Lb)], .agg #[.slice a' (Sa.length + Sb.length) c', .slice b' (Ma.length + Mb.length) d', .int .i64 (La + Lb)]] W' fun e w' => e = .returned (.bool true) ∧ Below W'.heap.size W' w') := Lib.hid fun a b a' b' c d c' d' W' h1 h2 h3 h4 => by
    have g := equalR_any (Sa ++ Sb) (uniM Ma Mb) (Sa ++ Sb) (uniM Ma Mb) (La + Lb) (La + Lb) a b a' b' c d c' d' W' (by omega) (by omega) h1 h2 h3 h4
    rw [eqD_same, hTl, hVl] at g; exact g
  have HVg : Hid (∀ (a b : Option Addr) (c d : Nat) W', IntsAt W' a (Sa ++ Sb) → IntsAt W' b (uniM Ma Mb) → Calls Try.prog 26 #[.agg #[.slice a (Sa.length + Sb.length) c, .slice b (Ma.length + Mb.length) d, .int .i64 (La + Lb)]] W' fun e w' => e = .returned (.bool true) ∧ Below W'.heap.size W' w') := Lib.hid fun a b c d W' h1 h2 => by
    have g := valid_any (Sa ++ Sb) (uniM Ma Mb) (La + Lb) a b c d W' (by omega) (by omega) h1 h2
    rw [hgv, hTl, hVl] at g; exact g
  have HCg : Hid (∀ (a b : Option Addr) (c d : Nat) W', IntsAt W' a (Sa ++ Sb) → IntsAt W' b (uniM Ma Mb) → Calls Try.prog 44 #[.agg #[.slice a (Sa.length + Sb.length) c, .slice b (Ma.length + Mb.length) d, .int .i64 (La + Lb)]] W' fun e w' => e = .returned (.int .i64 (compsN Sa Ma La + compsN Sb Mb Lb)) ∧ Below W'.heap.size W' w') := Lib.hid fun a b c d W' h1 h2 => by
    have g := components_any (Sa ++ Sb) (uniM Ma Mb) (La + Lb) a b c d W' (by omega) (by omega) h1 h2
    rw [hgc, hTl, hVl] at g; exact g
  have HCa : Hid (∀ W', Below w.heap.size w W' → Calls Try.prog 44 #[.agg #[.slice aSa Sa.length cSa, .slice aMa Ma.length cMa, .int .i64 La]] W' fun e w' => e = .returned (.int .i64 (compsN Sa Ma La)) ∧ Below W'.heap.size W' w') := Lib.hid fun W' h => components_any Sa Ma La aSa aMa cSa cMa W' (by omega) (by omega) (hSa.later h) (hMa.later h)
  have HCb : Hid (∀ W', Below w.heap.size w W' → Calls Try.prog 44 #[.agg #[.slice aSb Sb.length cSb, .slice aMb Mb.length cMb, .int .i64 Lb]] W' fun e w' => e = .returned (.int .i64 (compsN Sb Mb Lb)) ∧ Below W'.heap.size W' w') := Lib.hid fun W' h => components_any Sb Mb Lb aSb aMb cSb cMb W' (by omega) (by omega) (hSb.later h) (hMb.later h)
  have HRa : Hid (∀ W', Below w.heap.size w W' → Calls Try.prog 15 #[.agg #[.slice aSa Sa.length cSa, .slice aMa Ma.length cMa, .int .i64 La]] W' fun e w' => e = .returned (.bool true) ∧ Below W'.heap.size W' w') := Lib.hid fun W' h => by
    have g := rvalid_any Sa Ma La aSa aMa cSa cMa W' (by omega) (by omega) (hSa.later h) (hMa.later h)
    rw [hva] at g; exact g
  have HRb : Hid (∀ W', Below w.heap.size w W' → Calls Try.prog 15 #[.agg #[.slice aSb Sb.length cSb, .slice aMb Mb.length cMb, .int .i64 Lb]] W' fun e w' => e = .returned (.bool true) ∧ Below W'.heap.size W' w') := Lib.hid fun W' h => by
    have g := rvalid_any Sb Mb Lb aSb aMb cSb cMb W' (by omega) (by omega) (hSb.later h) (hMb.later h)
    rw [hvb] at g; exact g
  have hca : 0 ≤ compsN Sa Ma La ∧ compsN Sa Ma La ≤ 1000 := by
    rw [comps_of hva]
    have h1 : (leasts Sa Ma).length ≤ 4 * Sa.length := by
      have := List.length_filter_le (fun h => outB Sa h && leastB (sc Ma) (perOf (sc Ma) (4 * Sa.length)) h) (List.range (4 * Sa.length))
      rw [List.length_range] at this; exact this
    omega
  have hcb : 0 ≤ compsN Sb Mb Lb ∧ compsN Sb Mb Lb ≤ 1000 := by
    rw [comps_of hvb]
    have h1 : (leasts Sb Mb).length ≤ 4 * Sb.length := by
      have := List.length_filter_le (fun h => outB Sb h && leastB (sc Mb) (perOf (sc Mb) (4 * Sb.length)) h) (List.range (4 * Sb.length))
      rw [List.length_range] at this; exact this
    omega
  have HRound : Hid (∀ (T V : List Int) (K : Int) (a b : Option Addr) (c d : Nat) W', vldB T V K = true → T.length + Sb.length ≤ 64 → K + Lb ≤ 64 → IntsAt W' a T → IntsAt W' b V → Below w.heap.size w W' → Calls Try.prog 16 #[.agg #[.slice a T.length c, .slice b V.length d, .int .i64 (K)], .agg #[.slice aSb Sb.length cSb, .slice aMb Mb.length cMb, .int .i64 Lb]] W' fun e w' => ∃ a b c d, e = .returned (.tuple #[.agg #[.slice a (T ++ Sb).length c, .slice b (uniM V Mb).length d, .int .i64 (K + Lb)], .int .i64 0]) ∧ Own w' W'.heap.size 3 a c (ints (T ++ Sb)) ∧ Own w' W'.heap.size 3 b d (ints (uniM V Mb)) ∧ Below W'.heap.size W' w') := Lib.hid fun T V K a b c d W' hv h1 h2 h3 h4 hb => by
    rw [List.length_append, uniM_len]
    exact union_yes T V K a b c d Sb Mb Lb aSb aMb cSb cMb W' hv hvb h1 h2 h3 h4 (hSb.later hb) (hMb.later hb)
  have HFull : Hid (∀ (T V : List Int) (K : Int) (a b : Option Addr) (c d : Nat) W', vldB T V K = true → (64 < T.length + Sb.length ∨ 64 < K + Lb) → IntsAt W' a T → IntsAt W' b V → Below w.heap.size w W' → Calls Try.prog 16 #[.agg #[.slice a T.length c, .slice b V.length d, .int .i64 (K)], .agg #[.slice aSb Sb.length cSb, .slice aMb Mb.length cMb, .int .i64 Lb]] W' fun e w' => e = .returned (.tuple #[.agg #[.slice none 0 0, .slice none 0 0, .int .i64 0], .int .i64 5]) ∧ Below W'.heap.size W' w') := Lib.hid fun T V K a b c d W' hv h1 h3 h4 hb => by
    by_cases g : 64 < T.length + Sb.length
    · exact union_full_n T V K a b c d Sb Mb Lb aSb aMb cSb cMb W' hv hvb g h3 h4 (hSb.later hb) (hMb.later hb)
    · exact union_full_l T V K a b c d Sb Mb Lb aSb aMb cSb cMb W' hv hvb (by omega) (h1.resolve_left g) h3 h4 (hSb.later hb) (hMb.later hb)
  have HVr : Hid (∀ (T V : List Int) (K : Int), vldB T V K = true → T.length + Sb.length ≤ 64 → K + Lb ≤ 64 → vldB (T ++ Sb) (uniM V Mb) (K + Lb) = true) := Lib.hid fun T V K hv h1 h2 => uni_valid hv hvb h1 (by have := (vldB_shape hv).lo; omega) h2
  have HBd : Hid (∀ (T V : List Int) (K : Int), vldB T V K = true → T.length ≤ 64 ∧ 0 ≤ K ∧ K ≤ 64 ∧ V.length ≤ 256) := Lib.hid fun T V K hv => by
    have h := vldB_shape hv
    have := h.few
    have := h.len
    exact ⟨h.few, h.lo, h.hi, by omega⟩
  have HG0 : Hid (vldB (Sa ++ Sb) (uniM Ma Mb) (La + Lb) = true) := Lib.hid hgv
  have H0 := Lib.hid (((HH.start w).alloc #[.slice aSa Sa.length cSa, .slice aMa Ma.length cMa, .int .i64 La] 24 rfl rfl).alloc #[.slice aSb Sb.length cSb, .slice aMb Mb.length cMb, .int .i64 Lb] 24 (b := w.heap.size + 1) (by simp) rfl)
  clear hga hgb hva hvb hSa hMa hSb hMb hsa hsb hgv hgc hma hmb hn
  obtain ⟨T0, hT0⟩ : ∃ T0, T0 = Sa ++ Sb := ⟨_, rfl⟩
  obtain ⟨V0, hV0⟩ : ∃ V0, V0 = uniM Ma Mb := ⟨_, rfl⟩
  rw [← hT0] at hTl HU HRs HEq HVg HCg HG0
  rw [← hV0] at hVl HU HRs HEq HVg HCg HG0
  rw [← hTl, ← hVl] at HU HRs HEq HVg HCg
  clear hTl hVl hT0 hV0
  generalize compsN Sa Ma La = ca at *
  generalize compsN Sb Mb Lb = cb at *
  generalize Sa.length = na at *
  generalize Sb.length = nb at *
  generalize Ma.length = ma at *
  generalize Mb.length = mb at *
  obtain ⟨ha0, ha1⟩ := hca
  obtain ⟨hb0, hb1⟩ := hcb
  have wc1 : wrap64 (ca + cb) = ca + cb := wrap_mid (by omega) (by omega)
  have wd1 : IntKind.i64.wrap (ca + cb) = ca + cb := wrapi_mid (by omega) (by omega)
  generalize hK0 : La + Lb = K0 at *
  have hK0b : 0 ≤ K0 ∧ K0 ≤ 64 := ⟨by omega, by omega⟩
  clear hK0
  obtain ⟨n0, hn0⟩ : ∃ n0, n0 = T0.length := ⟨_, rfl⟩
  obtain ⟨m0, hm0⟩ : ∃ m0, m0 = V0.length := ⟨_, rfl⟩
  have HN0 := Lib.hid (And.intro hn0 hm0)
  rw [← hn0, ← hm0] at HU HRs HEq HVg HCg
  clear hn0 hm0
  go_enter Try.func11, Try.ntmps11
  go_wp2_with fail
  refine (awake_any _).mono ?_
  rintro e w1 ⟨rfl, hb⟩
  have H1 := Lib.hid (H0.out.call hb)
  clear hb H0 
  have k00 := H1.out.cell (k := 0) (i := 0) rfl rfl
  have k01 := H1.out.cell (k := 0) (i := 1) rfl rfl
  have k02 := H1.out.cell (k := 0) (i := 2) rfl rfl
  have k10 := H1.out.cell (k := 1) (i := 0) rfl rfl
  have k11 := H1.out.cell (k := 1) (i := 1) rfl rfl
  have k12 := H1.out.cell (k := 1) (i := 2) rfl rfl
  go_wp2_with fail
  clear k00 k01 k02 k10 k11 k12
  refine (HGa.out _).mono ?_
  rintro e w2 ⟨rfl, hb⟩
  have H2 := Lib.hid (H1.out.call hb)
  clear hb H1 
  have k00 := H2.out.cell (k := 0) (i := 0) rfl rfl
  have k01 := H2.out.cell (k := 0) (i := 1) rfl rfl
  have k02 := H2.out.cell (k := 0) (i := 2) rfl rfl
  have k10 := H2.out.cell (k := 1) (i := 0) rfl rfl
  have k11 := H2.out.cell (k := 1) (i := 1) rfl rfl
  have k12 := H2.out.cell (k := 1) (i := 2) rfl rfl
  go_wp2_with fail
  clear k00 k01 k02 k10 k11 k12
  refine (HGb.out _).mono ?_
  rintro e w3 ⟨rfl, hb⟩
  have H3 := Lib.hid (H2.out.call hb)
  clear hb H2 
  have k00 := H3.out.cell (k := 0) (i := 0) rfl rfl
  have k01 := H3.out.cell (k := 0) (i := 1) rfl rfl
  have k02 := H3.out.cell (k := 0) (i := 2) rfl rfl
  have k10 := H3.out.cell (k := 1) (i := 0) rfl rfl
  have k11 := H3.out.cell (k := 1) (i := 1) rfl rfl
  have k12 := H3.out.cell (k := 1) (i := 2) rfl rfl
  go_wp2_with fail
  clear k00 k01 k02 k10 k11 k12
  refine (HU.out _ H3.out.below).mono ?_
  rintro e w5 ⟨a5, b5, c5, d5, rfl, ho1, ho2, hb⟩
  have H4 := Lib.hid ((H3.out.call hb).alloc #[.slice a5 n0 c5, .slice b5 m0 d5, .int .i64 K0] 24 (b := w5.heap.size) rfl rfl)
  have o1 := Lib.hid ((ho1.mono H3.out.below.size).alloc (.cells #[.slice a5 n0 c5, .slice b5 m0 d5, .int .i64 K0] 24))
  have o2 := Lib.hid ((ho2.mono H3.out.below.size).alloc (.cells #[.slice a5 n0 c5, .slice b5 m0 d5, .int .i64 K0] 24))
  clear ho1 ho2 hb H3 HU
  go_upto_region 6 with fail
  generalize w5.alloc (.cells #[.slice a5 n0 c5, .slice b5 m0 d5, .int .i64 K0] 24) = v5 at *
  generalize w5.heap.size = q5 at *
  have O5 : Hid (∀ W', Below v5.heap.size v5 W' → (W'.cell? ⟨w.heap.size, 0, none⟩ = some (.slice aSa na cSa) ∧ W'.cell? ⟨w.heap.size, 1, none⟩ = some (.slice aMa ma cMa) ∧ W'.cell? ⟨w.heap.size, 2, none⟩ = some (.int .i64 La) ∧ W'.cell? ⟨w.heap.size + 1, 0, none⟩ = some (.slice aSb nb cSb) ∧ W'.cell? ⟨w.heap.size + 1, 1, none⟩ = some (.slice aMb mb cMb) ∧ W'.cell? ⟨w.heap.size + 1, 2, none⟩ = some (.int .i64 Lb) ∧ W'.cell? ⟨q5, 0, none⟩ = some (.slice a5 n0 c5) ∧ W'.cell? ⟨q5, 1, none⟩ = some (.slice b5 m0 d5) ∧ W'.cell? ⟨q5, 2, none⟩ = some (.int .i64 K0)) ∧ (Own W' w.heap.size 3 a5 c5 (ints T0) ∧ Own W' w.heap.size 3 b5 d5 (ints V0)) ∧ HH w W' [(w.heap.size, rowO 24 [.slice aSa na cSa, .slice aMa ma cMa, .int .i64 La]), (w.heap.size + 1, rowO 24 [.slice aSb nb cSb, .slice aMb mb cMb, .int .i64 Lb]), (q5, rowO 24 [.slice a5 n0 c5, .slice b5 m0 d5, .int .i64 K0])] []) := Lib.hid fun W' h => by
    have H5 := H4.out.call h
    exact ⟨⟨H5.cell (k := 0) (i := 0) rfl rfl, H5.cell (k := 0) (i := 1) rfl rfl, H5.cell (k := 0) (i := 2) rfl rfl, H5.cell (k := 1) (i := 0) rfl rfl, H5.cell (k := 1) (i := 1) rfl rfl, H5.cell (k := 1) (i := 2) rfl rfl, H5.cell (k := 2) (i := 0) rfl rfl, H5.cell (k := 2) (i := 1) rfl rfl, H5.cell (k := 2) (i := 2) rfl rfl⟩, ⟨o1.out.later h (Nat.le_refl _), o2.out.later h (Nat.le_refl _)⟩, H5⟩
  have J0 := Lib.hid (HH.start v5)
  clear o1 o2 H4
  obtain ⟨⟨k00, k01, k02, k10, k11, k12, k20, k21, k22⟩, _, _⟩ := O5.out _ J0.out.below
  go_wp2_with fail
  clear k00 k01 k02 k10 k11 k12 k20 k21 k22
  refine (HRa.out _ (O5.out _ J0.out.below).2.2.below).mono ?_
  rintro e u1 ⟨rfl, hb⟩
  have J1 := Lib.hid (J0.out.call hb)
  clear hb J0
  obtain ⟨⟨k00, k01, k02, k10, k11, k12, k20, k21, k22⟩, _, _⟩ := O5.out _ J1.out.below
  go_wp2_with fail
  clear k00 k01 k02 k10 k11 k12 k20 k21 k22
  refine (HRb.out _ (O5.out _ J1.out.below).2.2.below).mono ?_
  rintro e u2 ⟨rfl, hb⟩
  have J2 := Lib.hid (J1.out.call hb)
  clear hb J1
  go_upto_region 8 with fail
  have D0 := Lib.hid J2.out.drew
  have Q0 := Lib.hid (O5.out _ D0.out.below).1
  have hq0 := Q0.out
  go_region_held3 (fun W' => W'.cell? ⟨w.heap.size, 0, none⟩ = some (.slice aSa na cSa) ∧ W'.cell? ⟨w.heap.size, 1, none⟩ = some (.slice aMa ma cMa) ∧ W'.cell? ⟨w.heap.size, 2, none⟩ = some (.int .i64 La) ∧ W'.cell? ⟨w.heap.size + 1, 0, none⟩ = some (.slice aSb nb cSb) ∧ W'.cell? ⟨w.heap.size + 1, 1, none⟩ = some (.slice aMb mb cMb) ∧ W'.cell? ⟨w.heap.size + 1, 2, none⟩ = some (.int .i64 Lb) ∧ W'.cell? ⟨q5, 0, none⟩ = some (.slice a5 n0 c5) ∧ W'.cell? ⟨q5, 1, none⟩ = some (.slice b5 m0 d5) ∧ W'.cell? ⟨q5, 2, none⟩ = some (.int .i64 K0))
    (first
      | with_reducible exact Q0.out
      | with_reducible exact Q1.out
      | with_reducible exact Q2.out
      | with_reducible exact Q3.out
      | with_reducible exact Q4.out
      | with_reducible exact Q5.out
      | with_reducible exact Q6.out)
    (first
      | ((with_reducible refine (HRs.out _ (O5.out _ D0.out.below).2.2.below).mono ?_); rintro e y1 ⟨a6, b6, c6, d6, rfl, ho1, ho2, hb⟩; have r1 := Lib.hid ho1.ints; have r2 := Lib.hid ho2.ints; have D1 := Lib.hid (D0.out.call hb); have Q1 := Lib.hid (O5.out _ D1.out.below).1; clear hb ho1 ho2)
      | ((with_reducible refine (HEq.out a5 b5 a6 b6 c5 d5 c6 d6 _ (O5.out _ D1.out.below).2.1.1.ints (O5.out _ D1.out.below).2.1.2.ints r1.out r2.out).mono ?_); rintro e y2 ⟨rfl, hb⟩; have D2 := Lib.hid (D1.out.call hb); have Q2 := Lib.hid (O5.out _ D2.out.below).1; clear hb)
      | ((with_reducible refine (HVg.out a5 b5 c5 d5 _ (O5.out _ D2.out.below).2.1.1.ints (O5.out _ D2.out.below).2.1.2.ints).mono ?_); rintro e y3 ⟨rfl, hb⟩; have D3 := Lib.hid (D2.out.call hb); have Q3 := Lib.hid (O5.out _ D3.out.below).1; clear hb)
      | ((with_reducible refine (HCg.out a5 b5 c5 d5 _ (O5.out _ D3.out.below).2.1.1.ints (O5.out _ D3.out.below).2.1.2.ints).mono ?_); rintro e y4 ⟨rfl, hb⟩; have D4 := Lib.hid (D3.out.call hb); have Q4 := Lib.hid (O5.out _ D4.out.below).1; clear hb)
      | ((with_reducible refine (HCa.out _ (O5.out _ D4.out.below).2.2.below).mono ?_); rintro e y5 ⟨rfl, hb⟩; have D5 := Lib.hid (D4.out.call hb); have Q5 := Lib.hid (O5.out _ D5.out.below).1; clear hb)
      | ((with_reducible refine (HCb.out _ (O5.out _ D5.out.below).2.2.below).mono ?_); rintro e y6 ⟨rfl, hb⟩; have D6 := Lib.hid (D5.out.call hb); have Q6 := Lib.hid (O5.out _ D6.out.below).1; clear hb))
  obtain ⟨m8, hm8, hm7, hmt⟩ : ∃ m8 : Nat, u % 8 = (m8 : Int) ∧ m8 ≤ 7 ∧ u.tmod 8 = (m8 : Int) := ⟨(u % 8).toNat, by omega, by omega, by rw [Int.tmod_eq_emod_of_nonneg hu0]; omega⟩
  have HF := Lib.hid (O5.out _ D6.out.below)
  clear Q0 Q1 Q2 Q3 Q4 Q5 Q6 hq0 D0 D1 D2 D3 D4 D5 r1 r2 HRs HEq HVg HCg HCa HCb HRa HRb
  go_wp2_with fail
  go_loopg [67] m8 (fun g v wr => ∃ (i : Nat) (T V : List Int) (K : Int) (a b : Option Addr) (n c m d : Nat), i ≤ m8 ∧ g = m8 - i ∧ v = .int .u8 i ∧ Hid (n = T.length ∧ m = V.length) ∧ n ≤ 64 ∧ m ≤ 256 ∧ 0 ≤ K ∧ K ≤ 64 ∧ vldB T V K = true ∧ Own wr w.heap.size 3 a c (ints T) ∧ Own wr w.heap.size 3 b d (ints V) ∧ HH w wr [(w.heap.size, rowO 24 [.slice aSa na cSa, .slice aMa ma cMa, .int .i64 La]), (w.heap.size + 1, rowO 24 [.slice aSb nb cSb, .slice aMb mb cMb, .int .i64 Lb]), (q5, rowO 24 [.slice a n c, .slice b m d, .int .i64 K])] [])
  case atStart =>
    have h := HBd.out _ _ _ HG0.out
    rw [← HN0.out.1, ← HN0.out.2] at h
    exact ⟨0, T0, V0, K0, a5, b5, n0, c5, m0, d5, Nat.zero_le _, rfl, rfl, Lib.hid HN0.out, h.1, h.2.2.2, h.2.1, h.2.2.1, HG0.out, HF.out.2.1.1, HF.out.2.1.2, HF.out.2.2⟩
  case round =>
    obtain ⟨i, T, V, K, a, b, n, c, m, d, hi, rfl, rfl, HNm, hn64, hm256, hk0, hk64, hvT, ho1, ho2, hh⟩ := hrel
    have Hh := Lib.hid hh
    have Ho := Lib.hid (And.intro ho1 ho2)
    have Hv := Lib.hid hvT
    clear hh ho1 ho2 hvT HF D6 O5
    by_cases him : i < m8
    · have k10 := Hh.out.cell (k := 1) (i := 0) rfl rfl
      have k11 := Hh.out.cell (k := 1) (i := 1) rfl rfl
      have k12 := Hh.out.cell (k := 1) (i := 2) rfl rfl
      have k20 := Hh.out.cell (k := 2) (i := 0) rfl rfl
      have k21 := Hh.out.cell (k := 2) (i := 1) rfl rfl
      have k22 := Hh.out.cell (k := 2) (i := 2) rfl rfl
      go_wp2_with fail
      clear k10 k11 k12 k20 k21 k22
      by_cases hfull : 64 < T.length + nb ∨ 64 < K + Lb
      · have HC := Lib.hid (HFull.out T V K a b c d wr Hv.out hfull Ho.out.1.ints Ho.out.2.ints Hh.out.below)
        rw [← HNm.out.1, ← HNm.out.2] at HC
        rw [← HNm.out.1] at hfull
        refine HC.out.mono ?_
        rintro e w9 ⟨rfl, hb⟩
        have H9 := Lib.hid ((Hh.out.call hb).alloc #[.slice none 0 0, .slice none 0 0, .int .i64 0] 24 (b := w9.heap.size) rfl rfl)
        clear hb HC Hh
        go_upto_region 13 with fail
        generalize w9.alloc (.cells #[.slice none 0 0, .slice none 0 0, .int .i64 0] 24) = v9 at *
        generalize w9.heap.size = q9 at *
        have k10 := H9.out.cell (k := 1) (i := 0) rfl rfl
        have k12 := H9.out.cell (k := 1) (i := 2) rfl rfl
        have k20 := H9.out.cell (k := 2) (i := 0) rfl rfl
        have k22 := H9.out.cell (k := 2) (i := 2) rfl rfl
        have k30 := H9.out.cell (k := 3) (i := 0) rfl rfl
        have k31 := H9.out.cell (k := 3) (i := 1) rfl rfl
        have k32 := H9.out.cell (k := 3) (i := 2) rfl rfl
        have wk : wrap64 (K + Lb) = K + Lb := wrap_mid (by omega) (by omega)
        by_cases g : 64 < n + nb
        · have t1 : decide (64 < (n : Int) + (nb : Int)) = true := decide_eq_true (by omega)
          clear hfull g
          go_wp2_with fail
          refine (HEZ.out _).mono ?_
          rintro e wz ⟨rfl, hb⟩
          have Hz := Lib.hid (H9.out.call hb)
          clear hb
          go_wp2_with fail
          go_ret
          exact ⟨rfl, Hz.out.below⟩
        · have t1 : decide (64 < (n : Int) + (nb : Int)) = false := decide_eq_false (by omega)
          have t2 : decide (64 < K + Lb) = true := decide_eq_true (hfull.resolve_left g)
          clear hfull g
          go_wp2_with fail
          refine (HEZ.out _).mono ?_
          rintro e wz ⟨rfl, hb⟩
          have Hz := Lib.hid (H9.out.call hb)
          clear hb
          go_wp2_with fail
          go_ret
          exact ⟨rfl, Hz.out.below⟩
      · have h1 : T.length + nb ≤ 64 := by omega
        have h2 : K + Lb ≤ 64 := by omega
        have Hv2 := Lib.hid (HVr.out T V K Hv.out h1 h2)
        have HC := Lib.hid (HRound.out T V K a b c d wr Hv.out h1 h2 Ho.out.1.ints Ho.out.2.ints Hh.out.below)
        have hb2 := HBd.out _ _ _ Hv2.out
        obtain ⟨n9, hn9⟩ : ∃ n9, n9 = (T ++ Sb).length := ⟨_, rfl⟩
        obtain ⟨m9, hm9⟩ : ∃ m9, m9 = (uniM V Mb).length := ⟨_, rfl⟩
        have HN9 := Lib.hid (And.intro hn9 hm9)
        rw [← hn9, ← hm9] at HC hb2
        rw [← HNm.out.1, ← HNm.out.2] at HC
        rw [← HNm.out.1] at h1
        clear hn9 hm9 hfull
        obtain ⟨hb21, hb22, hb23, hb24⟩ := hb2
        refine HC.out.mono ?_
        rintro e w9 ⟨a9, b9, c9, d9, rfl, ho1, ho2, hb⟩
        have H9 := Lib.hid ((Hh.out.call hb).alloc #[.slice a9 n9 c9, .slice b9 m9 d9, .int .i64 (K + Lb)] 24 (b := w9.heap.size) rfl rfl)
        have o1 := Lib.hid ((ho1.mono Hh.out.below.size).alloc (.cells #[.slice a9 n9 c9, .slice b9 m9 d9, .int .i64 (K + Lb)] 24))
        have o2 := Lib.hid ((ho2.mono Hh.out.below.size).alloc (.cells #[.slice a9 n9 c9, .slice b9 m9 d9, .int .i64 (K + Lb)] 24))
        clear hb HC Hh ho1 ho2 Ho
        go_upto_region 13 with fail
        generalize w9.alloc (.cells #[.slice a9 n9 c9, .slice b9 m9 d9, .int .i64 (K + Lb)] 24) = v9 at *
        generalize w9.heap.size = q9 at *
        have k10 := H9.out.cell (k := 1) (i := 0) rfl rfl
        have k12 := H9.out.cell (k := 1) (i := 2) rfl rfl
        have k20 := H9.out.cell (k := 2) (i := 0) rfl rfl
        have k21 := H9.out.cell (k := 2) (i := 1) rfl rfl
        have k22 := H9.out.cell (k := 2) (i := 2) rfl rfl
        have k30 := H9.out.cell (k := 3) (i := 0) rfl rfl
        have k31 := H9.out.cell (k := 3) (i := 1) rfl rfl
        have k32 := H9.out.cell (k := 3) (i := 2) rfl rfl
        have f0 := H9.out.frozen (k := 2) rfl 0
        have f1 := H9.out.frozen (k := 2) rfl 1
        have f2 := H9.out.frozen (k := 2) rfl 2
        have hr := H9.out.row (k := 2) rfl
        have p1 := Lib.hid (((o1.out.setOther hr (by decide) 0 (.slice a9 n9 c9)).setOther ((H9.out.set (k := 2) rfl 0 (.slice a9 n9 c9)).row (k := 2) rfl) (by decide) 1 (.slice b9 m9 d9)).setOther (((H9.out.set (k := 2) rfl 0 (.slice a9 n9 c9)).set (k := 2) rfl 1 (.slice b9 m9 d9)).row (k := 2) rfl) (by decide) 2 (.int .i64 (K + Lb)))
        have p2 := Lib.hid (((o2.out.setOther hr (by decide) 0 (.slice a9 n9 c9)).setOther ((H9.out.set (k := 2) rfl 0 (.slice a9 n9 c9)).row (k := 2) rfl) (by decide) 1 (.slice b9 m9 d9)).setOther (((H9.out.set (k := 2) rfl 0 (.slice a9 n9 c9)).set (k := 2) rfl 1 (.slice b9 m9 d9)).row (k := 2) rfl) (by decide) 2 (.int .i64 (K + Lb)))
        have HX := Lib.hid ((((H9.out.set (k := 2) rfl 0 (.slice a9 n9 c9)).set (k := 2) rfl 1 (.slice b9 m9 d9)).set (k := 2) rfl 2 (.int .i64 (K + Lb))).forgetK (l' := [(w.heap.size, rowO 24 [.slice aSa na cSa, .slice aMa ma cMa, .int .i64 La]), (w.heap.size + 1, rowO 24 [.slice aSb nb cSb, .slice aMb mb cMb, .int .i64 Lb]), (q5, rowO 24 [.slice a9 n9 c9, .slice b9 m9 d9, .int .i64 (K + Lb)])]) (List.Sublist.cons_cons _ (List.Sublist.cons_cons _ (List.Sublist.cons_cons _ (List.nil_sublist _)))))
        have wk : wrap64 (K + Lb) = K + Lb := wrap_mid (by omega) (by omega)
        have t1 : decide (64 < (n : Int) + (nb : Int)) = false := decide_eq_false (by omega)
        have t2 : decide (64 < K + Lb) = false := decide_eq_false (by omega)
        clear hr o1 o2
        go_wp2_with fail
        go_roundg (m8 - (i + 1))
        case measure => omega
        case rel => exact ⟨i + 1, T ++ Sb, uniM V Mb, K + Lb, a9, b9, n9, c9, m9, d9, by omega, rfl, by go_num, Lib.hid HN9.out, by omega, by omega, by omega, by omega, Hv2.out, p1.out, p2.out, HX.out⟩
    · obtain rfl : i = m8 := by omega
      go_wp2_with fail
      go_ret
      exact ⟨rfl, Hh.out.below⟩
theorem luni_any (Sa Ma : List Int) (La : Int) (aSa aMa : Option Addr) (cSa cMa : Nat) (Sb Mb : List Int) (Lb : Int) (aSb aMb : Option Addr) (cSb cMb : Nat) (u : Int) (w : World) (_ : Sa.length ≤ maxLen) (_ : Ma.length ≤ maxLen) (_ : (Lit.int .i64 La).wf = true) (hSa : IntsAt w aSa Sa) (hMa : IntsAt w aMa Ma) (_ : Sb.length ≤ maxLen) (_ : Mb.length ≤ maxLen) (_ : (Lit.int .i64 Lb).wf = true) (hSb : IntsAt w aSb Sb) (hMb : IntsAt w aMb Mb) (hu : (Lit.int .u8 u).wf = true) :
    Calls Try.prog 11 #[.agg #[.slice aSa Sa.length cSa, .slice aMa Ma.length cMa, .int .i64 La], .agg #[.slice aSb Sb.length cSb, .slice aMb Mb.length cMb, .int .i64 Lb], .int .u8 u] w fun e w' => e = .returned (.bool true) ∧ Below w.heap.size w w' := by
  cases hga : greatB Sa Ma La
  · cases hgb : greatB Sb Mb Lb
    · cases hva : vldB Sa Ma La
      · exact luni_na Sa Ma La aSa aMa cSa cMa Sb Mb Lb aSb aMb cSb cMb u w hga hgb hva hSa hMa hSb hMb
      · cases hvb : vldB Sb Mb Lb
        · exact luni_nb Sa Ma La aSa aMa cSa cMa Sb Mb Lb aSb aMb cSb cMb u w hga hgb hva hvb hSa hMa hSb hMb
        · have h : 0 ≤ u ∧ u ≤ 255 := by
            have h := (Lit.wf_int_iff .u8 u).1 hu
            exact ⟨h.1, h.2⟩
          exact luni_yes Sa Ma La aSa aMa cSa cMa Sb Mb Lb aSb aMb cSb cMb u w hga hgb hva hvb h.1 h.2 hSa hMa hSb hMb
    · exact luni_gb Sa Ma La aSa aMa cSa cMa Sb Mb Lb aSb aMb cSb cMb u w hga hgb
  · exact luni_ga Sa Ma La aSa aMa cSa cMa Sb Mb Lb aSb aMb cSb cMb u w hga
end Go.Proofs.Ytmjoijfafachhaa
