/- The walk of the law ConnectSums. -/
import Derived.Test.YtmjoijfafachhaaRSumW
import Derived.Test.YtmjoijfafachhaaSumD
import Derived.Test.YtmjoijfafachhaaEqlW
import Derived.Test.YtmjoijfafachhaaRefValidW
import Derived.Test.YtmjoijfafachhaaGreatW
import Derived.Test.YtmjoijfafachhaaAwkW
import Derived.Deep.RegionHeld3
namespace Go.Proofs.Ytmjoijfafachhaa
open Go Go.RowKit
theorem comps_of {S M : List Int} {L : Int} (hv : vldB S M L = true) : compsN S M L = ((leasts S M).length : Int) + L := by
  unfold compsN
  rw [if_pos hv, strandsL_leasts hv, List.length_map]
theorem eqD_same (S M : List Int) (L : Int) : eqD S M L S M L = true := by unfold eqD; simp
theorem comps_uni {Sa Ma Sb Mb : List Int} {La Lb K : Int} (hva : vldB Sa Ma La = true) (hvb : vldB Sb Mb Lb = true) (hn : Sa.length + Sb.length ≤ 64) (h0 : 0 ≤ K) (h64 : K ≤ 64) : compsN (Sa ++ Sb) (uniM Ma Mb) K + La + Lb = compsN Sa Ma La + compsN Sb Mb Lb + K := by
  rw [comps_of hva, comps_of hvb, comps_of (uni_valid hva hvb hn h0 h64), uni_leasts hva hvb hn h0 h64]; omega
theorem sum_good {Sa Ma Sb Mb : List Int} {La Lb : Int} (hva : vldB Sa Ma La = true) (hvb : vldB Sb Mb Lb = true) (hn : Sa.length + Sb.length ≤ 64) (h64 : La + Lb ≤ 64) {x y : Nat} (hx : x < 4 * Sa.length) (hy : y < 4 * Sb.length) (hox : outB Sa x = true) (hoy : outB Sb y = true) :
    vldB (Sa ++ Sb) (crossL (uniM Ma Mb) x (Ma.length + y)) (La + Lb) = true ∧ compsN (Sa ++ Sb) (crossL (uniM Ma Mb) x (Ma.length + y)) (La + Lb) = compsN Sa Ma La + compsN Sb Mb Lb - 1 := by
  have hsa := vldB_shape hva
  have hsb := vldB_shape hvb
  have h0 : 0 ≤ La + Lb := by have := hsa.lo; have := hsb.lo; omega
  have hu := uni_valid hva hvb hn h0 h64
  have hl := hsa.len
  have hlen : (Sa ++ Sb).length = Sa.length + Sb.length := List.length_append
  have hX : x < 4 * (Sa ++ Sb).length := by omega
  have hY : Ma.length + y < 4 * (Sa ++ Sb).length := by omega
  have o1 : outB (Sa ++ Sb) x = true := by rw [(uni_left hva hvb x hx).2]; exact hox
  have o2 : outB (Sa ++ Sb) (Ma.length + y) = true := by rw [hl, (uni_right hva hvb y hy).2]; exact hoy
  have hno : ¬ Conn (uniM Ma Mb) (x / 4) ((Ma.length + y) / 4) := uni_apart hva hvb (by omega) (by omega)
  have hj := join_sph hu hX hY o1 o2 hno
  have hc := join_conn hu hX hY o1 o2 hno
  refine ⟨hj.1, ?_⟩
  have hul := uni_leasts hva hvb hn h0 h64
  rw [comps_of hj.1, comps_of hva, comps_of hvb]
  have := hc.2
  omega
set_option maxRecDepth 100000 in
set_option maxHeartbeats 1000000 in
theorem lsum_ga (Sa Ma : List Int) (La : Int) (aSa aMa : Option Addr) (cSa cMa : Nat) (x : Int) (Sb Mb : List Int) (Lb : Int) (aSb aMb : Option Addr) (cSb cMb : Nat) (y : Int) (w : World) (hga : greatB Sa Ma La = true) :
    Calls Try.prog 9 #[.agg #[.slice aSa Sa.length cSa, .slice aMa Ma.length cMa, .int .i64 La], .int .i64 x, .agg #[.slice aSb Sb.length cSb, .slice aMb Mb.length cMb, .int .i64 Lb], .int .i64 y] w fun e w' => e = .returned (.bool true) ∧ Below w.heap.size w w' := by
  have HGa : Hid (∀ W', Calls Try.prog 13 #[.agg #[.slice aSa Sa.length cSa, .slice aMa Ma.length cMa, .int .i64 La]] W' fun e w' => e = .returned (.bool true) ∧ Below W'.heap.size W' w') := Lib.hid fun W' => by
    have g := great_any Sa Ma La aSa aMa cSa cMa W'
    rw [hga] at g; exact g
  have H0 := Lib.hid (((HH.start w).alloc #[.slice aSa Sa.length cSa, .slice aMa Ma.length cMa, .int .i64 La] 24 rfl rfl).alloc #[.slice aSb Sb.length cSb, .slice aMb Mb.length cMb, .int .i64 Lb] 24 (b := w.heap.size + 1) (by simp) rfl)
  clear hga
  go_enter Try.func9, Try.ntmps9
  go_wp2_with fail
  refine (awake_any _).mono ?_
  rintro e w1 ⟨rfl, hb⟩
  have H1 := Lib.hid (H0.out.call hb)
  clear hb H0 
  have k00 := H1.out.cell (k := 0) (i := 0) rfl rfl
  have k01 := H1.out.cell (k := 0) (i := 1) rfl rfl
  have k02 := H1.out.cell (k := 0) (i := 2) rfl rfl
  have k10 := H1.out.cell (k := 1) (i := 0) rfl rfl
  have k11 := H1.out.cell (k := 1) (i := 1) rfl rfl
  have k12 := H1.out.cell (k := 1) (i := 2) rfl rfl
  go_wp2_with fail
  clear k00 k01 k02 k10 k11 k12
  refine (HGa.out _).mono ?_
  rintro e w2 ⟨rfl, hb⟩
  have H2 := Lib.hid (H1.out.call hb)
  clear hb H1 
  go_wp2_with fail
  go_ret
  exact ⟨rfl, H2.out.below⟩
set_option maxRecDepth 100000 in
set_option maxHeartbeats 1000000 in
theorem lsum_gb (Sa Ma : List Int) (La : Int) (aSa aMa : Option Addr) (cSa cMa : Nat) (x : Int) (Sb Mb : List Int) (Lb : Int) (aSb aMb : Option Addr) (cSb cMb : Nat) (y : Int) (w : World) (hga : greatB Sa Ma La = false) (hgb : greatB Sb Mb Lb = true) :
    Calls Try.prog 9 #[.agg #[.slice aSa Sa.length cSa, .slice aMa Ma.length cMa, .int .i64 La], .int .i64 x, .agg #[.slice aSb Sb.length cSb, .slice aMb Mb.length cMb, .int .i64 Lb], .int .i64 y] w fun e w' => e = .returned (.bool true) ∧ Below w.heap.size w w' := by
  have HGa : Hid (∀ W', Calls Try.prog 13 #[.agg #[.slice aSa Sa.length cSa, .slice aMa Ma.length cMa, .int .i64 La]] W' fun e w' => e = .returned (.bool false) ∧ Below W'.heap.size W' w') := Lib.hid fun W' => by
    have g := great_any Sa Ma La aSa aMa cSa cMa W'
    rw [hga] at g; exact g
  have HGb : Hid (∀ W', Calls Try.prog 13 #[.agg #[.slice aSb Sb.length cSb, .slice aMb Mb.length cMb, .int .i64 Lb]] W' fun e w' => e = .returned (.bool true) ∧ Below W'.heap.size W' w') := Lib.hid fun W' => by
    have g := great_any Sb Mb Lb aSb aMb cSb cMb W'
    rw [hgb] at g; exact g
  have H0 := Lib.hid (((HH.start w).alloc #[.slice aSa Sa.length cSa, .slice aMa Ma.length cMa, .int .i64 La] 24 rfl rfl).alloc #[.slice aSb Sb.length cSb, .slice aMb Mb.length cMb, .int .i64 Lb] 24 (b := w.heap.size + 1) (by simp) rfl)
  clear hga hgb
  go_enter Try.func9, Try.ntmps9
  go_wp2_with fail
  refine (awake_any _).mono ?_
  rintro e w1 ⟨rfl, hb⟩
  have H1 := Lib.hid (H0.out.call hb)
  clear hb H0 
  have k00 := H1.out.cell (k := 0) (i := 0) rfl rfl
  have k01 := H1.out.cell (k := 0) (i := 1) rfl rfl
  have k02 := H1.out.cell (k := 0) (i := 2) rfl rfl
  have k10 := H1.out.cell (k := 1) (i := 0) rfl rfl
  have k11 := H1.out.cell (k := 1) (i := 1) rfl rfl
  have k12 := H1.out.cell (k := 1) (i := 2) rfl rfl
  go_wp2_with fail
  clear k00 k01 k02 k10 k11 k12
  refine (HGa.out _).mono ?_
  rintro e w2 ⟨rfl, hb⟩
  have H2 := Lib.hid (H1.out.call hb)
  clear hb H1 
  have k00 := H2.out.cell (k := 0) (i := 0) rfl rfl
  have k01 := H2.out.cell (k := 0) (i := 1) rfl rfl
  have k02 := H2.out.cell (k := 0) (i := 2) rfl rfl
  have k10 := H2.out.cell (k := 1) (i := 0) rfl rfl
  have k11 := H2.out.cell (k := 1) (i := 1) rfl rfl
  have k12 := H2.out.cell (k := 1) (i := 2) rfl rfl
  go_wp2_with fail
  clear k00 k01 k02 k10 k11 k12
  refine (HGb.out _).mono ?_
  rintro e w3 ⟨rfl, hb⟩
  have H3 := Lib.hid (H2.out.call hb)
  clear hb H2 
  go_wp2_with fail
  go_ret
  exact ⟨rfl, H3.out.below⟩
set_option maxRecDepth 100000 in
set_option maxHeartbeats 1000000 in
theorem lsum_aa (Sa Ma : List Int) (La : Int) (aSa aMa : Option Addr) (cSa cMa : Nat) (x : Int) (Sb Mb : List Int) (Lb : Int) (aSb aMb : Option Addr) (cSb cMb : Nat) (y : Int) (w : World) (hga : greatB Sa Ma La = false) (hgb : greatB Sb Mb Lb = false) (hva : vldB Sa Ma La = false) (hSa : IntsAt w aSa Sa) (hMa : IntsAt w aMa Ma) (hSb : IntsAt w aSb Sb) (hMb : IntsAt w aMb Mb) :
    Calls Try.prog 9 #[.agg #[.slice aSa Sa.length cSa, .slice aMa Ma.length cMa, .int .i64 La], .int .i64 x, .agg #[.slice aSb Sb.length cSb, .slice aMb Mb.length cMb, .int .i64 Lb], .int .i64 y] w fun e w' => e = .returned (.bool true) ∧ Below w.heap.size w w' := by
  obtain ⟨hga1, hga2⟩ := greatB_no hga
  obtain ⟨hgb1, hgb2⟩ := greatB_no hgb
  have HGa : Hid (∀ W', Calls Try.prog 13 #[.agg #[.slice aSa Sa.length cSa, .slice aMa Ma.length cMa, .int .i64 La]] W' fun e w' => e = .returned (.bool false) ∧ Below W'.heap.size W' w') := Lib.hid fun W' => by
    have g := great_any Sa Ma La aSa aMa cSa cMa W'
    rw [hga] at g; exact g
  have HGb : Hid (∀ W', Calls Try.prog 13 #[.agg #[.slice aSb Sb.length cSb, .slice aMb Mb.length cMb, .int .i64 Lb]] W' fun e w' => e = .returned (.bool false) ∧ Below W'.heap.size W' w') := Lib.hid fun W' => by
    have g := great_any Sb Mb Lb aSb aMb cSb cMb W'
    rw [hgb] at g; exact g
  have HEZ : Hid (∀ W', Calls Try.prog 24 #[.agg #[.slice none 0 0, .slice none 0 0, .int .i64 0], .agg #[.slice none 0 0, .slice none 0 0, .int .i64 0]] W' fun e w' => e = .returned (.bool true) ∧ Below W'.heap.size W' w') := Lib.hid fun W' => equalR_any [] [] [] [] 0 0 none none none none 0 0 0 0 W' (by decide) (by decide) (IntsAt.nil _ _) (IntsAt.nil _ _) (IntsAt.nil _ _) (IntsAt.nil _ _)
  have HSum : Hid (∀ W', Below w.heap.size w W' → Calls Try.prog 32 #[.agg #[.slice aSa Sa.length cSa, .slice aMa Ma.length cMa, .int .i64 La], .int .i64 x, .agg #[.slice aSb Sb.length cSb, .slice aMb Mb.length cMb, .int .i64 Lb], .int .i64 y] W' fun e w' => e = .returned (.tuple #[.agg #[.slice none 0 0, .slice none 0 0, .int .i64 0], .int .i64 1]) ∧ Below W'.heap.size W' w') := Lib.hid fun W' h => sum_arg_a Sa Ma La aSa aMa cSa cMa Sb Mb Lb aSb aMb cSb cMb x y W' (by omega) (by omega) (by omega) (by omega) hva (hSa.later h) (hMa.later h) (hSb.later h) (hMb.later h)
  have HRa : Hid (∀ W', Below w.heap.size w W' → Calls Try.prog 15 #[.agg #[.slice aSa Sa.length cSa, .slice aMa Ma.length cMa, .int .i64 La]] W' fun e w' => e = .returned (.bool false) ∧ Below W'.heap.size W' w') := Lib.hid fun W' h => by
    have g := rvalid_any Sa Ma La aSa aMa cSa cMa W' (by omega) (by omega) (hSa.later h) (hMa.later h)
    rw [hva] at g; exact g
  have H0 := Lib.hid (((HH.start w).alloc #[.slice aSa Sa.length cSa, .slice aMa Ma.length cMa, .int .i64 La] 24 rfl rfl).alloc #[.slice aSb Sb.length cSb, .slice aMb Mb.length cMb, .int .i64 Lb] 24 (b := w.heap.size + 1) (by simp) rfl)
  clear hga hgb hva hSa hMa hSb hMb
  generalize Sa.length = na at *
  generalize Sb.length = nb at *
  generalize Ma.length = ma at *
  generalize Mb.length = mb at *
  go_enter Try.func9, Try.ntmps9
  go_wp2_with fail
  refine (awake_any _).mono ?_
  rintro e w1 ⟨rfl, hb⟩
  have H1 := Lib.hid (H0.out.call hb)
  clear hb H0 
  have k00 := H1.out.cell (k := 0) (i := 0) rfl rfl
  have k01 := H1.out.cell (k := 0) (i := 1) rfl rfl
  have k02 := H1.out.cell (k := 0) (i := 2) rfl rfl
  have k10 := H1.out.cell (k := 1) (i := 0) rfl rfl
  have k11 := H1.out.cell (k := 1) (i := 1) rfl rfl
  have k12 := H1.out.cell (k := 1) (i := 2) rfl rfl
  go_wp2_with fail
  clear k00 k01 k02 k10 k11 k12
  refine (HGa.out _).mono ?_
  rintro e w2 ⟨rfl, hb⟩
  have H2 := Lib.hid (H1.out.call hb)
  clear hb H1 
  have k00 := H2.out.cell (k := 0) (i := 0) rfl rfl
  have k01 := H2.out.cell (k := 0) (i := 1) rfl rfl
  have k02 := H2.out.cell (k := 0) (i := 2) rfl rfl
  have k10 := H2.out.cell (k := 1) (i := 0) rfl rfl
  have k11 := H2.out.cell (k := 1) (i := 1) rfl rfl
  have k12 := H2.out.cell (k := 1) (i := 2) rfl rfl
  go_wp2_with fail
  clear k00 k01 k02 k10 k11 k12
  refine (HGb.out _).mono ?_
  rintro e w3 ⟨rfl, hb⟩
  have H3 := Lib.hid (H2.out.call hb)
  clear hb H2 
  have k00 := H3.out.cell (k := 0) (i := 0) rfl rfl
  have k01 := H3.out.cell (k := 0) (i := 1) rfl rfl
  have k02 := H3.out.cell (k := 0) (i := 2) rfl rfl
  have k10 := H3.out.cell (k := 1) (i := 0) rfl rfl
  have k11 := H3.out.cell (k := 1) (i := 1) rfl rfl
  have k12 := H3.out.cell (k := 1) (i := 2) rfl rfl
  go_wp2_with fail
  clear k00 k01 k02 k10 k11 k12
  refine (HSum.out _ H3.out.below).mono ?_
  rintro e w4 ⟨rfl, hb⟩
  have H4 := Lib.hid ((H3.out.call hb).alloc #[.slice none 0 0, .slice none 0 0, .int .i64 0] 24 (b := w4.heap.size) rfl rfl)
  clear hb H3 HSum
  go_upto_region 6 with fail
  generalize w4.alloc (.cells #[.slice none 0 0, .slice none 0 0, .int .i64 0] 24) = v4 at *
  generalize w4.heap.size = q4 at *
  have k00 := H4.out.cell (k := 0) (i := 0) rfl rfl
  have k01 := H4.out.cell (k := 0) (i := 1) rfl rfl
  have k02 := H4.out.cell (k := 0) (i := 2) rfl rfl
  have k10 := H4.out.cell (k := 1) (i := 0) rfl rfl
  have k11 := H4.out.cell (k := 1) (i := 1) rfl rfl
  have k12 := H4.out.cell (k := 1) (i := 2) rfl rfl
  have k20 := H4.out.cell (k := 2) (i := 0) rfl rfl
  have k21 := H4.out.cell (k := 2) (i := 1) rfl rfl
  have k22 := H4.out.cell (k := 2) (i := 2) rfl rfl
  go_wp2_with fail
  clear k00 k01 k02 k10 k11 k12 k20 k21 k22
  refine (HRa.out _ H4.out.below).mono ?_
  rintro e w5 ⟨rfl, hb⟩
  have H5 := Lib.hid (H4.out.call hb)
  clear hb H4 
  have k00 := H5.out.cell (k := 0) (i := 0) rfl rfl
  have k01 := H5.out.cell (k := 0) (i := 1) rfl rfl
  have k02 := H5.out.cell (k := 0) (i := 2) rfl rfl
  have k10 := H5.out.cell (k := 1) (i := 0) rfl rfl
  have k11 := H5.out.cell (k := 1) (i := 1) rfl rfl
  have k12 := H5.out.cell (k := 1) (i := 2) rfl rfl
  have k20 := H5.out.cell (k := 2) (i := 0) rfl rfl
  have k21 := H5.out.cell (k := 2) (i := 1) rfl rfl
  have k22 := H5.out.cell (k := 2) (i := 2) rfl rfl
  go_wp2_with fail
  clear k00 k01 k02 k10 k11 k12 k20 k21 k22
  refine (HEZ.out _).mono ?_
  rintro e w6 ⟨rfl, hb⟩
  have H6 := Lib.hid (H5.out.call hb)
  clear hb H5 
  go_wp2_with fail
  go_ret
  exact ⟨rfl, H6.out.below⟩
set_option maxRecDepth 100000 in
set_option maxHeartbeats 1000000 in
theorem lsum_ab (Sa Ma : List Int) (La : Int) (aSa aMa : Option Addr) (cSa cMa : Nat) (x : Int) (Sb Mb : List Int) (Lb : Int) (aSb aMb : Option Addr) (cSb cMb : Nat) (y : Int) (w : World) (hga : greatB Sa Ma La = false) (hgb : greatB Sb Mb Lb = false) (hva : vldB Sa Ma La = true) (hvb : vldB Sb Mb Lb = false) (hSa : IntsAt w aSa Sa) (hMa : IntsAt w aMa Ma) (hSb : IntsAt w aSb Sb) (hMb : IntsAt w aMb Mb) :
    Calls Try.prog 9 #[.agg #[.slice aSa Sa.length cSa, .slice aMa Ma.length cMa, .int .i64 La], .int .i64 x, .agg #[.slice aSb Sb.length cSb, .slice aMb Mb.length cMb, .int .i64 Lb], .int .i64 y] w fun e w' => e = .returned (.bool true) ∧ Below w.heap.size w w' := by
  obtain ⟨hga1, hga2⟩ := greatB_no hga
  obtain ⟨hgb1, hgb2⟩ := greatB_no hgb
  have HGa : Hid (∀ W', Calls Try.prog 13 #[.agg #[.slice aSa Sa.length cSa, .slice aMa Ma.length cMa, .int .i64 La]] W' fun e w' => e = .returned (.bool false) ∧ Below W'.heap.size W' w') := Lib.hid fun W' => by
    have g := great_any Sa Ma La aSa aMa cSa cMa W'
    rw [hga] at g; exact g
  have HGb : Hid (∀ W', Calls Try.prog 13 #[.agg #[.slice aSb Sb.length cSb, .slice aMb Mb.length cMb, .int .i64 Lb]] W' fun e w' => e = .returned (.bool false) ∧ Below W'.heap.size W' w') := Lib.hid fun W' => by
    have g := great_any Sb Mb Lb aSb aMb cSb cMb W'
    rw [hgb] at g; exact g
  have HEZ : Hid (∀ W', Calls Try.prog 24 #[.agg #[.slice none 0 0, .slice none 0 0, .int .i64 0], .agg #[.slice none 0 0, .slice none 0 0, .int .i64 0]] W' fun e w' => e = .returned (.bool true) ∧ Below W'.heap.size W' w') := Lib.hid fun W' => equalR_any [] [] [] [] 0 0 none none none none 0 0 0 0 W' (by decide) (by decide) (IntsAt.nil _ _) (IntsAt.nil _ _) (IntsAt.nil _ _) (IntsAt.nil _ _)
  have HSum : Hid (∀ W', Below w.heap.size w W' → Calls Try.prog 32 #[.agg #[.slice aSa Sa.length cSa, .slice aMa Ma.length cMa, .int .i64 La], .int .i64 x, .agg #[.slice aSb Sb.length cSb, .slice aMb Mb.length cMb, .int .i64 Lb], .int .i64 y] W' fun e w' => e = .returned (.tuple #[.agg #[.slice none 0 0, .slice none 0 0, .int .i64 0], .int .i64 1]) ∧ Below W'.heap.size W' w') := Lib.hid fun W' h => sum_arg_b Sa Ma La aSa aMa cSa cMa Sb Mb Lb aSb aMb cSb cMb x y W' (by omega) (by omega) (by omega) (by omega) hva hvb (hSa.later h) (hMa.later h) (hSb.later h) (hMb.later h)
  have HRa : Hid (∀ W', Below w.heap.size w W' → Calls Try.prog 15 #[.agg #[.slice aSa Sa.length cSa, .slice aMa Ma.length cMa, .int .i64 La]] W' fun e w' => e = .returned (.bool true) ∧ Below W'.heap.size W' w') := Lib.hid fun W' h => by
    have g := rvalid_any Sa Ma La aSa aMa cSa cMa W' (by omega) (by omega) (hSa.later h) (hMa.later h)
    rw [hva] at g; exact g
  have HRb : Hid (∀ W', Below w.heap.size w W' → Calls Try.prog 15 #[.agg #[.slice aSb Sb.length cSb, .slice aMb Mb.length cMb, .int .i64 Lb]] W' fun e w' => e = .returned (.bool false) ∧ Below W'.heap.size W' w') := Lib.hid fun W' h => by
    have g := rvalid_any Sb Mb Lb aSb aMb cSb cMb W' (by omega) (by omega) (hSb.later h) (hMb.later h)
    rw [hvb] at g; exact g
  have H0 := Lib.hid (((HH.start w).alloc #[.slice aSa Sa.length cSa, .slice aMa Ma.length cMa, .int .i64 La] 24 rfl rfl).alloc #[.slice aSb Sb.length cSb, .slice aMb Mb.length cMb, .int .i64 Lb] 24 (b := w.heap.size + 1) (by simp) rfl)
  clear hga hgb hva hvb hSa hMa hSb hMb
  generalize Sa.length = na at *
  generalize Sb.length = nb at *
  generalize Ma.length = ma at *
  generalize Mb.length = mb at *
  go_enter Try.func9, Try.ntmps9
  go_wp2_with fail
  refine (awake_any _).mono ?_
  rintro e w1 ⟨rfl, hb⟩
  have H1 := Lib.hid (H0.out.call hb)
  clear hb H0 
  have k00 := H1.out.cell (k := 0) (i := 0) rfl rfl
  have k01 := H1.out.cell (k := 0) (i := 1) rfl rfl
  have k02 := H1.out.cell (k := 0) (i := 2) rfl rfl
  have k10 := H1.out.cell (k := 1) (i := 0) rfl rfl
  have k11 := H1.out.cell (k := 1) (i := 1) rfl rfl
  have k12 := H1.out.cell (k := 1) (i := 2) rfl rfl
  go_wp2_with fail
  clear k00 k01 k02 k10 k11 k12
  refine (HGa.out _).mono ?_
  rintro e w2 ⟨rfl, hb⟩
  have H2 := Lib.hid (H1.out.call hb)
  clear hb H1 
  have k00 := H2.out.cell (k := 0) (i := 0) rfl rfl
  have k01 := H2.out.cell (k := 0) (i := 1) rfl rfl
  have k02 := H2.out.cell (k := 0) (i := 2) rfl rfl
  have k10 := H2.out.cell (k := 1) (i := 0) rfl rfl
  have k11 := H2.out.cell (k := 1) (i := 1) rfl rfl
  have k12 := H2.out.cell (k := 1) (i := 2) rfl rfl
  go_wp2_with fail
  clear k00 k01 k02 k10 k11 k12
  refine (HGb.out _).mono ?_
  rintro e w3 ⟨rfl, hb⟩
  have H3 := Lib.hid (H2.out.call hb)
  clear hb H2 
  have k00 := H3.out.cell (k := 0) (i := 0) rfl rfl
  have k01 := H3.out.cell (k := 0) (i := 1) rfl rfl
  have k02 := H3.out.cell (k := 0) (i := 2) rfl rfl
  have k10 := H3.out.cell (k := 1) (i := 0) rfl rfl
  have k11 := H3.out.cell (k := 1) (i := 1) rfl rfl
  have k12 := H3.out.cell (k := 1) (i := 2) rfl rfl
  go_wp2_with fail
  clear k00 k01 k02 k10 k11 k12
  refine (HSum.out _ H3.out.below).mono ?_
  rintro e w4 ⟨rfl, hb⟩
  have H4 := Lib.hid ((H3.out.call hb).alloc #[.slice none 0 0, .slice none 0 0, .int .i64 0] 24 (b := w4.heap.size) rfl rfl)
  clear hb H3 HSum
  go_upto_region 6 with fail
  generalize w4.alloc (.cells #[.slice none 0 0, .slice none 0 0, .int .i64 0] 24) = v4 at *
  generalize w4.heap.size = q4 at *
  have k00 := H4.out.cell (k := 0) (i := 0) rfl rfl
  have k01 := H4.out.cell (k := 0) (i := 1) rfl rfl
  have k02 := H4.out.cell (k := 0) (i := 2) rfl rfl
  have k10 := H4.out.cell (k := 1) (i := 0) rfl rfl
  have k11 := H4.out.cell (k := 1) (i := 1) rfl rfl
  have k12 := H4.out.cell (k := 1) (i := 2) rfl rfl
  have k20 := H4.out.cell (k := 2) (i := 0) rfl rfl
  have k21 := H4.out.cell (k := 2) (i := 1) rfl rfl
  have k22 := H4.out.cell (k := 2) (i := 2) rfl rfl
  go_wp2_with fail
  clear k00 k01 k02 k10 k11 k12 k20 k21 k22
  refine (HRa.out _ H4.out.below).mono ?_
  rintro e w5 ⟨rfl, hb⟩
  have H5 := Lib.hid (H4.out.call hb)
  clear hb H4 
  have k00 := H5.out.cell (k := 0) (i := 0) rfl rfl
  have k01 := H5.out.cell (k := 0) (i := 1) rfl rfl
  have k02 := H5.out.cell (k := 0) (i := 2) rfl rfl
  have k10 := H5.out.cell (k := 1) (i := 0) rfl rfl
  have k11 := H5.out.cell (k := 1) (i := 1) rfl rfl
  have k12 := H5.out.cell (k := 1) (i := 2) rfl rfl
  have k20 := H5.out.cell (k := 2) (i := 0) rfl rfl
  have k21 := H5.out.cell (k := 2) (i := 1) rfl rfl
  have k22 := H5.out.cell (k := 2) (i := 2) rfl rfl
  go_wp2_with fail
  clear k00 k01 k02 k10 k11 k12 k20 k21 k22
  refine (HRb.out _ H5.out.below).mono ?_
  rintro e w6 ⟨rfl, hb⟩
  have H6 := Lib.hid (H5.out.call hb)
  clear hb H5 
  have k00 := H6.out.cell (k := 0) (i := 0) rfl rfl
  have k01 := H6.out.cell (k := 0) (i := 1) rfl rfl
  have k02 := H6.out.cell (k := 0) (i := 2) rfl rfl
  have k10 := H6.out.cell (k := 1) (i := 0) rfl rfl
  have k11 := H6.out.cell (k := 1) (i := 1) rfl rfl
  have k12 := H6.out.cell (k := 1) (i := 2) rfl rfl
  have k20 := H6.out.cell (k := 2) (i := 0) rfl rfl
  have k21 := H6.out.cell (k := 2) (i := 1) rfl rfl
  have k22 := H6.out.cell (k := 2) (i := 2) rfl rfl
  go_wp2_with fail
  clear k00 k01 k02 k10 k11 k12 k20 k21 k22
  refine (HEZ.out _).mono ?_
  rintro e w7 ⟨rfl, hb⟩
  have H7 := Lib.hid (H6.out.call hb)
  clear hb H6 
  go_wp2_with fail
  go_ret
  exact ⟨rfl, H7.out.below⟩
set_option maxRecDepth 100000 in
set_option maxHeartbeats 1000000 in
theorem lsum_ra (Sa Ma : List Int) (La : Int) (aSa aMa : Option Addr) (cSa cMa : Nat) (x : Int) (Sb Mb : List Int) (Lb : Int) (aSb aMb : Option Addr) (cSb cMb : Nat) (y : Int) (w : World) (hga : greatB Sa Ma La = false) (hgb : greatB Sb Mb Lb = false) (hva : vldB Sa Ma La = true) (hvb : vldB Sb Mb Lb = true) (hpa : placeB Sa La x = false) (hSa : IntsAt w aSa Sa) (hMa : IntsAt w aMa Ma) (hSb : IntsAt w aSb Sb) (hMb : IntsAt w aMb Mb) :
    Calls Try.prog 9 #[.agg #[.slice aSa Sa.length cSa, .slice aMa Ma.length cMa, .int .i64 La], .int .i64 x, .agg #[.slice aSb Sb.length cSb, .slice aMb Mb.length cMb, .int .i64 Lb], .int .i64 y] w fun e w' => e = .returned (.bool true) ∧ Below w.heap.size w w' := by
  obtain ⟨hga1, hga2⟩ := greatB_no hga
  obtain ⟨hgb1, hgb2⟩ := greatB_no hgb
  have HGa : Hid (∀ W', Calls Try.prog 13 #[.agg #[.slice aSa Sa.length cSa, .slice aMa Ma.length cMa, .int .i64 La]] W' fun e w' => e = .returned (.bool false) ∧ Below W'.heap.size W' w') := Lib.hid fun W' => by
    have g := great_any Sa Ma La aSa aMa cSa cMa W'
    rw [hga] at g; exact g
  have HGb : Hid (∀ W', Calls Try.prog 13 #[.agg #[.slice aSb Sb.length cSb, .slice aMb Mb.length cMb, .int .i64 Lb]] W' fun e w' => e = .returned (.bool false) ∧ Below W'.heap.size W' w') := Lib.hid fun W' => by
    have g := great_any Sb Mb Lb aSb aMb cSb cMb W'
    rw [hgb] at g; exact g
  have HEZ : Hid (∀ W', Calls Try.prog 24 #[.agg #[.slice none 0 0, .slice none 0 0, .int .i64 0], .agg #[.slice none 0 0, .slice none 0 0, .int .i64 0]] W' fun e w' => e = .returned (.bool true) ∧ Below W'.heap.size W' w') := Lib.hid fun W' => equalR_any [] [] [] [] 0 0 none none none none 0 0 0 0 W' (by decide) (by decide) (IntsAt.nil _ _) (IntsAt.nil _ _) (IntsAt.nil _ _) (IntsAt.nil _ _)
  have hma := (vldB_shape hva).len
  have hmb := (vldB_shape hvb).len
  have HSum : Hid (∀ W', Below w.heap.size w W' → Calls Try.prog 32 #[.agg #[.slice aSa Sa.length cSa, .slice aMa Ma.length cMa, .int .i64 La], .int .i64 x, .agg #[.slice aSb Sb.length cSb, .slice aMb Mb.length cMb, .int .i64 Lb], .int .i64 y] W' fun e w' => e = .returned (.tuple #[.agg #[.slice none 0 0, .slice none 0 0, .int .i64 0], .int .i64 2]) ∧ Below W'.heap.size W' w') := Lib.hid fun W' h => sum_range_a Sa Ma La aSa aMa cSa cMa Sb Mb Lb aSb aMb cSb cMb x y W' hva hvb hpa (hSa.later h) (hMa.later h) (hSb.later h) (hMb.later h)
  have HRa : Hid (∀ W', Below w.heap.size w W' → Calls Try.prog 15 #[.agg #[.slice aSa Sa.length cSa, .slice aMa Ma.length cMa, .int .i64 La]] W' fun e w' => e = .returned (.bool true) ∧ Below W'.heap.size W' w') := Lib.hid fun W' h => by
    have g := rvalid_any Sa Ma La aSa aMa cSa cMa W' (by omega) (by omega) (hSa.later h) (hMa.later h)
    rw [hva] at g; exact g
  have HRb : Hid (∀ W', Below w.heap.size w W' → Calls Try.prog 15 #[.agg #[.slice aSb Sb.length cSb, .slice aMb Mb.length cMb, .int .i64 Lb]] W' fun e w' => e = .returned (.bool true) ∧ Below W'.heap.size W' w') := Lib.hid fun W' h => by
    have g := rvalid_any Sb Mb Lb aSb aMb cSb cMb W' (by omega) (by omega) (hSb.later h) (hMb.later h)
    rw [hvb] at g; exact g
  have HPa : Hid (∀ W', Below w.heap.size w W' → Calls Try.prog 22 #[.agg #[.slice aSa Sa.length cSa, .slice aMa Ma.length cMa, .int .i64 La], .int .i64 x] W' fun e w' => e = .returned (.bool false) ∧ Below W'.heap.size W' w') := Lib.hid fun W' h => by
    have g := place_any Sa Ma La aSa aMa cSa cMa x W' (by omega) hma (hSa.later h)
    rw [hpa] at g; exact g
  have H0 := Lib.hid (((HH.start w).alloc #[.slice aSa Sa.length cSa, .slice aMa Ma.length cMa, .int .i64 La] 24 rfl rfl).alloc #[.slice aSb Sb.length cSb, .slice aMb Mb.length cMb, .int .i64 Lb] 24 (b := w.heap.size + 1) (by simp) rfl)
  clear hga hgb hva hvb hpa hma hmb hSa hMa hSb hMb
  generalize Sa.length = na at *
  generalize Sb.length = nb at *
  generalize Ma.length = ma at *
  generalize Mb.length = mb at *
  go_enter Try.func9, Try.ntmps9
  go_wp2_with fail
  refine (awake_any _).mono ?_
  rintro e w1 ⟨rfl, hb⟩
  have H1 := Lib.hid (H0.out.call hb)
  clear hb H0 
  have k00 := H1.out.cell (k := 0) (i := 0) rfl rfl
  have k01 := H1.out.cell (k := 0) (i := 1) rfl rfl
  have k02 := H1.out.cell (k := 0) (i := 2) rfl rfl
  have k10 := H1.out.cell (k := 1) (i := 0) rfl rfl
  have k11 := H1.out.cell (k := 1) (i := 1) rfl rfl
  have k12 := H1.out.cell (k := 1) (i := 2) rfl rfl
  go_wp2_with fail
  clear k00 k01 k02 k10 k11 k12
  refine (HGa.out _).mono ?_
  rintro e w2 ⟨rfl, hb⟩
  have H2 := Lib.hid (H1.out.call hb)
  clear hb H1 
  have k00 := H2.out.cell (k := 0) (i := 0) rfl rfl
  have k01 := H2.out.cell (k := 0) (i := 1) rfl rfl
  have k02 := H2.out.cell (k := 0) (i := 2) rfl rfl
  have k10 := H2.out.cell (k := 1) (i := 0) rfl rfl
  have k11 := H2.out.cell (k := 1) (i := 1) rfl rfl
  have k12 := H2.out.cell (k := 1) (i := 2) rfl rfl
  go_wp2_with fail
  clear k00 k01 k02 k10 k11 k12
  refine (HGb.out _).mono ?_
  rintro e w3 ⟨rfl, hb⟩
  have H3 := Lib.hid (H2.out.call hb)
  clear hb H2 
  have k00 := H3.out.cell (k := 0) (i := 0) rfl rfl
  have k01 := H3.out.cell (k := 0) (i := 1) rfl rfl
  have k02 := H3.out.cell (k := 0) (i := 2) rfl rfl
  have k10 := H3.out.cell (k := 1) (i := 0) rfl rfl
  have k11 := H3.out.cell (k := 1) (i := 1) rfl rfl
  have k12 := H3.out.cell (k := 1) (i := 2) rfl rfl
  go_wp2_with fail
  clear k00 k01 k02 k10 k11 k12
  refine (HSum.out _ H3.out.below).mono ?_
  rintro e w4 ⟨rfl, hb⟩
  have H4 := Lib.hid ((H3.out.call hb).alloc #[.slice none 0 0, .slice none 0 0, .int .i64 0] 24 (b := w4.heap.size) rfl rfl)
  clear hb H3 HSum
  go_upto_region 6 with fail
  generalize w4.alloc (.cells #[.slice none 0 0, .slice none 0 0, .int .i64 0] 24) = v4 at *
  generalize w4.heap.size = q4 at *
  have k00 := H4.out.cell (k := 0) (i := 0) rfl rfl
  have k01 := H4.out.cell (k := 0) (i := 1) rfl rfl
  have k02 := H4.out.cell (k := 0) (i := 2) rfl rfl
  have k10 := H4.out.cell (k := 1) (i := 0) rfl rfl
  have k11 := H4.out.cell (k := 1) (i := 1) rfl rfl
  have k12 := H4.out.cell (k := 1) (i := 2) rfl rfl
  have k20 := H4.out.cell (k := 2) (i := 0) rfl rfl
  have k21 := H4.out.cell (k := 2) (i := 1) rfl rfl
  have k22 := H4.out.cell (k := 2) (i := 2) rfl rfl
  go_wp2_with fail
  clear k00 k01 k02 k10 k11 k12 k20 k21 k22
  refine (HRa.out _ H4.out.below).mono ?_
  rintro e w5 ⟨rfl, hb⟩
  have H5 := Lib.hid (H4.out.call hb)
  clear hb H4 
  have k00 := H5.out.cell (k := 0) (i := 0) rfl rfl
  have k01 := H5.out.cell (k := 0) (i := 1) rfl rfl
  have k02 := H5.out.cell (k := 0) (i := 2) rfl rfl
  have k10 := H5.out.cell (k := 1) (i := 0) rfl rfl
  have k11 := H5.out.cell (k := 1) (i := 1) rfl rfl
  have k12 := H5.out.cell (k := 1) (i := 2) rfl rfl
  have k20 := H5.out.cell (k := 2) (i := 0) rfl rfl
  have k21 := H5.out.cell (k := 2) (i := 1) rfl rfl
  have k22 := H5.out.cell (k := 2) (i := 2) rfl rfl
  go_wp2_with fail
  clear k00 k01 k02 k10 k11 k12 k20 k21 k22
  refine (HRb.out _ H5.out.below).mono ?_
  rintro e w6 ⟨rfl, hb⟩
  have H6 := Lib.hid (H5.out.call hb)
  clear hb H5 
  have k00 := H6.out.cell (k := 0) (i := 0) rfl rfl
  have k01 := H6.out.cell (k := 0) (i := 1) rfl rfl
  have k02 := H6.out.cell (k := 0) (i := 2) rfl rfl
  have k10 := H6.out.cell (k := 1) (i := 0) rfl rfl
  have k11 := H6.out.cell (k := 1) (i := 1) rfl rfl
  have k12 := H6.out.cell (k := 1) (i := 2) rfl rfl
  have k20 := H6.out.cell (k := 2) (i := 0) rfl rfl
  have k21 := H6.out.cell (k := 2) (i := 1) rfl rfl
  have k22 := H6.out.cell (k := 2) (i := 2) rfl rfl
  go_wp2_with fail
  clear k00 k01 k02 k10 k11 k12 k20 k21 k22
  refine (HPa.out _ H6.out.below).mono ?_
  rintro e w7 ⟨rfl, hb⟩
  have H7 := Lib.hid (H6.out.call hb)
  clear hb H6 
  have k00 := H7.out.cell (k := 0) (i := 0) rfl rfl
  have k01 := H7.out.cell (k := 0) (i := 1) rfl rfl
  have k02 := H7.out.cell (k := 0) (i := 2) rfl rfl
  have k10 := H7.out.cell (k := 1) (i := 0) rfl rfl
  have k11 := H7.out.cell (k := 1) (i := 1) rfl rfl
  have k12 := H7.out.cell (k := 1) (i := 2) rfl rfl
  have k20 := H7.out.cell (k := 2) (i := 0) rfl rfl
  have k21 := H7.out.cell (k := 2) (i := 1) rfl rfl
  have k22 := H7.out.cell (k := 2) (i := 2) rfl rfl
  go_wp2_with fail
  clear k00 k01 k02 k10 k11 k12 k20 k21 k22
  refine (HEZ.out _).mono ?_
  rintro e w8 ⟨rfl, hb⟩
  have H8 := Lib.hid (H7.out.call hb)
  clear hb H7 
  go_wp2_with fail
  go_ret
  exact ⟨rfl, H8.out.below⟩
set_option maxRecDepth 100000 in
set_option maxHeartbeats 1000000 in
theorem lsum_rb (Sa Ma : List Int) (La : Int) (aSa aMa : Option Addr) (cSa cMa : Nat) (x : Int) (Sb Mb : List Int) (Lb : Int) (aSb aMb : Option Addr) (cSb cMb : Nat) (y : Int) (w : World) (hga : greatB Sa Ma La = false) (hgb : greatB Sb Mb Lb = false) (hva : vldB Sa Ma La = true) (hvb : vldB Sb Mb Lb = true) (hpa : placeB Sa La x = true) (hpb : placeB Sb Lb y = false) (hSa : IntsAt w aSa Sa) (hMa : IntsAt w aMa Ma) (hSb : IntsAt w aSb Sb) (hMb : IntsAt w aMb Mb) :
    Calls Try.prog 9 #[.agg #[.slice aSa Sa.length cSa, .slice aMa Ma.length cMa, .int .i64 La], .int .i64 x, .agg #[.slice aSb Sb.length cSb, .slice aMb Mb.length cMb, .int .i64 Lb], .int .i64 y] w fun e w' => e = .returned (.bool true) ∧ Below w.heap.size w w' := by
  obtain ⟨hga1, hga2⟩ := greatB_no hga
  obtain ⟨hgb1, hgb2⟩ := greatB_no hgb
  have HGa : Hid (∀ W', Calls Try.prog 13 #[.agg #[.slice aSa Sa.length cSa, .slice aMa Ma.length cMa, .int .i64 La]] W' fun e w' => e = .returned (.bool false) ∧ Below W'.heap.size W' w') := Lib.hid fun W' => by
    have g := great_any Sa Ma La aSa aMa cSa cMa W'
    rw [hga] at g; exact g
  have HGb : Hid (∀ W', Calls Try.prog 13 #[.agg #[.slice aSb Sb.length cSb, .slice aMb Mb.length cMb, .int .i64 Lb]] W' fun e w' => e = .returned (.bool false) ∧ Below W'.heap.size W' w') := Lib.hid fun W' => by
    have g := great_any Sb Mb Lb aSb aMb cSb cMb W'
    rw [hgb] at g; exact g
  have HEZ : Hid (∀ W', Calls Try.prog 24 #[.agg #[.slice none 0 0, .slice none 0 0, .int .i64 0], .agg #[.slice none 0 0, .slice none 0 0, .int .i64 0]] W' fun e w' => e = .returned (.bool true) ∧ Below W'.heap.size W' w') := Lib.hid fun W' => equalR_any [] [] [] [] 0 0 none none none none 0 0 0 0 W' (by decide) (by decide) (IntsAt.nil _ _) (IntsAt.nil _ _) (IntsAt.nil _ _) (IntsAt.nil _ _)
  have hma := (vldB_shape hva).len
  have hmb := (vldB_shape hvb).len
  have HSum : Hid (∀ W', Below w.heap.size w W' → Calls Try.prog 32 #[.agg #[.slice aSa Sa.length cSa, .slice aMa Ma.length cMa, .int .i64 La], .int .i64 x, .agg #[.slice aSb Sb.length cSb, .slice aMb Mb.length cMb, .int .i64 Lb], .int .i64 y] W' fun e w' => e = .returned (.tuple #[.agg #[.slice none 0 0, .slice none 0 0, .int .i64 0], .int .i64 2]) ∧ Below W'.heap.size W' w') := Lib.hid fun W' h => sum_range_b Sa Ma La aSa aMa cSa cMa Sb Mb Lb aSb aMb cSb cMb x y W' hva hvb hpa hpb (hSa.later h) (hMa.later h) (hSb.later h) (hMb.later h)
  have HRa : Hid (∀ W', Below w.heap.size w W' → Calls Try.prog 15 #[.agg #[.slice aSa Sa.length cSa, .slice aMa Ma.length cMa, .int .i64 La]] W' fun e w' => e = .returned (.bool true) ∧ Below W'.heap.size W' w') := Lib.hid fun W' h => by
    have g := rvalid_any Sa Ma La aSa aMa cSa cMa W' (by omega) (by omega) (hSa.later h) (hMa.later h)
    rw [hva] at g; exact g
  have HRb : Hid (∀ W', Below w.heap.size w W' → Calls Try.prog 15 #[.agg #[.slice aSb Sb.length cSb, .slice aMb Mb.length cMb, .int .i64 Lb]] W' fun e w' => e = .returned (.bool true) ∧ Below W'.heap.size W' w') := Lib.hid fun W' h => by
    have g := rvalid_any Sb Mb Lb aSb aMb cSb cMb W' (by omega) (by omega) (hSb.later h) (hMb.later h)
    rw [hvb] at g; exact g
  have HPa : Hid (∀ W', Below w.heap.size w W' → Calls Try.prog 22 #[.agg #[.slice aSa Sa.length cSa, .slice aMa Ma.length cMa, .int .i64 La], .int .i64 x] W' fun e w' => e = .returned (.bool true) ∧ Below W'.heap.size W' w') := Lib.hid fun W' h => by
    have g := place_any Sa Ma La aSa aMa cSa cMa x W' (by omega) hma (hSa.later h)
    rw [hpa] at g; exact g
  have HPb : Hid (∀ W', Below w.heap.size w W' → Calls Try.prog 22 #[.agg #[.slice aSb Sb.length cSb, .slice aMb Mb.length cMb, .int .i64 Lb], .int .i64 y] W' fun e w' => e = .returned (.bool false) ∧ Below W'.heap.size W' w') := Lib.hid fun W' h => by
    have g := place_any Sb Mb Lb aSb aMb cSb cMb y W' (by omega) hmb (hSb.later h)
    rw [hpb] at g; exact g
  have H0 := Lib.hid (((HH.start w).alloc #[.slice aSa Sa.length cSa, .slice aMa Ma.length cMa, .int .i64 La] 24 rfl rfl).alloc #[.slice aSb Sb.length cSb, .slice aMb Mb.length cMb, .int .i64 Lb] 24 (b := w.heap.size + 1) (by simp) rfl)
  clear hga hgb hva hvb hpa hma hmb hpb hSa hMa hSb hMb
  generalize Sa.length = na at *
  generalize Sb.length = nb at *
  generalize Ma.length = ma at *
  generalize Mb.length = mb at *
  go_enter Try.func9, Try.ntmps9
  go_wp2_with fail
  refine (awake_any _).mono ?_
  rintro e w1 ⟨rfl, hb⟩
  have H1 := Lib.hid (H0.out.call hb)
  clear hb H0 
  have k00 := H1.out.cell (k := 0) (i := 0) rfl rfl
  have k01 := H1.out.cell (k := 0) (i := 1) rfl rfl
  have k02 := H1.out.cell (k := 0) (i := 2) rfl rfl
  have k10 := H1.out.cell (k := 1) (i := 0) rfl rfl
  have k11 := H1.out.cell (k := 1) (i := 1) rfl rfl
  have k12 := H1.out.cell (k := 1) (i := 2) rfl rfl
  go_wp2_with fail
  clear k00 k01 k02 k10 k11 k12
  refine (HGa.out _).mono ?_
  rintro e w2 ⟨rfl, hb⟩
  have H2 := Lib.hid (H1.out.call hb)
  clear hb H1 
  have k00 := H2.out.cell (k := 0) (i := 0) rfl rfl
  have k01 := H2.out.cell (k := 0) (i := 1) rfl rfl
  have k02 := H2.out.cell (k := 0) (i := 2) rfl rfl
  have k10 := H2.out.cell (k := 1) (i := 0) rfl rfl
  have k11 := H2.out.cell (k := 1) (i := 1) rfl rfl
  have k12 := H2.out.cell (k := 1) (i := 2) rfl rfl
  go_wp2_with fail
  clear k00 k01 k02 k10 k11 k12
  refine (HGb.out _).mono ?_
  rintro e w3 ⟨rfl, hb⟩
  have H3 := Lib.hid (H2.out.call hb)
  clear hb H2 
  have k00 := H3.out.cell (k := 0) (i := 0) rfl rfl
  have k01 := H3.out.cell (k := 0) (i := 1) rfl rfl
  have k02 := H3.out.cell (k := 0) (i := 2) rfl rfl
  have k10 := H3.out.cell (k := 1) (i := 0) rfl rfl
  have k11 := H3.out.cell (k := 1) (i := 1) rfl rfl
  have k12 := H3.out.cell (k := 1) (i := 2) rfl rfl
  go_wp2_with fail
  clear k00 k01 k02 k10 k11 k12
  refine (HSum.out _ H3.out.below).mono ?_
  rintro e w4 ⟨rfl, hb⟩
  have H4 := Lib.hid ((H3.out.call hb).alloc #[.slice none 0 0, .slice none 0 0, .int .i64 0] 24 (b := w4.heap.size) rfl rfl)
  clear hb H3 HSum
  go_upto_region 6 with fail
  generalize w4.alloc (.cells #[.slice none 0 0, .slice none 0 0, .int .i64 0] 24) = v4 at *
  generalize w4.heap.size = q4 at *
  have k00 := H4.out.cell (k := 0) (i := 0) rfl rfl
  have k01 := H4.out.cell (k := 0) (i := 1) rfl rfl
  have k02 := H4.out.cell (k := 0) (i := 2) rfl rfl
  have k10 := H4.out.cell (k := 1) (i := 0) rfl rfl
  have k11 := H4.out.cell (k := 1) (i := 1) rfl rfl
  have k12 := H4.out.cell (k := 1) (i := 2) rfl rfl
  have k20 := H4.out.cell (k := 2) (i := 0) rfl rfl
  have k21 := H4.out.cell (k := 2) (i := 1) rfl rfl
  have k22 := H4.out.cell (k := 2) (i := 2) rfl rfl
  go_wp2_with fail
  clear k00 k01 k02 k10 k11 k12 k20 k21 k22
  refine (HRa.out _ H4.out.below).mono ?_
  rintro e w5 ⟨rfl, hb⟩
  have H5 := Lib.hid (H4.out.call hb)
  clear hb H4 
  have k00 := H5.out.cell (k := 0) (i := 0) rfl rfl
  have k01 := H5.out.cell (k := 0) (i := 1) rfl rfl
  have k02 := H5.out.cell (k := 0) (i := 2) rfl rfl
  have k10 := H5.out.cell (k := 1) (i := 0) rfl rfl
  have k11 := H5.out.cell (k := 1) (i := 1) rfl rfl
  have k12 := H5.out.cell (k := 1) (i := 2) rfl rfl
  have k20 := H5.out.cell (k := 2) (i := 0) rfl rfl
  have k21 := H5.out.cell (k := 2) (i := 1) rfl rfl
  have k22 := H5.out.cell (k := 2) (i := 2) rfl rfl
  go_wp2_with fail
  clear k00 k01 k02 k10 k11 k12 k20 k21 k22
  refine (HRb.out _ H5.out.below).mono ?_
  rintro e w6 ⟨rfl, hb⟩
  have H6 := Lib.hid (H5.out.call hb)
  clear hb H5 
  have k00 := H6.out.cell (k := 0) (i := 0) rfl rfl
  have k01 := H6.out.cell (k := 0) (i := 1) rfl rfl
  have k02 := H6.out.cell (k := 0) (i := 2) rfl rfl
  have k10 := H6.out.cell (k := 1) (i := 0) rfl rfl
  have k11 := H6.out.cell (k := 1) (i := 1) rfl rfl
  have k12 := H6.out.cell (k := 1) (i := 2) rfl rfl
  have k20 := H6.out.cell (k := 2) (i := 0) rfl rfl
  have k21 := H6.out.cell (k := 2) (i := 1) rfl rfl
  have k22 := H6.out.cell (k := 2) (i := 2) rfl rfl
  go_wp2_with fail
  clear k00 k01 k02 k10 k11 k12 k20 k21 k22
  refine (HPa.out _ H6.out.below).mono ?_
  rintro e w7 ⟨rfl, hb⟩
  have H7 := Lib.hid (H6.out.call hb)
  clear hb H6 
  have k00 := H7.out.cell (k := 0) (i := 0) rfl rfl
  have k01 := H7.out.cell (k := 0) (i := 1) rfl rfl
  have k02 := H7.out.cell (k := 0) (i := 2) rfl rfl
  have k10 := H7.out.cell (k := 1) (i := 0) rfl rfl
  have k11 := H7.out.cell (k := 1) (i := 1) rfl rfl
  have k12 := H7.out.cell (k := 1) (i := 2) rfl rfl
  have k20 := H7.out.cell (k := 2) (i := 0) rfl rfl
  have k21 := H7.out.cell (k := 2) (i := 1) rfl rfl
  have k22 := H7.out.cell (k := 2) (i := 2) rfl rfl
  go_wp2_with fail
  clear k00 k01 k02 k10 k11 k12 k20 k21 k22
  refine (HPb.out _ H7.out.below).mono ?_
  rintro e w8 ⟨rfl, hb⟩
  have H8 := Lib.hid (H7.out.call hb)
  clear hb H7 
  have k00 := H8.out.cell (k := 0) (i := 0) rfl rfl
  have k01 := H8.out.cell (k := 0) (i := 1) rfl rfl
  have k02 := H8.out.cell (k := 0) (i := 2) rfl rfl
  have k10 := H8.out.cell (k := 1) (i := 0) rfl rfl
  have k11 := H8.out.cell (k := 1) (i := 1) rfl rfl
  have k12 := H8.out.cell (k := 1) (i := 2) rfl rfl
  have k20 := H8.out.cell (k := 2) (i := 0) rfl rfl
  have k21 := H8.out.cell (k := 2) (i := 1) rfl rfl
  have k22 := H8.out.cell (k := 2) (i := 2) rfl rfl
  go_wp2_with fail
  clear k00 k01 k02 k10 k11 k12 k20 k21 k22
  refine (HEZ.out _).mono ?_
  rintro e w9 ⟨rfl, hb⟩
  have H9 := Lib.hid (H8.out.call hb)
  clear hb H8 
  go_wp2_with fail
  go_ret
  exact ⟨rfl, H9.out.below⟩
set_option maxRecDepth 100000 in
set_option maxHeartbeats 1000000 in
theorem lsum_l (Sa Ma : List Int) (La : Int) (aSa aMa : Option Addr) (cSa cMa : Nat) (x : Int) (Sb Mb : List Int) (Lb : Int) (aSb aMb : Option Addr) (cSb cMb : Nat) (y : Int) (w : World) (hga : greatB Sa Ma La = false) (hgb : greatB Sb Mb Lb = false) (hva : vldB Sa Ma La = true) (hvb : vldB Sb Mb Lb = true) (hpa : placeB Sa La x = true) (hpb : placeB Sb Lb y = true) (hx : x = -1) (hSa : IntsAt w aSa Sa) (hMa : IntsAt w aMa Ma) (hSb : IntsAt w aSb Sb) (hMb : IntsAt w aMb Mb) :
    Calls Try.prog 9 #[.agg #[.slice aSa Sa.length cSa, .slice aMa Ma.length cMa, .int .i64 La], .int .i64 x, .agg #[.slice aSb Sb.length cSb, .slice aMb Mb.length cMb, .int .i64 Lb], .int .i64 y] w fun e w' => e = .returned (.bool true) ∧ Below w.heap.size w w' := by
  obtain ⟨hga1, hga2⟩ := greatB_no hga
  obtain ⟨hgb1, hgb2⟩ := greatB_no hgb
  have HGa : Hid (∀ W', Calls Try.prog 13 #[.agg #[.slice aSa Sa.length cSa, .slice aMa Ma.length cMa, .int .i64 La]] W' fun e w' => e = .returned (.bool false) ∧ Below W'.heap.size W' w') := Lib.hid fun W' => by
    have g := great_any Sa Ma La aSa aMa cSa cMa W'
    rw [hga] at g; exact g
  have HGb : Hid (∀ W', Calls Try.prog 13 #[.agg #[.slice aSb Sb.length cSb, .slice aMb Mb.length cMb, .int .i64 Lb]] W' fun e w' => e = .returned (.bool false) ∧ Below W'.heap.size W' w') := Lib.hid fun W' => by
    have g := great_any Sb Mb Lb aSb aMb cSb cMb W'
    rw [hgb] at g; exact g
  have hsa := vldB_shape hva
  have hsb := vldB_shape hvb
  have hma := hsa.len
  have hmb := hsb.len
  have hla0 := hsa.lo
  have hlb0 := hsb.lo
  have hla : La ≤ 10 := by
    have h1 := hsa.hi
    have h2 := hga
    unfold greatB at h2
    simp only [Bool.or_eq_false_iff, Bool.and_eq_false_iff, decide_eq_false_iff_not] at h2
    omega
  have hlb : Lb ≤ 10 := by
    have h1 := hsb.hi
    have h2 := hgb
    unfold greatB at h2
    simp only [Bool.or_eq_false_iff, Bool.and_eq_false_iff, decide_eq_false_iff_not] at h2
    omega
  have hn : Sa.length + Sb.length ≤ 64 := by omega
  have hL1 : 1 ≤ La := by rw [hx, placeB_loop] at hpa; have := of_decide_eq_true hpa; omega
  have hgood : vldB (Sa ++ Sb) (uniM Ma Mb) (La + Lb - 1) = true ∧ compsN (Sa ++ Sb) (uniM Ma Mb) (La + Lb - 1) = compsN Sa Ma La + compsN Sb Mb Lb - 1 := by
    refine ⟨uni_valid hva hvb hn (by omega) (by omega), ?_⟩
    have := comps_uni hva hvb hn (K := La + Lb - 1) (by omega) (by omega)
    omega
  obtain ⟨hgv, hgc⟩ := hgood
  have hVl : (uniM Ma Mb).length = Ma.length + Mb.length := by exact uniM_len _ _
  have hTl : (Sa ++ Sb).length = Sa.length + Sb.length := List.length_append
  have HSum : Hid (∀ W', Below w.heap.size w W' → Calls Try.prog 32 #[.agg #[.slice aSa Sa.length cSa, .slice aMa Ma.length cMa, .int .i64 La], .int .i64 x, .agg #[.slice aSb Sb.length cSb, .slice aMb Mb.length cMb, .int .i64 Lb], .int .i64 y] W' fun e w' => ∃ a b c d, e = .returned (.tuple #[.agg #[.slice a (Sa.length + Sb.length) c, .slice b (Ma.length + Mb.length) d, .int .i64 (La + Lb - 1)], .int .i64 0]) ∧ Own w' W'.heap.size 3 a c (ints (Sa ++ Sb)) ∧ Own w' W'.heap.size 3 b d (ints (uniM Ma Mb)) ∧ Below W'.heap.size W' w') := Lib.hid fun W' h => sum_loop_a Sa Ma La aSa aMa cSa cMa Sb Mb Lb aSb aMb cSb cMb x y W' hva hvb hpa hpb hx hn (by omega) (hSa.later h) (hMa.later h) (hSb.later h) (hMb.later h)
  have HRs : Hid (∀ W', Below w.heap.size w W' → Calls Try.prog 43 #[.agg #[.slice aSa Sa.length cSa, .slice aMa Ma.length cMa, .int .i64 La], .int .i64 x, .agg #[.slice aSb Sb.length cSb, .slice aMb Mb.length cMb, .int .i64 Lb], .int .i64 y] W' fun e w' => ∃ a b c d, e = .returned (.agg #[.slice a (Sa.length + Sb.length) c, .slice b (Ma.length + Mb.length) d, .int .i64 (La + Lb - 1)]) ∧ Own w' W'.heap.size 3 a c (ints (Sa ++ Sb)) ∧ Own w' W'.heap.size 3 b d (ints (uniM Ma Mb)) ∧ Below W'.heap.size W' w') := Lib.hid fun W' h => rsum_loop_a Sa Ma La aSa aMa cSa cMa Sb Mb Lb aSb aMb cSb cMb x y W' hva hvb (by omega) (hSa.later h) (hMa.later h) (hSb.later h) (hMb.later h)
  have HEq : Hid (∀ (a b a' b' : Option Addr) (c d c' d' : Nat) W', IntsAt W' a (Sa ++ Sb) → IntsAt W' b (uniM Ma Mb) → IntsAt W' a' (Sa ++ Sb) → IntsAt W' b' (uniM Ma Mb) → Calls Try.prog 24 #[.agg #[.slice a (Sa.length + Sb.length) c, .slice b (Ma.length + Mb.length) d, .int .i64 (La + Lb - 1)], .agg #[.slice a' (Sa.length + Sb.length) c', .slice b' (Ma.length + Mb.length) d', .int .i64 (La + Lb - 1)]] W' fun e w' => e = .returned (.bool true) ∧ Below W'.heap.size W' w') := Lib.hid fun a b a' b' c d c' d' W' h1 h2 h3 h4 => by
    have g := equalR_any (Sa ++ Sb) (uniM Ma Mb) (Sa ++ Sb) (uniM Ma Mb) (La + Lb - 1) (La + Lb - 1) a b a' b' c d c' d' W' (by omega) (by omega) h1 h2 h3 h4
    rw [eqD_same, hTl, hVl] at g; exact g
  have HVg : Hid (∀ (a b : Option Addr) (c d : Nat) W', IntsAt W' a (Sa ++ Sb) → IntsAt W' b (uniM Ma Mb) → Calls Try.prog 26 #[.agg #[.slice a (Sa.length + Sb.length) c, .slice b (Ma.length + Mb.length) d, .int .i64 (La + Lb - 1)]] W' fun e w' => e = .returned (.bool true) ∧ Below W'.heap.size W' w') := Lib.hid fun a b c d W' h1 h2 => by
    have g := valid_any (Sa ++ Sb) (uniM Ma Mb) (La + Lb - 1) a b c d W' (by omega) (by omega) h1 h2
    rw [hgv, hTl, hVl] at g; exact g
  have HCg : Hid (∀ (a b : Option Addr) (c d : Nat) W', IntsAt W' a (Sa ++ Sb) → IntsAt W' b (uniM Ma Mb) → Calls Try.prog 44 #[.agg #[.slice a (Sa.length + Sb.length) c, .slice b (Ma.length + Mb.length) d, .int .i64 (La + Lb - 1)]] W' fun e w' => e = .returned (.int .i64 (compsN Sa Ma La + compsN Sb Mb Lb - 1)) ∧ Below W'.heap.size W' w') := Lib.hid fun a b c d W' h1 h2 => by
    have g := components_any (Sa ++ Sb) (uniM Ma Mb) (La + Lb - 1) a b c d W' (by omega) (by omega) h1 h2
    rw [hgc, hTl, hVl] at g; exact g
  have HCa : Hid (∀ W', Below w.heap.size w W' → Calls Try.prog 44 #[.agg #[.slice aSa Sa.length cSa, .slice aMa Ma.length cMa, .int .i64 La]] W' fun e w' => e = .returned (.int .i64 (compsN Sa Ma La)) ∧ Below W'.heap.size W' w') := Lib.hid fun W' h => components_any Sa Ma La aSa aMa cSa cMa W' (by omega) (by omega) (hSa.later h) (hMa.later h)
  have HCb : Hid (∀ W', Below w.heap.size w W' → Calls Try.prog 44 #[.agg #[.slice aSb Sb.length cSb, .slice aMb Mb.length cMb, .int .i64 Lb]] W' fun e w' => e = .returned (.int .i64 (compsN Sb Mb Lb)) ∧ Below W'.heap.size W' w') := Lib.hid fun W' h => components_any Sb Mb Lb aSb aMb cSb cMb W' (by omega) (by omega) (hSb.later h) (hMb.later h)
  have HRa : Hid (∀ W', Below w.heap.size w W' → Calls Try.prog 15 #[.agg #[.slice aSa Sa.length cSa, .slice aMa Ma.length cMa, .int .i64 La]] W' fun e w' => e = .returned (.bool true) ∧ Below W'.heap.size W' w') := Lib.hid fun W' h => by
    have g := rvalid_any Sa Ma La aSa aMa cSa cMa W' (by omega) (by omega) (hSa.later h) (hMa.later h)
    rw [hva] at g; exact g
  have HRb : Hid (∀ W', Below w.heap.size w W' → Calls Try.prog 15 #[.agg #[.slice aSb Sb.length cSb, .slice aMb Mb.length cMb, .int .i64 Lb]] W' fun e w' => e = .returned (.bool true) ∧ Below W'.heap.size W' w') := Lib.hid fun W' h => by
    have g := rvalid_any Sb Mb Lb aSb aMb cSb cMb W' (by omega) (by omega) (hSb.later h) (hMb.later h)
    rw [hvb] at g; exact g
  have HPa : Hid (∀ W', Below w.heap.size w W' → Calls Try.prog 22 #[.agg #[.slice aSa Sa.length cSa, .slice aMa Ma.length cMa, .int .i64 La], .int .i64 x] W' fun e w' => e = .returned (.bool true) ∧ Below W'.heap.size W' w') := Lib.hid fun W' h => by
    have g := place_any Sa Ma La aSa aMa cSa cMa x W' (by omega) hma (hSa.later h)
    rw [hpa] at g; exact g
  have HPb : Hid (∀ W', Below w.heap.size w W' → Calls Try.prog 22 #[.agg #[.slice aSb Sb.length cSb, .slice aMb Mb.length cMb, .int .i64 Lb], .int .i64 y] W' fun e w' => e = .returned (.bool true) ∧ Below W'.heap.size W' w') := Lib.hid fun W' h => by
    have g := place_any Sb Mb Lb aSb aMb cSb cMb y W' (by omega) hmb (hSb.later h)
    rw [hpb] at g; exact g
  have hca : 0 ≤ compsN Sa Ma La ∧ compsN Sa Ma La ≤ 1000 := by
    rw [comps_of hva]
    have h1 : (leasts Sa Ma).length ≤ 4 * Sa.length := by
      have := List.length_filter_le (fun h => outB Sa h && leastB (sc Ma) (perOf (sc Ma) (4 * Sa.length)) h) (List.range (4 * Sa.length))
      rw [List.length_range] at this; exact this
    omega
  have hcb : 0 ≤ compsN Sb Mb Lb ∧ compsN Sb Mb Lb ≤ 1000 := by
    rw [comps_of hvb]
    have h1 : (leasts Sb Mb).length ≤ 4 * Sb.length := by
      have := List.length_filter_le (fun h => outB Sb h && leastB (sc Mb) (perOf (sc Mb) (4 * Sb.length)) h) (List.range (4 * Sb.length))
      rw [List.length_range] at this; exact this
    omega
  have H0 := Lib.hid (((HH.start w).alloc #[.slice aSa Sa.length cSa, .slice aMa Ma.length cMa, .int .i64 La] 24 rfl rfl).alloc #[.slice aSb Sb.length cSb, .slice aMb Mb.length cMb, .int .i64 Lb] 24 (b := w.heap.size + 1) (by simp) rfl)
  clear hga hgb hva hvb hSa hMa hSb hMb hsa hsb hgv hgc hVl hTl hma hmb hn hpa hpb hL1
  generalize uniM Ma Mb = V at *
  generalize Sa ++ Sb = T at *
  generalize compsN Sa Ma La = ca at *
  generalize compsN Sb Mb Lb = cb at *
  generalize Sa.length = na at *
  generalize Sb.length = nb at *
  generalize Ma.length = ma at *
  generalize Mb.length = mb at *
  obtain ⟨ha0, ha1⟩ := hca
  obtain ⟨hb0, hb1⟩ := hcb
  have wc1 : wrap64 (ca + cb) = ca + cb := wrap_mid (by omega) (by omega)
  have wc2 : wrap64 (ca + cb - 1) = ca + cb - 1 := wrap_mid (by omega) (by omega)
  have wd1 : IntKind.i64.wrap (ca + cb) = ca + cb := wrapi_mid (by omega) (by omega)
  have wd2 : IntKind.i64.wrap (ca + cb - 1) = ca + cb - 1 := wrapi_mid (by omega) (by omega)
  subst hx
  go_enter Try.func9, Try.ntmps9
  go_wp2_with fail
  refine (awake_any _).mono ?_
  rintro e w1 ⟨rfl, hb⟩
  have H1 := Lib.hid (H0.out.call hb)
  clear hb H0 
  have k00 := H1.out.cell (k := 0) (i := 0) rfl rfl
  have k01 := H1.out.cell (k := 0) (i := 1) rfl rfl
  have k02 := H1.out.cell (k := 0) (i := 2) rfl rfl
  have k10 := H1.out.cell (k := 1) (i := 0) rfl rfl
  have k11 := H1.out.cell (k := 1) (i := 1) rfl rfl
  have k12 := H1.out.cell (k := 1) (i := 2) rfl rfl
  go_wp2_with fail
  clear k00 k01 k02 k10 k11 k12
  refine (HGa.out _).mono ?_
  rintro e w2 ⟨rfl, hb⟩
  have H2 := Lib.hid (H1.out.call hb)
  clear hb H1 
  have k00 := H2.out.cell (k := 0) (i := 0) rfl rfl
  have k01 := H2.out.cell (k := 0) (i := 1) rfl rfl
  have k02 := H2.out.cell (k := 0) (i := 2) rfl rfl
  have k10 := H2.out.cell (k := 1) (i := 0) rfl rfl
  have k11 := H2.out.cell (k := 1) (i := 1) rfl rfl
  have k12 := H2.out.cell (k := 1) (i := 2) rfl rfl
  go_wp2_with fail
  clear k00 k01 k02 k10 k11 k12
  refine (HGb.out _).mono ?_
  rintro e w3 ⟨rfl, hb⟩
  have H3 := Lib.hid (H2.out.call hb)
  clear hb H2 
  have k00 := H3.out.cell (k := 0) (i := 0) rfl rfl
  have k01 := H3.out.cell (k := 0) (i := 1) rfl rfl
  have k02 := H3.out.cell (k := 0) (i := 2) rfl rfl
  have k10 := H3.out.cell (k := 1) (i := 0) rfl rfl
  have k11 := H3.out.cell (k := 1) (i := 1) rfl rfl
  have k12 := H3.out.cell (k := 1) (i := 2) rfl rfl
  go_wp2_with fail
  clear k00 k01 k02 k10 k11 k12
  refine (HSum.out _ H3.out.below).mono ?_
  rintro e w5 ⟨a5, b5, c5, d5, rfl, ho1, ho2, hb⟩
  have H4 := Lib.hid ((H3.out.call hb).alloc #[.slice a5 (na + nb) c5, .slice b5 (ma + mb) d5, .int .i64 (La + Lb - 1)] 24 (b := w5.heap.size) rfl rfl)
  have o1 := Lib.hid (ho1.alloc (.cells #[.slice a5 (na + nb) c5, .slice b5 (ma + mb) d5, .int .i64 (La + Lb - 1)] 24)).ints
  have o2 := Lib.hid (ho2.alloc (.cells #[.slice a5 (na + nb) c5, .slice b5 (ma + mb) d5, .int .i64 (La + Lb - 1)] 24)).ints
  clear ho1 ho2 hb H3 HSum
  go_upto_region 6 with fail
  generalize w5.alloc (.cells #[.slice a5 (na + nb) c5, .slice b5 (ma + mb) d5, .int .i64 (La + Lb - 1)] 24) = v5 at *
  generalize w5.heap.size = q5 at *
  have O5 : Hid (∀ W', Below v5.heap.size v5 W' → (W'.cell? ⟨w.heap.size, 0, none⟩ = some (.slice aSa na cSa) ∧ W'.cell? ⟨w.heap.size, 1, none⟩ = some (.slice aMa ma cMa) ∧ W'.cell? ⟨w.heap.size, 2, none⟩ = some (.int .i64 La) ∧ W'.cell? ⟨w.heap.size + 1, 0, none⟩ = some (.slice aSb nb cSb) ∧ W'.cell? ⟨w.heap.size + 1, 1, none⟩ = some (.slice aMb mb cMb) ∧ W'.cell? ⟨w.heap.size + 1, 2, none⟩ = some (.int .i64 Lb) ∧ W'.cell? ⟨q5, 0, none⟩ = some (.slice a5 (na + nb) c5) ∧ W'.cell? ⟨q5, 1, none⟩ = some (.slice b5 (ma + mb) d5) ∧ W'.cell? ⟨q5, 2, none⟩ = some (.int .i64 (La + Lb - 1))) ∧ (IntsAt W' a5 T ∧ IntsAt W' b5 V) ∧ Below w.heap.size w W') := Lib.hid fun W' h => by
    have H5 := H4.out.call h
    exact ⟨⟨H5.cell (k := 0) (i := 0) rfl rfl, H5.cell (k := 0) (i := 1) rfl rfl, H5.cell (k := 0) (i := 2) rfl rfl, H5.cell (k := 1) (i := 0) rfl rfl, H5.cell (k := 1) (i := 1) rfl rfl, H5.cell (k := 1) (i := 2) rfl rfl, H5.cell (k := 2) (i := 0) rfl rfl, H5.cell (k := 2) (i := 1) rfl rfl, H5.cell (k := 2) (i := 2) rfl rfl⟩, ⟨o1.out.later h, o2.out.later h⟩, H5.below⟩
  have J0 := Lib.hid (HH.start v5)
  clear o1 o2 H4
  obtain ⟨⟨k00, k01, k02, k10, k11, k12, k20, k21, k22⟩, _, _⟩ := O5.out _ J0.out.below
  go_wp2_with fail
  clear k00 k01 k02 k10 k11 k12 k20 k21 k22
  refine (HRa.out _ (O5.out _ J0.out.below).2.2).mono ?_
  rintro e u1 ⟨rfl, hb⟩
  have J1 := Lib.hid (J0.out.call hb)
  clear hb J0
  obtain ⟨⟨k00, k01, k02, k10, k11, k12, k20, k21, k22⟩, _, _⟩ := O5.out _ J1.out.below
  go_wp2_with fail
  clear k00 k01 k02 k10 k11 k12 k20 k21 k22
  refine (HRb.out _ (O5.out _ J1.out.below).2.2).mono ?_
  rintro e u2 ⟨rfl, hb⟩
  have J2 := Lib.hid (J1.out.call hb)
  clear hb J1
  obtain ⟨⟨k00, k01, k02, k10, k11, k12, k20, k21, k22⟩, _, _⟩ := O5.out _ J2.out.below
  go_wp2_with fail
  clear k00 k01 k02 k10 k11 k12 k20 k21 k22
  refine (HPa.out _ (O5.out _ J2.out.below).2.2).mono ?_
  rintro e u3 ⟨rfl, hb⟩
  have J3 := Lib.hid (J2.out.call hb)
  clear hb J2
  obtain ⟨⟨k00, k01, k02, k10, k11, k12, k20, k21, k22⟩, _, _⟩ := O5.out _ J3.out.below
  go_wp2_with fail
  clear k00 k01 k02 k10 k11 k12 k20 k21 k22
  refine (HPb.out _ (O5.out _ J3.out.below).2.2).mono ?_
  rintro e u4 ⟨rfl, hb⟩
  have J4 := Lib.hid (J3.out.call hb)
  clear hb J3
  go_upto_region 10 with fail
  have D0 := Lib.hid J4.out.drew
  have Q0 := Lib.hid (O5.out _ D0.out.below).1
  have hq0 := Q0.out
  go_region_held3 (fun W' => W'.cell? ⟨w.heap.size, 0, none⟩ = some (.slice aSa na cSa) ∧ W'.cell? ⟨w.heap.size, 1, none⟩ = some (.slice aMa ma cMa) ∧ W'.cell? ⟨w.heap.size, 2, none⟩ = some (.int .i64 La) ∧ W'.cell? ⟨w.heap.size + 1, 0, none⟩ = some (.slice aSb nb cSb) ∧ W'.cell? ⟨w.heap.size + 1, 1, none⟩ = some (.slice aMb mb cMb) ∧ W'.cell? ⟨w.heap.size + 1, 2, none⟩ = some (.int .i64 Lb) ∧ W'.cell? ⟨q5, 0, none⟩ = some (.slice a5 (na + nb) c5) ∧ W'.cell? ⟨q5, 1, none⟩ = some (.slice b5 (ma + mb) d5) ∧ W'.cell? ⟨q5, 2, none⟩ = some (.int .i64 (La + Lb - 1)))
    (first
      | with_reducible exact Q0.out
      | with_reducible exact Q1.out
      | with_reducible exact Q2.out
      | with_reducible exact Q3.out
      | with_reducible exact Q4.out
      | with_reducible exact Q5.out
      | with_reducible exact Q6.out)
    (first
      | ((with_reducible refine (HRs.out _ (O5.out _ D0.out.below).2.2).mono ?_); rintro e y1 ⟨a6, b6, c6, d6, rfl, ho1, ho2, hb⟩; have r1 := Lib.hid ho1.ints; have r2 := Lib.hid ho2.ints; have D1 := Lib.hid (D0.out.call hb); have Q1 := Lib.hid (O5.out _ D1.out.below).1; clear hb ho1 ho2)
      | ((with_reducible refine (HEq.out a5 b5 a6 b6 c5 d5 c6 d6 _ (O5.out _ D1.out.below).2.1.1 (O5.out _ D1.out.below).2.1.2 r1.out r2.out).mono ?_); rintro e y2 ⟨rfl, hb⟩; have D2 := Lib.hid (D1.out.call hb); have Q2 := Lib.hid (O5.out _ D2.out.below).1; clear hb)
      | ((with_reducible refine (HVg.out a5 b5 c5 d5 _ (O5.out _ D2.out.below).2.1.1 (O5.out _ D2.out.below).2.1.2).mono ?_); rintro e y3 ⟨rfl, hb⟩; have D3 := Lib.hid (D2.out.call hb); have Q3 := Lib.hid (O5.out _ D3.out.below).1; clear hb)
      | ((with_reducible refine (HCg.out a5 b5 c5 d5 _ (O5.out _ D3.out.below).2.1.1 (O5.out _ D3.out.below).2.1.2).mono ?_); rintro e y4 ⟨rfl, hb⟩; have D4 := Lib.hid (D3.out.call hb); have Q4 := Lib.hid (O5.out _ D4.out.below).1; clear hb)
      | ((with_reducible refine (HCa.out _ (O5.out _ D4.out.below).2.2).mono ?_); rintro e y5 ⟨rfl, hb⟩; have D5 := Lib.hid (D4.out.call hb); have Q5 := Lib.hid (O5.out _ D5.out.below).1; clear hb)
      | ((with_reducible refine (HCb.out _ (O5.out _ D5.out.below).2.2).mono ?_); rintro e y6 ⟨rfl, hb⟩; have D6 := Lib.hid (D5.out.call hb); have Q6 := Lib.hid (O5.out _ D6.out.below).1; clear hb))
  go_wp2_with fail
  go_ret
  exact ⟨rfl, (O5.out _ D6.out.below).2.2⟩
set_option maxRecDepth 100000 in
set_option maxHeartbeats 1000000 in
theorem lsum_m (Sa Ma : List Int) (La : Int) (aSa aMa : Option Addr) (cSa cMa : Nat) (x : Int) (Sb Mb : List Int) (Lb : Int) (aSb aMb : Option Addr) (cSb cMb : Nat) (y : Int) (w : World) (hga : greatB Sa Ma La = false) (hgb : greatB Sb Mb Lb = false) (hva : vldB Sa Ma La = true) (hvb : vldB Sb Mb Lb = true) (hpa : placeB Sa La x = true) (hpb : placeB Sb Lb y = true) (hx : x ≠ -1) (hy : y = -1) (hSa : IntsAt w aSa Sa) (hMa : IntsAt w aMa Ma) (hSb : IntsAt w aSb Sb) (hMb : IntsAt w aMb Mb) :
    Calls Try.prog 9 #[.agg #[.slice aSa Sa.length cSa, .slice aMa Ma.length cMa, .int .i64 La], .int .i64 x, .agg #[.slice aSb Sb.length cSb, .slice aMb Mb.length cMb, .int .i64 Lb], .int .i64 y] w fun e w' => e = .returned (.bool true) ∧ Below w.heap.size w w' := by
  obtain ⟨hga1, hga2⟩ := greatB_no hga
  obtain ⟨hgb1, hgb2⟩ := greatB_no hgb
  have HGa : Hid (∀ W', Calls Try.prog 13 #[.agg #[.slice aSa Sa.length cSa, .slice aMa Ma.length cMa, .int .i64 La]] W' fun e w' => e = .returned (.bool false) ∧ Below W'.heap.size W' w') := Lib.hid fun W' => by
    have g := great_any Sa Ma La aSa aMa cSa cMa W'
    rw [hga] at g; exact g
  have HGb : Hid (∀ W', Calls Try.prog 13 #[.agg #[.slice aSb Sb.length cSb, .slice aMb Mb.length cMb, .int .i64 Lb]] W' fun e w' => e = .returned (.bool false) ∧ Below W'.heap.size W' w') := Lib.hid fun W' => by
    have g := great_any Sb Mb Lb aSb aMb cSb cMb W'
    rw [hgb] at g; exact g
  have hsa := vldB_shape hva
  have hsb := vldB_shape hvb
  have hma := hsa.len
  have hmb := hsb.len
  have hla0 := hsa.lo
  have hlb0 := hsb.lo
  have hla : La ≤ 10 := by
    have h1 := hsa.hi
    have h2 := hga
    unfold greatB at h2
    simp only [Bool.or_eq_false_iff, Bool.and_eq_false_iff, decide_eq_false_iff_not] at h2
    omega
  have hlb : Lb ≤ 10 := by
    have h1 := hsb.hi
    have h2 := hgb
    unfold greatB at h2
    simp only [Bool.or_eq_false_iff, Bool.and_eq_false_iff, decide_eq_false_iff_not] at h2
    omega
  have hn : Sa.length + Sb.length ≤ 64 := by omega
  have hL1 : 1 ≤ Lb := by rw [hy, placeB_loop] at hpb; have := of_decide_eq_true hpb; omega
  have hx0 : 0 ≤ x := by
    rcases Int.lt_or_le x 0 with g | g
    · rw [placeB_out hx (by omega)] at hpa; cases hpa
    · exact g
  have hgood : vldB (Sa ++ Sb) (uniM Ma Mb) (La + Lb - 1) = true ∧ compsN (Sa ++ Sb) (uniM Ma Mb) (La + Lb - 1) = compsN Sa Ma La + compsN Sb Mb Lb - 1 := by
    refine ⟨uni_valid hva hvb hn (by omega) (by omega), ?_⟩
    have := comps_uni hva hvb hn (K := La + Lb - 1) (by omega) (by omega)
    omega
  obtain ⟨hgv, hgc⟩ := hgood
  have hVl : (uniM Ma Mb).length = Ma.length + Mb.length := by exact uniM_len _ _
  have hTl : (Sa ++ Sb).length = Sa.length + Sb.length := List.length_append
  have HSum : Hid (∀ W', Below w.heap.size w W' → Calls Try.prog 32 #[.agg #[.slice aSa Sa.length cSa, .slice aMa Ma.length cMa, .int .i64 La], .int .i64 x, .agg #[.slice aSb Sb.length cSb, .slice aMb Mb.length cMb, .int .i64 Lb], .int .i64 y] W' fun e w' => ∃ a b c d, e = .returned (.tuple #[.agg #[.slice a (Sa.length + Sb.length) c, .slice b (Ma.length + Mb.length) d, .int .i64 (La + Lb - 1)], .int .i64 0]) ∧ Own w' W'.heap.size 3 a c (ints (Sa ++ Sb)) ∧ Own w' W'.heap.size 3 b d (ints (uniM Ma Mb)) ∧ Below W'.heap.size W' w') := Lib.hid fun W' h => sum_loop_b Sa Ma La aSa aMa cSa cMa Sb Mb Lb aSb aMb cSb cMb x y W' hva hvb hpa hpb hx hy hn (by omega) (hSa.later h) (hMa.later h) (hSb.later h) (hMb.later h)
  have HRs : Hid (∀ W', Below w.heap.size w W' → Calls Try.prog 43 #[.agg #[.slice aSa Sa.length cSa, .slice aMa Ma.length cMa, .int .i64 La], .int .i64 x, .agg #[.slice aSb Sb.length cSb, .slice aMb Mb.length cMb, .int .i64 Lb], .int .i64 y] W' fun e w' => ∃ a b c d, e = .returned (.agg #[.slice a (Sa.length + Sb.length) c, .slice b (Ma.length + Mb.length) d, .int .i64 (La + Lb - 1)]) ∧ Own w' W'.heap.size 3 a c (ints (Sa ++ Sb)) ∧ Own w' W'.heap.size 3 b d (ints (uniM Ma Mb)) ∧ Below W'.heap.size W' w') := Lib.hid fun W' h => rsum_loop_b Sa Ma La aSa aMa cSa cMa Sb Mb Lb aSb aMb cSb cMb x y W' hva hvb hx0 (by omega) (hSa.later h) (hMa.later h) (hSb.later h) (hMb.later h)
  have HEq : Hid (∀ (a b a' b' : Option Addr) (c d c' d' : Nat) W', IntsAt W' a (Sa ++ Sb) → IntsAt W' b (uniM Ma Mb) → IntsAt W' a' (Sa ++ Sb) → IntsAt W' b' (uniM Ma Mb) → Calls Try.prog 24 #[.agg #[.slice a (Sa.length + Sb.length) c, .slice b (Ma.length + Mb.length) d, .int .i64 (La + Lb - 1)], .agg #[.slice a' (Sa.length + Sb.length) c', .slice b' (Ma.length + Mb.length) d', .int .i64 (La + Lb - 1)]] W' fun e w' => e = .returned (.bool true) ∧ Below W'.heap.size W' w') := Lib.hid fun a b a' b' c d c' d' W' h1 h2 h3 h4 => by
    have g := equalR_any (Sa ++ Sb) (uniM Ma Mb) (Sa ++ Sb) (uniM Ma Mb) (La + Lb - 1) (La + Lb - 1) a b a' b' c d c' d' W' (by omega) (by omega) h1 h2 h3 h4
    rw [eqD_same, hTl, hVl] at g; exact g
  have HVg : Hid (∀ (a b : Option Addr) (c d : Nat) W', IntsAt W' a (Sa ++ Sb) → IntsAt W' b (uniM Ma Mb) → Calls Try.prog 26 #[.agg #[.slice a (Sa.length + Sb.length) c, .slice b (Ma.length + Mb.length) d, .int .i64 (La + Lb - 1)]] W' fun e w' => e = .returned (.bool true) ∧ Below W'.heap.size W' w') := Lib.hid fun a b c d W' h1 h2 => by
    have g := valid_any (Sa ++ Sb) (uniM Ma Mb) (La + Lb - 1) a b c d W' (by omega) (by omega) h1 h2
    rw [hgv, hTl, hVl] at g; exact g
  have HCg : Hid (∀ (a b : Option Addr) (c d : Nat) W', IntsAt W' a (Sa ++ Sb) → IntsAt W' b (uniM Ma Mb) → Calls Try.prog 44 #[.agg #[.slice a (Sa.length + Sb.length) c, .slice b (Ma.length + Mb.length) d, .int .i64 (La + Lb - 1)]] W' fun e w' => e = .returned (.int .i64 (compsN Sa Ma La + compsN Sb Mb Lb - 1)) ∧ Below W'.heap.size W' w') := Lib.hid fun a b c d W' h1 h2 => by
    have g := components_any (Sa ++ Sb) (uniM Ma Mb) (La + Lb - 1) a b c d W' (by omega) (by omega) h1 h2
    rw [hgc, hTl, hVl] at g; exact g
  have HCa : Hid (∀ W', Below w.heap.size w W' → Calls Try.prog 44 #[.agg #[.slice aSa Sa.length cSa, .slice aMa Ma.length cMa, .int .i64 La]] W' fun e w' => e = .returned (.int .i64 (compsN Sa Ma La)) ∧ Below W'.heap.size W' w') := Lib.hid fun W' h => components_any Sa Ma La aSa aMa cSa cMa W' (by omega) (by omega) (hSa.later h) (hMa.later h)
  have HCb : Hid (∀ W', Below w.heap.size w W' → Calls Try.prog 44 #[.agg #[.slice aSb Sb.length cSb, .slice aMb Mb.length cMb, .int .i64 Lb]] W' fun e w' => e = .returned (.int .i64 (compsN Sb Mb Lb)) ∧ Below W'.heap.size W' w') := Lib.hid fun W' h => components_any Sb Mb Lb aSb aMb cSb cMb W' (by omega) (by omega) (hSb.later h) (hMb.later h)
  have HRa : Hid (∀ W', Below w.heap.size w W' → Calls Try.prog 15 #[.agg #[.slice aSa Sa.length cSa, .slice aMa Ma.length cMa, .int .i64 La]] W' fun e w' => e = .returned (.bool true) ∧ Below W'.heap.size W' w') := Lib.hid fun W' h => by
    have g := rvalid_any Sa Ma La aSa aMa cSa cMa W' (by omega) (by omega) (hSa.later h) (hMa.later h)
    rw [hva] at g; exact g
  have HRb : Hid (∀ W', Below w.heap.size w W' → Calls Try.prog 15 #[.agg #[.slice aSb Sb.length cSb, .slice aMb Mb.length cMb, .int .i64 Lb]] W' fun e w' => e = .returned (.bool true) ∧ Below W'.heap.size W' w') := Lib.hid fun W' h => by
    have g := rvalid_any Sb Mb Lb aSb aMb cSb cMb W' (by omega) (by omega) (hSb.later h) (hMb.later h)
    rw [hvb] at g; exact g
  have HPa : Hid (∀ W', Below w.heap.size w W' → Calls Try.prog 22 #[.agg #[.slice aSa Sa.length cSa, .slice aMa Ma.length cMa, .int .i64 La], .int .i64 x] W' fun e w' => e = .returned (.bool true) ∧ Below W'.heap.size W' w') := Lib.hid fun W' h => by
    have g := place_any Sa Ma La aSa aMa cSa cMa x W' (by omega) hma (hSa.later h)
    rw [hpa] at g; exact g
  have HPb : Hid (∀ W', Below w.heap.size w W' → Calls Try.prog 22 #[.agg #[.slice aSb Sb.length cSb, .slice aMb Mb.length cMb, .int .i64 Lb], .int .i64 y] W' fun e w' => e = .returned (.bool true) ∧ Below W'.heap.size W' w') := Lib.hid fun W' h => by
    have g := place_any Sb Mb Lb aSb aMb cSb cMb y W' (by omega) hmb (hSb.later h)
    rw [hpb] at g; exact g
  have hca : 0 ≤ compsN Sa Ma La ∧ compsN Sa Ma La ≤ 1000 := by
    rw [comps_of hva]
    have h1 : (leasts Sa Ma).length ≤ 4 * Sa.length := by
      have := List.length_filter_le (fun h => outB Sa h && leastB (sc Ma) (perOf (sc Ma) (4 * Sa.length)) h) (List.range (4 * Sa.length))
      rw [List.length_range] at this; exact this
    omega
  have hcb : 0 ≤ compsN Sb Mb Lb ∧ compsN Sb Mb Lb ≤ 1000 := by
    rw [comps_of hvb]
    have h1 : (leasts Sb Mb).length ≤ 4 * Sb.length := by
      have := List.length_filter_le (fun h => outB Sb h && leastB (sc Mb) (perOf (sc Mb) (4 * Sb.length)) h) (List.range (4 * Sb.length))
      rw [List.length_range] at this; exact this
    omega
  have H0 := Lib.hid (((HH.start w).alloc #[.slice aSa Sa.length cSa, .slice aMa Ma.length cMa, .int .i64 La] 24 rfl rfl).alloc #[.slice aSb Sb.length cSb, .slice aMb Mb.length cMb, .int .i64 Lb] 24 (b := w.heap.size + 1) (by simp) rfl)
  clear hga hgb hva hvb hSa hMa hSb hMb hsa hsb hgv hgc hVl hTl hma hmb hn hpa hpb hL1 hx0
  generalize uniM Ma Mb = V at *
  generalize Sa ++ Sb = T at *
  generalize compsN Sa Ma La = ca at *
  generalize compsN Sb Mb Lb = cb at *
  generalize Sa.length = na at *
  generalize Sb.length = nb at *
  generalize Ma.length = ma at *
  generalize Mb.length = mb at *
  obtain ⟨ha0, ha1⟩ := hca
  obtain ⟨hb0, hb1⟩ := hcb
  have wc1 : wrap64 (ca + cb) = ca + cb := wrap_mid (by omega) (by omega)
  have wc2 : wrap64 (ca + cb - 1) = ca + cb - 1 := wrap_mid (by omega) (by omega)
  have wd1 : IntKind.i64.wrap (ca + cb) = ca + cb := wrapi_mid (by omega) (by omega)
  have wd2 : IntKind.i64.wrap (ca + cb - 1) = ca + cb - 1 := wrapi_mid (by omega) (by omega)
  subst hy
  go_enter Try.func9, Try.ntmps9
  go_wp2_with fail
  refine (awake_any _).mono ?_
  rintro e w1 ⟨rfl, hb⟩
  have H1 := Lib.hid (H0.out.call hb)
  clear hb H0 
  have k00 := H1.out.cell (k := 0) (i := 0) rfl rfl
  have k01 := H1.out.cell (k := 0) (i := 1) rfl rfl
  have k02 := H1.out.cell (k := 0) (i := 2) rfl rfl
  have k10 := H1.out.cell (k := 1) (i := 0) rfl rfl
  have k11 := H1.out.cell (k := 1) (i := 1) rfl rfl
  have k12 := H1.out.cell (k := 1) (i := 2) rfl rfl
  go_wp2_with fail
  clear k00 k01 k02 k10 k11 k12
  refine (HGa.out _).mono ?_
  rintro e w2 ⟨rfl, hb⟩
  have H2 := Lib.hid (H1.out.call hb)
  clear hb H1 
  have k00 := H2.out.cell (k := 0) (i := 0) rfl rfl
  have k01 := H2.out.cell (k := 0) (i := 1) rfl rfl
  have k02 := H2.out.cell (k := 0) (i := 2) rfl rfl
  have k10 := H2.out.cell (k := 1) (i := 0) rfl rfl
  have k11 := H2.out.cell (k := 1) (i := 1) rfl rfl
  have k12 := H2.out.cell (k := 1) (i := 2) rfl rfl
  go_wp2_with fail
  clear k00 k01 k02 k10 k11 k12
  refine (HGb.out _).mono ?_
  rintro e w3 ⟨rfl, hb⟩
  have H3 := Lib.hid (H2.out.call hb)
  clear hb H2 
  have k00 := H3.out.cell (k := 0) (i := 0) rfl rfl
  have k01 := H3.out.cell (k := 0) (i := 1) rfl rfl
  have k02 := H3.out.cell (k := 0) (i := 2) rfl rfl
  have k10 := H3.out.cell (k := 1) (i := 0) rfl rfl
  have k11 := H3.out.cell (k := 1) (i := 1) rfl rfl
  have k12 := H3.out.cell (k := 1) (i := 2) rfl rfl
  go_wp2_with fail
  clear k00 k01 k02 k10 k11 k12
  refine (HSum.out _ H3.out.below).mono ?_
  rintro e w5 ⟨a5, b5, c5, d5, rfl, ho1, ho2, hb⟩
  have H4 := Lib.hid ((H3.out.call hb).alloc #[.slice a5 (na + nb) c5, .slice b5 (ma + mb) d5, .int .i64 (La + Lb - 1)] 24 (b := w5.heap.size) rfl rfl)
  have o1 := Lib.hid (ho1.alloc (.cells #[.slice a5 (na + nb) c5, .slice b5 (ma + mb) d5, .int .i64 (La + Lb - 1)] 24)).ints
  have o2 := Lib.hid (ho2.alloc (.cells #[.slice a5 (na + nb) c5, .slice b5 (ma + mb) d5, .int .i64 (La + Lb - 1)] 24)).ints
  clear ho1 ho2 hb H3 HSum
  go_upto_region 6 with fail
  generalize w5.alloc (.cells #[.slice a5 (na + nb) c5, .slice b5 (ma + mb) d5, .int .i64 (La + Lb - 1)] 24) = v5 at *
  generalize w5.heap.size = q5 at *
  have O5 : Hid (∀ W', Below v5.heap.size v5 W' → (W'.cell? ⟨w.heap.size, 0, none⟩ = some (.slice aSa na cSa) ∧ W'.cell? ⟨w.heap.size, 1, none⟩ = some (.slice aMa ma cMa) ∧ W'.cell? ⟨w.heap.size, 2, none⟩ = some (.int .i64 La) ∧ W'.cell? ⟨w.heap.size + 1, 0, none⟩ = some (.slice aSb nb cSb) ∧ W'.cell? ⟨w.heap.size + 1, 1, none⟩ = some (.slice aMb mb cMb) ∧ W'.cell? ⟨w.heap.size + 1, 2, none⟩ = some (.int .i64 Lb) ∧ W'.cell? ⟨q5, 0, none⟩ = some (.slice a5 (na + nb) c5) ∧ W'.cell? ⟨q5, 1, none⟩ = some (.slice b5 (ma + mb) d5) ∧ W'.cell? ⟨q5, 2, none⟩ = some (.int .i64 (La + Lb - 1))) ∧ (IntsAt W' a5 T ∧ IntsAt W' b5 V) ∧ Below w.heap.size w W') := Lib.hid fun W' h => by
    have H5 := H4.out.call h
    exact ⟨⟨H5.cell (k := 0) (i := 0) rfl rfl, H5.cell (k := 0) (i := 1) rfl rfl, H5.cell (k := 0) (i := 2) rfl rfl, H5.cell (k := 1) (i := 0) rfl rfl, H5.cell (k := 1) (i := 1) rfl rfl, H5.cell (k := 1) (i := 2) rfl rfl, H5.cell (k := 2) (i := 0) rfl rfl, H5.cell (k := 2) (i := 1) rfl rfl, H5.cell (k := 2) (i := 2) rfl rfl⟩, ⟨o1.out.later h, o2.out.later h⟩, H5.below⟩
  have J0 := Lib.hid (HH.start v5)
  clear o1 o2 H4
  obtain ⟨⟨k00, k01, k02, k10, k11, k12, k20, k21, k22⟩, _, _⟩ := O5.out _ J0.out.below
  go_wp2_with fail
  clear k00 k01 k02 k10 k11 k12 k20 k21 k22
  refine (HRa.out _ (O5.out _ J0.out.below).2.2).mono ?_
  rintro e u1 ⟨rfl, hb⟩
  have J1 := Lib.hid (J0.out.call hb)
  clear hb J0
  obtain ⟨⟨k00, k01, k02, k10, k11, k12, k20, k21, k22⟩, _, _⟩ := O5.out _ J1.out.below
  go_wp2_with fail
  clear k00 k01 k02 k10 k11 k12 k20 k21 k22
  refine (HRb.out _ (O5.out _ J1.out.below).2.2).mono ?_
  rintro e u2 ⟨rfl, hb⟩
  have J2 := Lib.hid (J1.out.call hb)
  clear hb J1
  obtain ⟨⟨k00, k01, k02, k10, k11, k12, k20, k21, k22⟩, _, _⟩ := O5.out _ J2.out.below
  go_wp2_with fail
  clear k00 k01 k02 k10 k11 k12 k20 k21 k22
  refine (HPa.out _ (O5.out _ J2.out.below).2.2).mono ?_
  rintro e u3 ⟨rfl, hb⟩
  have J3 := Lib.hid (J2.out.call hb)
  clear hb J2
  obtain ⟨⟨k00, k01, k02, k10, k11, k12, k20, k21, k22⟩, _, _⟩ := O5.out _ J3.out.below
  go_wp2_with fail
  clear k00 k01 k02 k10 k11 k12 k20 k21 k22
  refine (HPb.out _ (O5.out _ J3.out.below).2.2).mono ?_
  rintro e u4 ⟨rfl, hb⟩
  have J4 := Lib.hid (J3.out.call hb)
  clear hb J3
  go_upto_region 10 with fail
  have D0 := Lib.hid J4.out.drew
  have Q0 := Lib.hid (O5.out _ D0.out.below).1
  have hq0 := Q0.out
  go_region_held3 (fun W' => W'.cell? ⟨w.heap.size, 0, none⟩ = some (.slice aSa na cSa) ∧ W'.cell? ⟨w.heap.size, 1, none⟩ = some (.slice aMa ma cMa) ∧ W'.cell? ⟨w.heap.size, 2, none⟩ = some (.int .i64 La) ∧ W'.cell? ⟨w.heap.size + 1, 0, none⟩ = some (.slice aSb nb cSb) ∧ W'.cell? ⟨w.heap.size + 1, 1, none⟩ = some (.slice aMb mb cMb) ∧ W'.cell? ⟨w.heap.size + 1, 2, none⟩ = some (.int .i64 Lb) ∧ W'.cell? ⟨q5, 0, none⟩ = some (.slice a5 (na + nb) c5) ∧ W'.cell? ⟨q5, 1, none⟩ = some (.slice b5 (ma + mb) d5) ∧ W'.cell? ⟨q5, 2, none⟩ = some (.int .i64 (La + Lb - 1)))
    (first
      | with_reducible exact Q0.out
      | with_reducible exact Q1.out
      | with_reducible exact Q2.out
      | with_reducible exact Q3.out
      | with_reducible exact Q4.out
      | with_reducible exact Q5.out
      | with_reducible exact Q6.out)
    (first
      | ((with_reducible refine (HRs.out _ (O5.out _ D0.out.below).2.2).mono ?_); rintro e y1 ⟨a6, b6, c6, d6, rfl, ho1, ho2, hb⟩; have r1 := Lib.hid ho1.ints; have r2 := Lib.hid ho2.ints; have D1 := Lib.hid (D0.out.call hb); have Q1 := Lib.hid (O5.out _ D1.out.below).1; clear hb ho1 ho2)
      | ((with_reducible refine (HEq.out a5 b5 a6 b6 c5 d5 c6 d6 _ (O5.out _ D1.out.below).2.1.1 (O5.out _ D1.out.below).2.1.2 r1.out r2.out).mono ?_); rintro e y2 ⟨rfl, hb⟩; have D2 := Lib.hid (D1.out.call hb); have Q2 := Lib.hid (O5.out _ D2.out.below).1; clear hb)
      | ((with_reducible refine (HVg.out a5 b5 c5 d5 _ (O5.out _ D2.out.below).2.1.1 (O5.out _ D2.out.below).2.1.2).mono ?_); rintro e y3 ⟨rfl, hb⟩; have D3 := Lib.hid (D2.out.call hb); have Q3 := Lib.hid (O5.out _ D3.out.below).1; clear hb)
      | ((with_reducible refine (HCg.out a5 b5 c5 d5 _ (O5.out _ D3.out.below).2.1.1 (O5.out _ D3.out.below).2.1.2).mono ?_); rintro e y4 ⟨rfl, hb⟩; have D4 := Lib.hid (D3.out.call hb); have Q4 := Lib.hid (O5.out _ D4.out.below).1; clear hb)
      | ((with_reducible refine (HCa.out _ (O5.out _ D4.out.below).2.2).mono ?_); rintro e y5 ⟨rfl, hb⟩; have D5 := Lib.hid (D4.out.call hb); have Q5 := Lib.hid (O5.out _ D5.out.below).1; clear hb)
      | ((with_reducible refine (HCb.out _ (O5.out _ D5.out.below).2.2).mono ?_); rintro e y6 ⟨rfl, hb⟩; have D6 := Lib.hid (D5.out.call hb); have Q6 := Lib.hid (O5.out _ D6.out.below).1; clear hb))
  go_wp2_with fail
  go_ret
  exact ⟨rfl, (O5.out _ D6.out.below).2.2⟩
set_option maxRecDepth 100000 in
set_option maxHeartbeats 1000000 in
theorem lsum_e (Sa Ma : List Int) (La : Int) (aSa aMa : Option Addr) (cSa cMa : Nat) (x : Int) (Sb Mb : List Int) (Lb : Int) (aSb aMb : Option Addr) (cSb cMb : Nat) (y : Int) (w : World) (hga : greatB Sa Ma La = false) (hgb : greatB Sb Mb Lb = false) (hva : vldB Sa Ma La = true) (hvb : vldB Sb Mb Lb = true) (X Y : Nat) (hx : x = (X : Int)) (hy : y = (Y : Int)) (hX : X < 4 * Sa.length) (hY : Y < 4 * Sb.length) (hox : outB Sa X = true) (hoy : outB Sb Y = true) (hSa : IntsAt w aSa Sa) (hMa : IntsAt w aMa Ma) (hSb : IntsAt w aSb Sb) (hMb : IntsAt w aMb Mb) :
    Calls Try.prog 9 #[.agg #[.slice aSa Sa.length cSa, .slice aMa Ma.length cMa, .int .i64 La], .int .i64 x, .agg #[.slice aSb Sb.length cSb, .slice aMb Mb.length cMb, .int .i64 Lb], .int .i64 y] w fun e w' => e = .returned (.bool true) ∧ Below w.heap.size w w' := by
  obtain ⟨hga1, hga2⟩ := greatB_no hga
  obtain ⟨hgb1, hgb2⟩ := greatB_no hgb
  have HGa : Hid (∀ W', Calls Try.prog 13 #[.agg #[.slice aSa Sa.length cSa, .slice aMa Ma.length cMa, .int .i64 La]] W' fun e w' => e = .returned (.bool false) ∧ Below W'.heap.size W' w') := Lib.hid fun W' => by
    have g := great_any Sa Ma La aSa aMa cSa cMa W'
    rw [hga] at g; exact g
  have HGb : Hid (∀ W', Calls Try.prog 13 #[.agg #[.slice aSb Sb.length cSb, .slice aMb Mb.length cMb, .int .i64 Lb]] W' fun e w' => e = .returned (.bool false) ∧ Below W'.heap.size W' w') := Lib.hid fun W' => by
    have g := great_any Sb Mb Lb aSb aMb cSb cMb W'
    rw [hgb] at g; exact g
  have hsa := vldB_shape hva
  have hsb := vldB_shape hvb
  have hma := hsa.len
  have hmb := hsb.len
  have hla0 := hsa.lo
  have hlb0 := hsb.lo
  have hla : La ≤ 10 := by
    have h1 := hsa.hi
    have h2 := hga
    unfold greatB at h2
    simp only [Bool.or_eq_false_iff, Bool.and_eq_false_iff, decide_eq_false_iff_not] at h2
    omega
  have hlb : Lb ≤ 10 := by
    have h1 := hsb.hi
    have h2 := hgb
    unfold greatB at h2
    simp only [Bool.or_eq_false_iff, Bool.and_eq_false_iff, decide_eq_false_iff_not] at h2
    omega
  have hn : Sa.length + Sb.length ≤ 64 := by omega
  have hpa : placeB Sa La x = true := by rw [hx, placeB_at hX]; exact hox
  have hpb : placeB Sb Lb y = true := by rw [hy, placeB_at hY]; exact hoy
  subst hx
  subst hy
  have hgood : vldB (Sa ++ Sb) (crossL (uniM Ma Mb) X (Ma.length + Y)) (La + Lb) = true ∧ compsN (Sa ++ Sb) (crossL (uniM Ma Mb) X (Ma.length + Y)) (La + Lb) = compsN Sa Ma La + compsN Sb Mb Lb - 1 := by
    exact sum_good hva hvb hn (by omega) hX hY hox hoy
  obtain ⟨hgv, hgc⟩ := hgood
  have hVl : (crossL (uniM Ma Mb) X (Ma.length + Y)).length = Ma.length + Mb.length := by rw [crossL_len, uniM_len]
  have hTl : (Sa ++ Sb).length = Sa.length + Sb.length := List.length_append
  have HSum : Hid (∀ W', Below w.heap.size w W' → Calls Try.prog 32 #[.agg #[.slice aSa Sa.length cSa, .slice aMa Ma.length cMa, .int .i64 La], .int .i64 (X : Int), .agg #[.slice aSb Sb.length cSb, .slice aMb Mb.length cMb, .int .i64 Lb], .int .i64 (Y : Int)] W' fun e w' => ∃ a b c d, e = .returned (.tuple #[.agg #[.slice a (Sa.length + Sb.length) c, .slice b (Ma.length + Mb.length) d, .int .i64 (La + Lb)], .int .i64 0]) ∧ Own w' W'.heap.size 3 a c (ints (Sa ++ Sb)) ∧ Own w' W'.heap.size 3 b d (ints (crossL (uniM Ma Mb) X (Ma.length + Y))) ∧ Below W'.heap.size W' w') := Lib.hid fun W' h => sum_yes Sa Ma Sb Mb La Lb aSa aMa aSb aMb cSa cMa cSb cMb X Y W' hva hvb hX hY hox hoy hn (by omega) (hSa.later h) (hMa.later h) (hSb.later h) (hMb.later h)
  have HRs : Hid (∀ W', Below w.heap.size w W' → Calls Try.prog 43 #[.agg #[.slice aSa Sa.length cSa, .slice aMa Ma.length cMa, .int .i64 La], .int .i64 (X : Int), .agg #[.slice aSb Sb.length cSb, .slice aMb Mb.length cMb, .int .i64 Lb], .int .i64 (Y : Int)] W' fun e w' => ∃ a b c d, e = .returned (.agg #[.slice a (Sa.length + Sb.length) c, .slice b (Ma.length + Mb.length) d, .int .i64 (La + Lb)]) ∧ Own w' W'.heap.size 3 a c (ints (Sa ++ Sb)) ∧ Own w' W'.heap.size 3 b d (ints (crossL (uniM Ma Mb) X (Ma.length + Y))) ∧ Below W'.heap.size W' w') := Lib.hid fun W' h => rsum_yes Sa Ma La aSa aMa cSa cMa Sb Mb Lb aSb aMb cSb cMb X Y W' hva hvb hn hX hY (hSa.later h) (hMa.later h) (hSb.later h) (hMb.later h)
  have HEq : Hid (∀ (a b a' b' : Option Addr) (c d c' d' : Nat) W', IntsAt W' a (Sa ++ Sb) → IntsAt W' b (crossL (uniM Ma Mb) X (Ma.length + Y)) → IntsAt W' a' (Sa ++ Sb) → IntsAt W' b' (crossL (uniM Ma Mb) X (Ma.length + Y)) → Calls Try.prog 24 #[.agg #[.slice a (Sa.length + Sb.length) c, .slice b (Ma.length + Mb.length) d, .int .i64 (La + Lb)], .agg #[.slice a' (Sa.length + Sb.length) c', .slice b' (Ma.length + Mb.length) d', .int .i64 (La + Lb)]] W' fun e w' => e = .returned (.bool true) ∧ Below W'.heap.size W' w') := Lib.hid fun a b a' b' c d c' d' W' h1 h2 h3 h4 => by
    have g := equalR_any (Sa ++ Sb) (crossL (uniM Ma Mb) X (Ma.length + Y)) (Sa ++ Sb) (crossL (uniM Ma Mb) X (Ma.length + Y)) (La + Lb) (La + Lb) a b a' b' c d c' d' W' (by omega) (by omega) h1 h2 h3 h4
    rw [eqD_same, hTl, hVl] at g; exact g
  have HVg : Hid (∀ (a b : Option Addr) (c d : Nat) W', IntsAt W' a (Sa ++ Sb) → IntsAt W' b (crossL (uniM Ma Mb) X (Ma.length + Y)) → Calls Try.prog 26 #[.agg #[.slice a (Sa.length + Sb.length) c, .slice b (Ma.length + Mb.length) d, .int .i64 (La + Lb)]] W' fun e w' => e = .returned (.bool true) ∧ Below W'.heap.size W' w') := Lib.hid fun a b c d W' h1 h2 => by
    have g := valid_any (Sa ++ Sb) (crossL (uniM Ma Mb) X (Ma.length + Y)) (La + Lb) a b c d W' (by omega) (by omega) h1 h2
    rw [hgv, hTl, hVl] at g; exact g
  have HCg : Hid (∀ (a b : Option Addr) (c d : Nat) W', IntsAt W' a (Sa ++ Sb) → IntsAt W' b (crossL (uniM Ma Mb) X (Ma.length + Y)) → Calls Try.prog 44 #[.agg #[.slice a (Sa.length + Sb.length) c, .slice b (Ma.length + Mb.length) d, .int .i64 (La + Lb)]] W' fun e w' => e = .returned (.int .i64 (compsN Sa Ma La + compsN Sb Mb Lb - 1)) ∧ Below W'.heap.size W' w') := Lib.hid fun a b c d W' h1 h2 => by
    have g := components_any (Sa ++ Sb) (crossL (uniM Ma Mb) X (Ma.length + Y)) (La + Lb) a b c d W' (by omega) (by omega) h1 h2
    rw [hgc, hTl, hVl] at g; exact g
  have HCa : Hid (∀ W', Below w.heap.size w W' → Calls Try.prog 44 #[.agg #[.slice aSa Sa.length cSa, .slice aMa Ma.length cMa, .int .i64 La]] W' fun e w' => e = .returned (.int .i64 (compsN Sa Ma La)) ∧ Below W'.heap.size W' w') := Lib.hid fun W' h => components_any Sa Ma La aSa aMa cSa cMa W' (by omega) (by omega) (hSa.later h) (hMa.later h)
  have HCb : Hid (∀ W', Below w.heap.size w W' → Calls Try.prog 44 #[.agg #[.slice aSb Sb.length cSb, .slice aMb Mb.length cMb, .int .i64 Lb]] W' fun e w' => e = .returned (.int .i64 (compsN Sb Mb Lb)) ∧ Below W'.heap.size W' w') := Lib.hid fun W' h => components_any Sb Mb Lb aSb aMb cSb cMb W' (by omega) (by omega) (hSb.later h) (hMb.later h)
  have HRa : Hid (∀ W', Below w.heap.size w W' → Calls Try.prog 15 #[.agg #[.slice aSa Sa.length cSa, .slice aMa Ma.length cMa, .int .i64 La]] W' fun e w' => e = .returned (.bool true) ∧ Below W'.heap.size W' w') := Lib.hid fun W' h => by
    have g := rvalid_any Sa Ma La aSa aMa cSa cMa W' (by omega) (by omega) (hSa.later h) (hMa.later h)
    rw [hva] at g; exact g
  have HRb : Hid (∀ W', Below w.heap.size w W' → Calls Try.prog 15 #[.agg #[.slice aSb Sb.length cSb, .slice aMb Mb.length cMb, .int .i64 Lb]] W' fun e w' => e = .returned (.bool true) ∧ Below W'.heap.size W' w') := Lib.hid fun W' h => by
    have g := rvalid_any Sb Mb Lb aSb aMb cSb cMb W' (by omega) (by omega) (hSb.later h) (hMb.later h)
    rw [hvb] at g; exact g
  have HPa : Hid (∀ W', Below w.heap.size w W' → Calls Try.prog 22 #[.agg #[.slice aSa Sa.length cSa, .slice aMa Ma.length cMa, .int .i64 La], .int .i64 (X : Int)] W' fun e w' => e = .returned (.bool true) ∧ Below W'.heap.size W' w') := Lib.hid fun W' h => by
    have g := place_any Sa Ma La aSa aMa cSa cMa (X : Int) W' (by omega) hma (hSa.later h)
    rw [hpa] at g; exact g
  have HPb : Hid (∀ W', Below w.heap.size w W' → Calls Try.prog 22 #[.agg #[.slice aSb Sb.length cSb, .slice aMb Mb.length cMb, .int .i64 Lb], .int .i64 (Y : Int)] W' fun e w' => e = .returned (.bool true) ∧ Below W'.heap.size W' w') := Lib.hid fun W' h => by
    have g := place_any Sb Mb Lb aSb aMb cSb cMb (Y : Int) W' (by omega) hmb (hSb.later h)
    rw [hpb] at g; exact g
  have hca : 0 ≤ compsN Sa Ma La ∧ compsN Sa Ma La ≤ 1000 := by
    rw [comps_of hva]
    have h1 : (leasts Sa Ma).length ≤ 4 * Sa.length := by
      have := List.length_filter_le (fun h => outB Sa h && leastB (sc Ma) (perOf (sc Ma) (4 * Sa.length)) h) (List.range (4 * Sa.length))
      rw [List.length_range] at this; exact this
    omega
  have hcb : 0 ≤ compsN Sb Mb Lb ∧ compsN Sb Mb Lb ≤ 1000 := by
    rw [comps_of hvb]
    have h1 : (leasts Sb Mb).length ≤ 4 * Sb.length := by
      have := List.length_filter_le (fun h => outB Sb h && leastB (sc Mb) (perOf (sc Mb) (4 * Sb.length)) h) (List.range (4 * Sb.length))
      rw [List.length_range] at this; exact this
    omega
  have H0 := Lib.hid (((HH.start w).alloc #[.slice aSa Sa.length cSa, .slice aMa Ma.length cMa, .int .i64 La] 24 rfl rfl).alloc #[.slice aSb Sb.length cSb, .slice aMb Mb.length cMb, .int .i64 Lb] 24 (b := w.heap.size + 1) (by simp) rfl)
  clear hga hgb hva hvb hSa hMa hSb hMb hsa hsb hgv hgc hVl hTl hma hmb hn hpa hpb hX hY hox hoy
  generalize crossL (uniM Ma Mb) X (Ma.length + Y) = V at *
  generalize Sa ++ Sb = T at *
  generalize compsN Sa Ma La = ca at *
  generalize compsN Sb Mb Lb = cb at *
  generalize Sa.length = na at *
  generalize Sb.length = nb at *
  generalize Ma.length = ma at *
  generalize Mb.length = mb at *
  obtain ⟨ha0, ha1⟩ := hca
  obtain ⟨hb0, hb1⟩ := hcb
  have wc1 : wrap64 (ca + cb) = ca + cb := wrap_mid (by omega) (by omega)
  have wc2 : wrap64 (ca + cb - 1) = ca + cb - 1 := wrap_mid (by omega) (by omega)
  have wd1 : IntKind.i64.wrap (ca + cb) = ca + cb := wrapi_mid (by omega) (by omega)
  have wd2 : IntKind.i64.wrap (ca + cb - 1) = ca + cb - 1 := wrapi_mid (by omega) (by omega)
  go_enter Try.func9, Try.ntmps9
  go_wp2_with fail
  refine (awake_any _).mono ?_
  rintro e w1 ⟨rfl, hb⟩
  have H1 := Lib.hid (H0.out.call hb)
  clear hb H0 
  have k00 := H1.out.cell (k := 0) (i := 0) rfl rfl
  have k01 := H1.out.cell (k := 0) (i := 1) rfl rfl
  have k02 := H1.out.cell (k := 0) (i := 2) rfl rfl
  have k10 := H1.out.cell (k := 1) (i := 0) rfl rfl
  have k11 := H1.out.cell (k := 1) (i := 1) rfl rfl
  have k12 := H1.out.cell (k := 1) (i := 2) rfl rfl
  go_wp2_with fail
  clear k00 k01 k02 k10 k11 k12
  refine (HGa.out _).mono ?_
  rintro e w2 ⟨rfl, hb⟩
  have H2 := Lib.hid (H1.out.call hb)
  clear hb H1 
  have k00 := H2.out.cell (k := 0) (i := 0) rfl rfl
  have k01 := H2.out.cell (k := 0) (i := 1) rfl rfl
  have k02 := H2.out.cell (k := 0) (i := 2) rfl rfl
  have k10 := H2.out.cell (k := 1) (i := 0) rfl rfl
  have k11 := H2.out.cell (k := 1) (i := 1) rfl rfl
  have k12 := H2.out.cell (k := 1) (i := 2) rfl rfl
  go_wp2_with fail
  clear k00 k01 k02 k10 k11 k12
  refine (HGb.out _).mono ?_
  rintro e w3 ⟨rfl, hb⟩
  have H3 := Lib.hid (H2.out.call hb)
  clear hb H2 
  have k00 := H3.out.cell (k := 0) (i := 0) rfl rfl
  have k01 := H3.out.cell (k := 0) (i := 1) rfl rfl
  have k02 := H3.out.cell (k := 0) (i := 2) rfl rfl
  have k10 := H3.out.cell (k := 1) (i := 0) rfl rfl
  have k11 := H3.out.cell (k := 1) (i := 1) rfl rfl
  have k12 := H3.out.cell (k := 1) (i := 2) rfl rfl
  go_wp2_with fail
  clear k00 k01 k02 k10 k11 k12
  refine (HSum.out _ H3.out.below).mono ?_
  rintro e w5 ⟨a5, b5, c5, d5, rfl, ho1, ho2, hb⟩
  have H4 := Lib.hid ((H3.out.call hb).alloc #[.slice a5 (na + nb) c5, .slice b5 (ma + mb) d5, .int .i64 (La + Lb)] 24 (b := w5.heap.size) rfl rfl)
  have o1 := Lib.hid (ho1.alloc (.cells #[.slice a5 (na + nb) c5, .slice b5 (ma + mb) d5, .int .i64 (La + Lb)] 24)).ints
  have o2 := Lib.hid (ho2.alloc (.cells #[.slice a5 (na + nb) c5, .slice b5 (ma + mb) d5, .int .i64 (La + Lb)] 24)).ints
  clear ho1 ho2 hb H3 HSum
  go_upto_region 6 with fail
  generalize w5.alloc (.cells #[.slice a5 (na + nb) c5, .slice b5 (ma + mb) d5, .int .i64 (La + Lb)] 24) = v5 at *
  generalize w5.heap.size = q5 at *
  have O5 : Hid (∀ W', Below v5.heap.size v5 W' → (W'.cell? ⟨w.heap.size, 0, none⟩ = some (.slice aSa na cSa) ∧ W'.cell? ⟨w.heap.size, 1, none⟩ = some (.slice aMa ma cMa) ∧ W'.cell? ⟨w.heap.size, 2, none⟩ = some (.int .i64 La) ∧ W'.cell? ⟨w.heap.size + 1, 0, none⟩ = some (.slice aSb nb cSb) ∧ W'.cell? ⟨w.heap.size + 1, 1, none⟩ = some (.slice aMb mb cMb) ∧ W'.cell? ⟨w.heap.size + 1, 2, none⟩ = some (.int .i64 Lb) ∧ W'.cell? ⟨q5, 0, none⟩ = some (.slice a5 (na + nb) c5) ∧ W'.cell? ⟨q5, 1, none⟩ = some (.slice b5 (ma + mb) d5) ∧ W'.cell? ⟨q5, 2, none⟩ = some (.int .i64 (La + Lb))) ∧ (IntsAt W' a5 T ∧ IntsAt W' b5 V) ∧ Below w.heap.size w W') := Lib.hid fun W' h => by
    have H5 := H4.out.call h
    exact ⟨⟨H5.cell (k := 0) (i := 0) rfl rfl, H5.cell (k := 0) (i := 1) rfl rfl, H5.cell (k := 0) (i := 2) rfl rfl, H5.cell (k := 1) (i := 0) rfl rfl, H5.cell (k := 1) (i := 1) rfl rfl, H5.cell (k := 1) (i := 2) rfl rfl, H5.cell (k := 2) (i := 0) rfl rfl, H5.cell (k := 2) (i := 1) rfl rfl, H5.cell (k := 2) (i := 2) rfl rfl⟩, ⟨o1.out.later h, o2.out.later h⟩, H5.below⟩
  have J0 := Lib.hid (HH.start v5)
  clear o1 o2 H4
  obtain ⟨⟨k00, k01, k02, k10, k11, k12, k20, k21, k22⟩, _, _⟩ := O5.out _ J0.out.below
  go_wp2_with fail
  clear k00 k01 k02 k10 k11 k12 k20 k21 k22
  refine (HRa.out _ (O5.out _ J0.out.below).2.2).mono ?_
  rintro e u1 ⟨rfl, hb⟩
  have J1 := Lib.hid (J0.out.call hb)
  clear hb J0
  obtain ⟨⟨k00, k01, k02, k10, k11, k12, k20, k21, k22⟩, _, _⟩ := O5.out _ J1.out.below
  go_wp2_with fail
  clear k00 k01 k02 k10 k11 k12 k20 k21 k22
  refine (HRb.out _ (O5.out _ J1.out.below).2.2).mono ?_
  rintro e u2 ⟨rfl, hb⟩
  have J2 := Lib.hid (J1.out.call hb)
  clear hb J1
  obtain ⟨⟨k00, k01, k02, k10, k11, k12, k20, k21, k22⟩, _, _⟩ := O5.out _ J2.out.below
  go_wp2_with fail
  clear k00 k01 k02 k10 k11 k12 k20 k21 k22
  refine (HPa.out _ (O5.out _ J2.out.below).2.2).mono ?_
  rintro e u3 ⟨rfl, hb⟩
  have J3 := Lib.hid (J2.out.call hb)
  clear hb J2
  obtain ⟨⟨k00, k01, k02, k10, k11, k12, k20, k21, k22⟩, _, _⟩ := O5.out _ J3.out.below
  go_wp2_with fail
  clear k00 k01 k02 k10 k11 k12 k20 k21 k22
  refine (HPb.out _ (O5.out _ J3.out.below).2.2).mono ?_
  rintro e u4 ⟨rfl, hb⟩
  have J4 := Lib.hid (J3.out.call hb)
  clear hb J3
  go_upto_region 10 with fail
  have D0 := Lib.hid J4.out.drew
  have Q0 := Lib.hid (O5.out _ D0.out.below).1
  have hq0 := Q0.out
  go_region_held3 (fun W' => W'.cell? ⟨w.heap.size, 0, none⟩ = some (.slice aSa na cSa) ∧ W'.cell? ⟨w.heap.size, 1, none⟩ = some (.slice aMa ma cMa) ∧ W'.cell? ⟨w.heap.size, 2, none⟩ = some (.int .i64 La) ∧ W'.cell? ⟨w.heap.size + 1, 0, none⟩ = some (.slice aSb nb cSb) ∧ W'.cell? ⟨w.heap.size + 1, 1, none⟩ = some (.slice aMb mb cMb) ∧ W'.cell? ⟨w.heap.size + 1, 2, none⟩ = some (.int .i64 Lb) ∧ W'.cell? ⟨q5, 0, none⟩ = some (.slice a5 (na + nb) c5) ∧ W'.cell? ⟨q5, 1, none⟩ = some (.slice b5 (ma + mb) d5) ∧ W'.cell? ⟨q5, 2, none⟩ = some (.int .i64 (La + Lb)))
    (first
      | with_reducible exact Q0.out
      | with_reducible exact Q1.out
      | with_reducible exact Q2.out
      | with_reducible exact Q3.out
      | with_reducible exact Q4.out
      | with_reducible exact Q5.out
      | with_reducible exact Q6.out)
    (first
      | ((with_reducible refine (HRs.out _ (O5.out _ D0.out.below).2.2).mono ?_); rintro e y1 ⟨a6, b6, c6, d6, rfl, ho1, ho2, hb⟩; have r1 := Lib.hid ho1.ints; have r2 := Lib.hid ho2.ints; have D1 := Lib.hid (D0.out.call hb); have Q1 := Lib.hid (O5.out _ D1.out.below).1; clear hb ho1 ho2)
      | ((with_reducible refine (HEq.out a5 b5 a6 b6 c5 d5 c6 d6 _ (O5.out _ D1.out.below).2.1.1 (O5.out _ D1.out.below).2.1.2 r1.out r2.out).mono ?_); rintro e y2 ⟨rfl, hb⟩; have D2 := Lib.hid (D1.out.call hb); have Q2 := Lib.hid (O5.out _ D2.out.below).1; clear hb)
      | ((with_reducible refine (HVg.out a5 b5 c5 d5 _ (O5.out _ D2.out.below).2.1.1 (O5.out _ D2.out.below).2.1.2).mono ?_); rintro e y3 ⟨rfl, hb⟩; have D3 := Lib.hid (D2.out.call hb); have Q3 := Lib.hid (O5.out _ D3.out.below).1; clear hb)
      | ((with_reducible refine (HCg.out a5 b5 c5 d5 _ (O5.out _ D3.out.below).2.1.1 (O5.out _ D3.out.below).2.1.2).mono ?_); rintro e y4 ⟨rfl, hb⟩; have D4 := Lib.hid (D3.out.call hb); have Q4 := Lib.hid (O5.out _ D4.out.below).1; clear hb)
      | ((with_reducible refine (HCa.out _ (O5.out _ D4.out.below).2.2).mono ?_); rintro e y5 ⟨rfl, hb⟩; have D5 := Lib.hid (D4.out.call hb); have Q5 := Lib.hid (O5.out _ D5.out.below).1; clear hb)
      | ((with_reducible refine (HCb.out _ (O5.out _ D5.out.below).2.2).mono ?_); rintro e y6 ⟨rfl, hb⟩; have D6 := Lib.hid (D5.out.call hb); have Q6 := Lib.hid (O5.out _ D6.out.below).1; clear hb))
  go_wp2_with fail
  go_ret
  exact ⟨rfl, (O5.out _ D6.out.below).2.2⟩
theorem lsum_any (Sa Ma : List Int) (La : Int) (aSa aMa : Option Addr) (cSa cMa : Nat) (x : Int) (Sb Mb : List Int) (Lb : Int) (aSb aMb : Option Addr) (cSb cMb : Nat) (y : Int) (w : World) (_ : Sa.length ≤ maxLen) (_ : Ma.length ≤ maxLen) (_ : (Lit.int .i64 La).wf = true) (hSa : IntsAt w aSa Sa) (hMa : IntsAt w aMa Ma) (_ : (Lit.int .i64 x).wf = true) (_ : Sb.length ≤ maxLen) (_ : Mb.length ≤ maxLen) (_ : (Lit.int .i64 Lb).wf = true) (hSb : IntsAt w aSb Sb) (hMb : IntsAt w aMb Mb) (_ : (Lit.int .i64 y).wf = true) :
    Calls Try.prog 9 #[.agg #[.slice aSa Sa.length cSa, .slice aMa Ma.length cMa, .int .i64 La], .int .i64 x, .agg #[.slice aSb Sb.length cSb, .slice aMb Mb.length cMb, .int .i64 Lb], .int .i64 y] w fun e w' => e = .returned (.bool true) ∧ Below w.heap.size w w' := by
  cases hga : greatB Sa Ma La
  · cases hgb : greatB Sb Mb Lb
    · cases hva : vldB Sa Ma La
      · exact lsum_aa Sa Ma La aSa aMa cSa cMa x Sb Mb Lb aSb aMb cSb cMb y w hga hgb hva hSa hMa hSb hMb
      · cases hvb : vldB Sb Mb Lb
        · exact lsum_ab Sa Ma La aSa aMa cSa cMa x Sb Mb Lb aSb aMb cSb cMb y w hga hgb hva hvb hSa hMa hSb hMb
        · cases hpa : placeB Sa La x
          · exact lsum_ra Sa Ma La aSa aMa cSa cMa x Sb Mb Lb aSb aMb cSb cMb y w hga hgb hva hvb hpa hSa hMa hSb hMb
          · cases hpb : placeB Sb Lb y
            · exact lsum_rb Sa Ma La aSa aMa cSa cMa x Sb Mb Lb aSb aMb cSb cMb y w hga hgb hva hvb hpa hpb hSa hMa hSb hMb
            · by_cases hx : x = -1
              · exact lsum_l Sa Ma La aSa aMa cSa cMa x Sb Mb Lb aSb aMb cSb cMb y w hga hgb hva hvb hpa hpb hx hSa hMa hSb hMb
              · by_cases hy : y = -1
                · exact lsum_m Sa Ma La aSa aMa cSa cMa x Sb Mb Lb aSb aMb cSb cMb y w hga hgb hva hvb hpa hpb hx hy hSa hMa hSb hMb
                · have gx : 0 ≤ x ∧ x < 4 * (Sa.length : Int) := by
                    by_cases g : 0 ≤ x ∧ x < 4 * (Sa.length : Int)
                    · exact g
                    · rw [placeB_out hx g] at hpa; cases hpa
                  have gy : 0 ≤ y ∧ y < 4 * (Sb.length : Int) := by
                    by_cases g : 0 ≤ y ∧ y < 4 * (Sb.length : Int)
                    · exact g
                    · rw [placeB_out hy g] at hpb; cases hpb
                  obtain ⟨X, hX⟩ : ∃ X : Nat, x = (X : Int) := ⟨x.toNat, by omega⟩
                  obtain ⟨Y, hY⟩ : ∃ Y : Nat, y = (Y : Int) := ⟨y.toNat, by omega⟩
                  have hX4 : X < 4 * Sa.length := by omega
                  have hY4 : Y < 4 * Sb.length := by omega
                  rw [hX, placeB_at hX4] at hpa
                  rw [hY, placeB_at hY4] at hpb
                  exact lsum_e Sa Ma La aSa aMa cSa cMa x Sb Mb Lb aSb aMb cSb cMb y w hga hgb hva hvb X Y hX hY hX4 hY4 hpa hpb hSa hMa hSb hMb
    · exact lsum_gb Sa Ma La aSa aMa cSa cMa x Sb Mb Lb aSb aMb cSb cMb y w hga hgb
  · exact lsum_ga Sa Ma La aSa aMa cSa cMa x Sb Mb Lb aSb aMb cSb cMb y w hga
end Go.Proofs.Ytmjoijfafachhaa
