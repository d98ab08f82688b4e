/- The walk of the law ConnectUndoes. -/
import Derived.Test.YtmjoijfafachhaaUndP
import Derived.Test.YtmjoijfafachhaaSumD
import Derived.Test.YtmjoijfafachhaaBadW
import Derived.Test.YtmjoijfafachhaaCtnW
import Derived.Test.YtmjoijfafachhaaEqlW
import Derived.Test.YtmjoijfafachhaaGreatW
import Derived.Test.YtmjoijfafachhaaAwkW
import Derived.Deep.RegionHeld3
namespace Go.Proofs.Ytmjoijfafachhaa
open Go Go.RowKit
/-- How many graph components Graph lists. -/
noncomputable def gN (S M : List Int) (L : Int) : Nat := if vldB S M L = true then (grpOf M S.length).length else 0
theorem gN_le (S M : List Int) (L : Int) : gN S M L ≤ 64 := by
  unfold gN
  split
  · rename_i hv
    have := grp_len M S.length
    have := (vldB_shape hv).few
    omega
  · omega
theorem gN_one {S M : List Int} {L : Int} (h : gN S M L = 1) : vldB S M L = true ∧ (grpOf M S.length).length = 1 := by
  unfold gN at h
  split at h
  · rename_i hv; exact ⟨hv, h⟩
  · omega
theorem graph_cnt (S M : List Int) (L : Int) (aS aM : Option Addr) (cS cM : Nat) (w : World) (hSl : S.length ≤ 1000000000) (hMl : M.length ≤ 1000000000) (hS : IntsAt w aS S) (hM : IntsAt w aM M) :
    Calls Try.prog 28 #[.agg #[.slice aS S.length cS, .slice aM M.length cM, .int .i64 L]] w fun e w' => ∃ A C, e = .returned (.slice A (gN S M L) C) ∧ Below w.heap.size w w' := by
  unfold gN
  cases hv : vldB S M L
  · rw [if_neg (by decide)]
    exact (graph_no S M L aS aM cS cM w hSl hMl hv hS hM).mono fun e w' ⟨he, hb⟩ => ⟨none, 0, he, hb⟩
  · rw [if_pos rfl]
    exact (graph_any S M L aS aM cS cM w hv hS hM).mono fun e w' ⟨A, C, he, _, hb⟩ => ⟨A, C, he, hb⟩
set_option maxRecDepth 100000 in
set_option maxHeartbeats 2000000 in
theorem lund_ga (Sa Ma : List Int) (La : Int) (aSa aMa : Option Addr) (cSa cMa : Nat) (x : Int) (Sb Mb : List Int) (Lb : Int) (aSb aMb : Option Addr) (cSb cMb : Nat) (y : Int) (w : World) (hga : greatB Sa Ma La = true) :
    Calls Try.prog 6 #[.agg #[.slice aSa Sa.length cSa, .slice aMa Ma.length cMa, .int .i64 La], .int .i64 x, .agg #[.slice aSb Sb.length cSb, .slice aMb Mb.length cMb, .int .i64 Lb], .int .i64 y] w fun e w' => e = .returned (.bool true) ∧ Below w.heap.size w w' := by
  have HGa : Hid (∀ W', Calls Try.prog 13 #[.agg #[.slice aSa Sa.length cSa, .slice aMa Ma.length cMa, .int .i64 La]] W' fun e w' => e = .returned (.bool true) ∧ Below W'.heap.size W' w') := Lib.hid fun W' => by
    have g := great_any Sa Ma La aSa aMa cSa cMa W'
    rw [hga] at g; exact g
  have H0 := Lib.hid (((HH.start w).alloc #[.slice aSa Sa.length cSa, .slice aMa Ma.length cMa, .int .i64 La] 24 rfl rfl).alloc #[.slice aSb Sb.length cSb, .slice aMb Mb.length cMb, .int .i64 Lb] 24 (b := w.heap.size + 1) (by simp) rfl)
  clear hga
  go_enter Try.func6, Try.ntmps6
  go_wp2_with fail
  refine (awake_any _).mono ?_
  rintro e w1 ⟨rfl, hb⟩
  have H1 := Lib.hid (H0.out.call hb)
  clear hb H0 
  have k00 := H1.out.cell (k := 0) (i := 0) rfl rfl
  have k01 := H1.out.cell (k := 0) (i := 1) rfl rfl
  have k02 := H1.out.cell (k := 0) (i := 2) rfl rfl
  have k10 := H1.out.cell (k := 1) (i := 0) rfl rfl
  have k11 := H1.out.cell (k := 1) (i := 1) rfl rfl
  have k12 := H1.out.cell (k := 1) (i := 2) rfl rfl
  go_wp2_with fail
  clear k00 k01 k02 k10 k11 k12
  refine (HGa.out _).mono ?_
  rintro e w2 ⟨rfl, hb⟩
  have H2 := Lib.hid (H1.out.call hb)
  clear hb H1 
  go_wp2_with fail
  go_ret
  exact ⟨rfl, H2.out.below⟩
set_option maxRecDepth 100000 in
set_option maxHeartbeats 2000000 in
theorem lund_gb (Sa Ma : List Int) (La : Int) (aSa aMa : Option Addr) (cSa cMa : Nat) (x : Int) (Sb Mb : List Int) (Lb : Int) (aSb aMb : Option Addr) (cSb cMb : Nat) (y : Int) (w : World) (hga : greatB Sa Ma La = false) (hgb : greatB Sb Mb Lb = true) :
    Calls Try.prog 6 #[.agg #[.slice aSa Sa.length cSa, .slice aMa Ma.length cMa, .int .i64 La], .int .i64 x, .agg #[.slice aSb Sb.length cSb, .slice aMb Mb.length cMb, .int .i64 Lb], .int .i64 y] w fun e w' => e = .returned (.bool true) ∧ Below w.heap.size w w' := by
  have HGa : Hid (∀ W', Calls Try.prog 13 #[.agg #[.slice aSa Sa.length cSa, .slice aMa Ma.length cMa, .int .i64 La]] W' fun e w' => e = .returned (.bool false) ∧ Below W'.heap.size W' w') := Lib.hid fun W' => by
    have g := great_any Sa Ma La aSa aMa cSa cMa W'
    rw [hga] at g; exact g
  have HGb : Hid (∀ W', Calls Try.prog 13 #[.agg #[.slice aSb Sb.length cSb, .slice aMb Mb.length cMb, .int .i64 Lb]] W' fun e w' => e = .returned (.bool true) ∧ Below W'.heap.size W' w') := Lib.hid fun W' => by
    have g := great_any Sb Mb Lb aSb aMb cSb cMb W'
    rw [hgb] at g; exact g
  have H0 := Lib.hid (((HH.start w).alloc #[.slice aSa Sa.length cSa, .slice aMa Ma.length cMa, .int .i64 La] 24 rfl rfl).alloc #[.slice aSb Sb.length cSb, .slice aMb Mb.length cMb, .int .i64 Lb] 24 (b := w.heap.size + 1) (by simp) rfl)
  clear hga hgb
  go_enter Try.func6, Try.ntmps6
  go_wp2_with fail
  refine (awake_any _).mono ?_
  rintro e w1 ⟨rfl, hb⟩
  have H1 := Lib.hid (H0.out.call hb)
  clear hb H0 
  have k00 := H1.out.cell (k := 0) (i := 0) rfl rfl
  have k01 := H1.out.cell (k := 0) (i := 1) rfl rfl
  have k02 := H1.out.cell (k := 0) (i := 2) rfl rfl
  have k10 := H1.out.cell (k := 1) (i := 0) rfl rfl
  have k11 := H1.out.cell (k := 1) (i := 1) rfl rfl
  have k12 := H1.out.cell (k := 1) (i := 2) rfl rfl
  go_wp2_with fail
  clear k00 k01 k02 k10 k11 k12
  refine (HGa.out _).mono ?_
  rintro e w2 ⟨rfl, hb⟩
  have H2 := Lib.hid (H1.out.call hb)
  clear hb H1 
  have k00 := H2.out.cell (k := 0) (i := 0) rfl rfl
  have k01 := H2.out.cell (k := 0) (i := 1) rfl rfl
  have k02 := H2.out.cell (k := 0) (i := 2) rfl rfl
  have k10 := H2.out.cell (k := 1) (i := 0) rfl rfl
  have k11 := H2.out.cell (k := 1) (i := 1) rfl rfl
  have k12 := H2.out.cell (k := 1) (i := 2) rfl rfl
  go_wp2_with fail
  clear k00 k01 k02 k10 k11 k12
  refine (HGb.out _).mono ?_
  rintro e w3 ⟨rfl, hb⟩
  have H3 := Lib.hid (H2.out.call hb)
  clear hb H2 
  go_wp2_with fail
  go_ret
  exact ⟨rfl, H3.out.below⟩
set_option maxRecDepth 100000 in
set_option maxHeartbeats 2000000 in
theorem lund_x (Sa Ma : List Int) (La : Int) (aSa aMa : Option Addr) (cSa cMa : Nat) (x : Int) (Sb Mb : List Int) (Lb : Int) (aSb aMb : Option Addr) (cSb cMb : Nat) (y : Int) (w : World) (hga : greatB Sa Ma La = false) (hgb : greatB Sb Mb Lb = false) (hx : x < 0) :
    Calls Try.prog 6 #[.agg #[.slice aSa Sa.length cSa, .slice aMa Ma.length cMa, .int .i64 La], .int .i64 x, .agg #[.slice aSb Sb.length cSb, .slice aMb Mb.length cMb, .int .i64 Lb], .int .i64 y] w fun e w' => e = .returned (.bool true) ∧ Below w.heap.size w w' := by
  have HGa : Hid (∀ W', Calls Try.prog 13 #[.agg #[.slice aSa Sa.length cSa, .slice aMa Ma.length cMa, .int .i64 La]] W' fun e w' => e = .returned (.bool false) ∧ Below W'.heap.size W' w') := Lib.hid fun W' => by
    have g := great_any Sa Ma La aSa aMa cSa cMa W'
    rw [hga] at g; exact g
  have HGb : Hid (∀ W', Calls Try.prog 13 #[.agg #[.slice aSb Sb.length cSb, .slice aMb Mb.length cMb, .int .i64 Lb]] W' fun e w' => e = .returned (.bool false) ∧ Below W'.heap.size W' w') := Lib.hid fun W' => by
    have g := great_any Sb Mb Lb aSb aMb cSb cMb W'
    rw [hgb] at g; exact g
  have H0 := Lib.hid (((HH.start w).alloc #[.slice aSa Sa.length cSa, .slice aMa Ma.length cMa, .int .i64 La] 24 rfl rfl).alloc #[.slice aSb Sb.length cSb, .slice aMb Mb.length cMb, .int .i64 Lb] 24 (b := w.heap.size + 1) (by simp) rfl)
  have t1 : decide (x < 0) = true := decide_eq_true hx
  clear hga hgb hx
  go_enter Try.func6, Try.ntmps6
  go_wp2_with fail
  refine (awake_any _).mono ?_
  rintro e w1 ⟨rfl, hb⟩
  have H1 := Lib.hid (H0.out.call hb)
  clear hb H0 
  have k00 := H1.out.cell (k := 0) (i := 0) rfl rfl
  have k01 := H1.out.cell (k := 0) (i := 1) rfl rfl
  have k02 := H1.out.cell (k := 0) (i := 2) rfl rfl
  have k10 := H1.out.cell (k := 1) (i := 0) rfl rfl
  have k11 := H1.out.cell (k := 1) (i := 1) rfl rfl
  have k12 := H1.out.cell (k := 1) (i := 2) rfl rfl
  go_wp2_with fail
  clear k00 k01 k02 k10 k11 k12
  refine (HGa.out _).mono ?_
  rintro e w2 ⟨rfl, hb⟩
  have H2 := Lib.hid (H1.out.call hb)
  clear hb H1 
  have k00 := H2.out.cell (k := 0) (i := 0) rfl rfl
  have k01 := H2.out.cell (k := 0) (i := 1) rfl rfl
  have k02 := H2.out.cell (k := 0) (i := 2) rfl rfl
  have k10 := H2.out.cell (k := 1) (i := 0) rfl rfl
  have k11 := H2.out.cell (k := 1) (i := 1) rfl rfl
  have k12 := H2.out.cell (k := 1) (i := 2) rfl rfl
  go_wp2_with fail
  clear k00 k01 k02 k10 k11 k12
  refine (HGb.out _).mono ?_
  rintro e w3 ⟨rfl, hb⟩
  have H3 := Lib.hid (H2.out.call hb)
  clear hb H2 
  go_wp2_with fail
  go_ret
  exact ⟨rfl, H3.out.below⟩
set_option maxRecDepth 100000 in
set_option maxHeartbeats 2000000 in
theorem lund_y (Sa Ma : List Int) (La : Int) (aSa aMa : Option Addr) (cSa cMa : Nat) (x : Int) (Sb Mb : List Int) (Lb : Int) (aSb aMb : Option Addr) (cSb cMb : Nat) (y : Int) (w : World) (hga : greatB Sa Ma La = false) (hgb : greatB Sb Mb Lb = false) (hx : 0 ≤ x) (hy : y < 0) :
    Calls Try.prog 6 #[.agg #[.slice aSa Sa.length cSa, .slice aMa Ma.length cMa, .int .i64 La], .int .i64 x, .agg #[.slice aSb Sb.length cSb, .slice aMb Mb.length cMb, .int .i64 Lb], .int .i64 y] w fun e w' => e = .returned (.bool true) ∧ Below w.heap.size w w' := by
  have HGa : Hid (∀ W', Calls Try.prog 13 #[.agg #[.slice aSa Sa.length cSa, .slice aMa Ma.length cMa, .int .i64 La]] W' fun e w' => e = .returned (.bool false) ∧ Below W'.heap.size W' w') := Lib.hid fun W' => by
    have g := great_any Sa Ma La aSa aMa cSa cMa W'
    rw [hga] at g; exact g
  have HGb : Hid (∀ W', Calls Try.prog 13 #[.agg #[.slice aSb Sb.length cSb, .slice aMb Mb.length cMb, .int .i64 Lb]] W' fun e w' => e = .returned (.bool false) ∧ Below W'.heap.size W' w') := Lib.hid fun W' => by
    have g := great_any Sb Mb Lb aSb aMb cSb cMb W'
    rw [hgb] at g; exact g
  have H0 := Lib.hid (((HH.start w).alloc #[.slice aSa Sa.length cSa, .slice aMa Ma.length cMa, .int .i64 La] 24 rfl rfl).alloc #[.slice aSb Sb.length cSb, .slice aMb Mb.length cMb, .int .i64 Lb] 24 (b := w.heap.size + 1) (by simp) rfl)
  have t1 : decide (x < 0) = false := decide_eq_false (by omega)
  have t2 : decide (y < 0) = true := decide_eq_true hy
  clear hga hgb hx hy
  go_enter Try.func6, Try.ntmps6
  go_wp2_with fail
  refine (awake_any _).mono ?_
  rintro e w1 ⟨rfl, hb⟩
  have H1 := Lib.hid (H0.out.call hb)
  clear hb H0 
  have k00 := H1.out.cell (k := 0) (i := 0) rfl rfl
  have k01 := H1.out.cell (k := 0) (i := 1) rfl rfl
  have k02 := H1.out.cell (k := 0) (i := 2) rfl rfl
  have k10 := H1.out.cell (k := 1) (i := 0) rfl rfl
  have k11 := H1.out.cell (k := 1) (i := 1) rfl rfl
  have k12 := H1.out.cell (k := 1) (i := 2) rfl rfl
  go_wp2_with fail
  clear k00 k01 k02 k10 k11 k12
  refine (HGa.out _).mono ?_
  rintro e w2 ⟨rfl, hb⟩
  have H2 := Lib.hid (H1.out.call hb)
  clear hb H1 
  have k00 := H2.out.cell (k := 0) (i := 0) rfl rfl
  have k01 := H2.out.cell (k := 0) (i := 1) rfl rfl
  have k02 := H2.out.cell (k := 0) (i := 2) rfl rfl
  have k10 := H2.out.cell (k := 1) (i := 0) rfl rfl
  have k11 := H2.out.cell (k := 1) (i := 1) rfl rfl
  have k12 := H2.out.cell (k := 1) (i := 2) rfl rfl
  go_wp2_with fail
  clear k00 k01 k02 k10 k11 k12
  refine (HGb.out _).mono ?_
  rintro e w3 ⟨rfl, hb⟩
  have H3 := Lib.hid (H2.out.call hb)
  clear hb H2 
  go_wp2_with fail
  go_ret
  exact ⟨rfl, H3.out.below⟩
set_option maxRecDepth 100000 in
set_option maxHeartbeats 2000000 in
theorem lund_p (Sa Ma : List Int) (La : Int) (aSa aMa : Option Addr) (cSa cMa : Nat) (x : Int) (Sb Mb : List Int) (Lb : Int) (aSb aMb : Option Addr) (cSb cMb : Nat) (y : Int) (w : World) (hga : greatB Sa Ma La = false) (hgb : greatB Sb Mb Lb = false) (hx : 0 ≤ x) (hy : 0 ≤ y) (hp : gN Sa Ma La ≠ 1) (hSa : IntsAt w aSa Sa) (hMa : IntsAt w aMa Ma) :
    Calls Try.prog 6 #[.agg #[.slice aSa Sa.length cSa, .slice aMa Ma.length cMa, .int .i64 La], .int .i64 x, .agg #[.slice aSb Sb.length cSb, .slice aMb Mb.length cMb, .int .i64 Lb], .int .i64 y] w fun e w' => e = .returned (.bool true) ∧ Below w.heap.size w w' := by
  obtain ⟨hga1, hga2⟩ := greatB_no hga
  obtain ⟨hgb1, hgb2⟩ := greatB_no hgb
  have HGa : Hid (∀ W', Calls Try.prog 13 #[.agg #[.slice aSa Sa.length cSa, .slice aMa Ma.length cMa, .int .i64 La]] W' fun e w' => e = .returned (.bool false) ∧ Below W'.heap.size W' w') := Lib.hid fun W' => by
    have g := great_any Sa Ma La aSa aMa cSa cMa W'
    rw [hga] at g; exact g
  have HGb : Hid (∀ W', Calls Try.prog 13 #[.agg #[.slice aSb Sb.length cSb, .slice aMb Mb.length cMb, .int .i64 Lb]] W' fun e w' => e = .returned (.bool false) ∧ Below W'.heap.size W' w') := Lib.hid fun W' => by
    have g := great_any Sb Mb Lb aSb aMb cSb cMb W'
    rw [hgb] at g; exact g
  have HGra : Hid (∀ W', Below w.heap.size w W' → Calls Try.prog 28 #[.agg #[.slice aSa Sa.length cSa, .slice aMa Ma.length cMa, .int .i64 La]] W' fun e w' => ∃ A C, e = .returned (.slice A (gN Sa Ma La) C) ∧ Below W'.heap.size W' w') := Lib.hid fun W' h => graph_cnt Sa Ma La aSa aMa cSa cMa W' (by omega) (by omega) (hSa.later h) (hMa.later h)
  have hgla := gN_le Sa Ma La
  have H0 := Lib.hid (((HH.start w).alloc #[.slice aSa Sa.length cSa, .slice aMa Ma.length cMa, .int .i64 La] 24 rfl rfl).alloc #[.slice aSb Sb.length cSb, .slice aMb Mb.length cMb, .int .i64 Lb] 24 (b := w.heap.size + 1) (by simp) rfl)
  have t1 : decide (x < 0) = false := decide_eq_false (by omega)
  have t2 : decide (y < 0) = false := decide_eq_false (by omega)
  have u1 : (((gN Sa Ma La : Nat) : Int) != 1) = true := by simp; omega
  clear hp
  clear hga hgb hx hy hSa hMa
  generalize gN Sa Ma La = ka at *
  generalize Sa.length = na at *
  generalize Sb.length = nb at *
  generalize Ma.length = ma at *
  generalize Mb.length = mb at *
  go_enter Try.func6, Try.ntmps6
  go_wp2_with fail
  refine (awake_any _).mono ?_
  rintro e w1 ⟨rfl, hb⟩
  have H1 := Lib.hid (H0.out.call hb)
  clear hb H0 
  have k00 := H1.out.cell (k := 0) (i := 0) rfl rfl
  have k01 := H1.out.cell (k := 0) (i := 1) rfl rfl
  have k02 := H1.out.cell (k := 0) (i := 2) rfl rfl
  have k10 := H1.out.cell (k := 1) (i := 0) rfl rfl
  have k11 := H1.out.cell (k := 1) (i := 1) rfl rfl
  have k12 := H1.out.cell (k := 1) (i := 2) rfl rfl
  go_wp2_with fail
  clear k00 k01 k02 k10 k11 k12
  refine (HGa.out _).mono ?_
  rintro e w2 ⟨rfl, hb⟩
  have H2 := Lib.hid (H1.out.call hb)
  clear hb H1 
  have k00 := H2.out.cell (k := 0) (i := 0) rfl rfl
  have k01 := H2.out.cell (k := 0) (i := 1) rfl rfl
  have k02 := H2.out.cell (k := 0) (i := 2) rfl rfl
  have k10 := H2.out.cell (k := 1) (i := 0) rfl rfl
  have k11 := H2.out.cell (k := 1) (i := 1) rfl rfl
  have k12 := H2.out.cell (k := 1) (i := 2) rfl rfl
  go_wp2_with fail
  clear k00 k01 k02 k10 k11 k12
  refine (HGb.out _).mono ?_
  rintro e w3 ⟨rfl, hb⟩
  have H3 := Lib.hid (H2.out.call hb)
  clear hb H2 
  have k00 := H3.out.cell (k := 0) (i := 0) rfl rfl
  have k01 := H3.out.cell (k := 0) (i := 1) rfl rfl
  have k02 := H3.out.cell (k := 0) (i := 2) rfl rfl
  have k10 := H3.out.cell (k := 1) (i := 0) rfl rfl
  have k11 := H3.out.cell (k := 1) (i := 1) rfl rfl
  have k12 := H3.out.cell (k := 1) (i := 2) rfl rfl
  go_wp2_with fail
  clear k00 k01 k02 k10 k11 k12
  refine (HGra.out _ H3.out.below).mono ?_
  rintro e w4 ⟨A4, C4, rfl, hb⟩
  have H4 := Lib.hid (H3.out.call hb)
  clear hb H3 
  go_wp2_with fail
  go_ret
  exact ⟨rfl, H4.out.below⟩
set_option maxRecDepth 100000 in
set_option maxHeartbeats 2000000 in
theorem lund_q (Sa Ma : List Int) (La : Int) (aSa aMa : Option Addr) (cSa cMa : Nat) (x : Int) (Sb Mb : List Int) (Lb : Int) (aSb aMb : Option Addr) (cSb cMb : Nat) (y : Int) (w : World) (hga : greatB Sa Ma La = false) (hgb : greatB Sb Mb Lb = false) (hx : 0 ≤ x) (hy : 0 ≤ y) (hp : gN Sa Ma La = 1) (hq : gN Sb Mb Lb ≠ 1) (hSa : IntsAt w aSa Sa) (hMa : IntsAt w aMa Ma) (hSb : IntsAt w aSb Sb) (hMb : IntsAt w aMb Mb) :
    Calls Try.prog 6 #[.agg #[.slice aSa Sa.length cSa, .slice aMa Ma.length cMa, .int .i64 La], .int .i64 x, .agg #[.slice aSb Sb.length cSb, .slice aMb Mb.length cMb, .int .i64 Lb], .int .i64 y] w fun e w' => e = .returned (.bool true) ∧ Below w.heap.size w w' := by
  obtain ⟨hga1, hga2⟩ := greatB_no hga
  obtain ⟨hgb1, hgb2⟩ := greatB_no hgb
  have HGa : Hid (∀ W', Calls Try.prog 13 #[.agg #[.slice aSa Sa.length cSa, .slice aMa Ma.length cMa, .int .i64 La]] W' fun e w' => e = .returned (.bool false) ∧ Below W'.heap.size W' w') := Lib.hid fun W' => by
    have g := great_any Sa Ma La aSa aMa cSa cMa W'
    rw [hga] at g; exact g
  have HGb : Hid (∀ W', Calls Try.prog 13 #[.agg #[.slice aSb Sb.length cSb, .slice aMb Mb.length cMb, .int .i64 Lb]] W' fun e w' => e = .returned (.bool false) ∧ Below W'.heap.size W' w') := Lib.hid fun W' => by
    have g := great_any Sb Mb Lb aSb aMb cSb cMb W'
    rw [hgb] at g; exact g
  have HGra : Hid (∀ W', Below w.heap.size w W' → Calls Try.prog 28 #[.agg #[.slice aSa Sa.length cSa, .slice aMa Ma.length cMa, .int .i64 La]] W' fun e w' => ∃ A C, e = .returned (.slice A (gN Sa Ma La) C) ∧ Below W'.heap.size W' w') := Lib.hid fun W' h => graph_cnt Sa Ma La aSa aMa cSa cMa W' (by omega) (by omega) (hSa.later h) (hMa.later h)
  have hgla := gN_le Sa Ma La
  have HGrb : Hid (∀ W', Below w.heap.size w W' → Calls Try.prog 28 #[.agg #[.slice aSb Sb.length cSb, .slice aMb Mb.length cMb, .int .i64 Lb]] W' fun e w' => ∃ A C, e = .returned (.slice A (gN Sb Mb Lb) C) ∧ Below W'.heap.size W' w') := Lib.hid fun W' h => graph_cnt Sb Mb Lb aSb aMb cSb cMb W' (by omega) (by omega) (hSb.later h) (hMb.later h)
  have hglb := gN_le Sb Mb Lb
  have H0 := Lib.hid (((HH.start w).alloc #[.slice aSa Sa.length cSa, .slice aMa Ma.length cMa, .int .i64 La] 24 rfl rfl).alloc #[.slice aSb Sb.length cSb, .slice aMb Mb.length cMb, .int .i64 Lb] 24 (b := w.heap.size + 1) (by simp) rfl)
  have t1 : decide (x < 0) = false := decide_eq_false (by omega)
  have t2 : decide (y < 0) = false := decide_eq_false (by omega)
  rw [hp] at HGra
  have u1 : (((gN Sb Mb Lb : Nat) : Int) != 1) = true := by simp; omega
  clear hp hq
  clear hga hgb hx hy hSa hMa hSb hMb
  generalize gN Sb Mb Lb = kb at *
  generalize Sa.length = na at *
  generalize Sb.length = nb at *
  generalize Ma.length = ma at *
  generalize Mb.length = mb at *
  go_enter Try.func6, Try.ntmps6
  go_wp2_with fail
  refine (awake_any _).mono ?_
  rintro e w1 ⟨rfl, hb⟩
  have H1 := Lib.hid (H0.out.call hb)
  clear hb H0 
  have k00 := H1.out.cell (k := 0) (i := 0) rfl rfl
  have k01 := H1.out.cell (k := 0) (i := 1) rfl rfl
  have k02 := H1.out.cell (k := 0) (i := 2) rfl rfl
  have k10 := H1.out.cell (k := 1) (i := 0) rfl rfl
  have k11 := H1.out.cell (k := 1) (i := 1) rfl rfl
  have k12 := H1.out.cell (k := 1) (i := 2) rfl rfl
  go_wp2_with fail
  clear k00 k01 k02 k10 k11 k12
  refine (HGa.out _).mono ?_
  rintro e w2 ⟨rfl, hb⟩
  have H2 := Lib.hid (H1.out.call hb)
  clear hb H1 
  have k00 := H2.out.cell (k := 0) (i := 0) rfl rfl
  have k01 := H2.out.cell (k := 0) (i := 1) rfl rfl
  have k02 := H2.out.cell (k := 0) (i := 2) rfl rfl
  have k10 := H2.out.cell (k := 1) (i := 0) rfl rfl
  have k11 := H2.out.cell (k := 1) (i := 1) rfl rfl
  have k12 := H2.out.cell (k := 1) (i := 2) rfl rfl
  go_wp2_with fail
  clear k00 k01 k02 k10 k11 k12
  refine (HGb.out _).mono ?_
  rintro e w3 ⟨rfl, hb⟩
  have H3 := Lib.hid (H2.out.call hb)
  clear hb H2 
  have k00 := H3.out.cell (k := 0) (i := 0) rfl rfl
  have k01 := H3.out.cell (k := 0) (i := 1) rfl rfl
  have k02 := H3.out.cell (k := 0) (i := 2) rfl rfl
  have k10 := H3.out.cell (k := 1) (i := 0) rfl rfl
  have k11 := H3.out.cell (k := 1) (i := 1) rfl rfl
  have k12 := H3.out.cell (k := 1) (i := 2) rfl rfl
  go_wp2_with fail
  clear k00 k01 k02 k10 k11 k12
  refine (HGra.out _ H3.out.below).mono ?_
  rintro e w4 ⟨A4, C4, rfl, hb⟩
  have H4 := Lib.hid (H3.out.call hb)
  clear hb H3 
  have k00 := H4.out.cell (k := 0) (i := 0) rfl rfl
  have k01 := H4.out.cell (k := 0) (i := 1) rfl rfl
  have k02 := H4.out.cell (k := 0) (i := 2) rfl rfl
  have k10 := H4.out.cell (k := 1) (i := 0) rfl rfl
  have k11 := H4.out.cell (k := 1) (i := 1) rfl rfl
  have k12 := H4.out.cell (k := 1) (i := 2) rfl rfl
  go_wp2_with fail
  clear k00 k01 k02 k10 k11 k12
  refine (HGrb.out _ H4.out.below).mono ?_
  rintro e w5 ⟨A5, C5, rfl, hb⟩
  have H5 := Lib.hid (H4.out.call hb)
  clear hb H4 
  go_wp2_with fail
  go_ret
  exact ⟨rfl, H5.out.below⟩
set_option maxRecDepth 100000 in
set_option maxHeartbeats 2000000 in
theorem lund_ra (Sa Ma : List Int) (La : Int) (aSa aMa : Option Addr) (cSa cMa : Nat) (x : Int) (Sb Mb : List Int) (Lb : Int) (aSb aMb : Option Addr) (cSb cMb : Nat) (y : Int) (w : World) (hga : greatB Sa Ma La = false) (hgb : greatB Sb Mb Lb = false) (hx : 0 ≤ x) (hy : 0 ≤ y) (hp : gN Sa Ma La = 1) (hq : gN Sb Mb Lb = 1) (hpa : placeB Sa 0 x = false) (hSa : IntsAt w aSa Sa) (hMa : IntsAt w aMa Ma) (hSb : IntsAt w aSb Sb) (hMb : IntsAt w aMb Mb) :
    Calls Try.prog 6 #[.agg #[.slice aSa Sa.length cSa, .slice aMa Ma.length cMa, .int .i64 La], .int .i64 x, .agg #[.slice aSb Sb.length cSb, .slice aMb Mb.length cMb, .int .i64 Lb], .int .i64 y] w fun e w' => e = .returned (.bool true) ∧ Below w.heap.size w w' := by
  obtain ⟨hga1, hga2⟩ := greatB_no hga
  obtain ⟨hgb1, hgb2⟩ := greatB_no hgb
  have HGa : Hid (∀ W', Calls Try.prog 13 #[.agg #[.slice aSa Sa.length cSa, .slice aMa Ma.length cMa, .int .i64 La]] W' fun e w' => e = .returned (.bool false) ∧ Below W'.heap.size W' w') := Lib.hid fun W' => by
    have g := great_any Sa Ma La aSa aMa cSa cMa W'
    rw [hga] at g; exact g
  have HGb : Hid (∀ W', Calls Try.prog 13 #[.agg #[.slice aSb Sb.length cSb, .slice aMb Mb.length cMb, .int .i64 Lb]] W' fun e w' => e = .returned (.bool false) ∧ Below W'.heap.size W' w') := Lib.hid fun W' => by
    have g := great_any Sb Mb Lb aSb aMb cSb cMb W'
    rw [hgb] at g; exact g
  have HGra : Hid (∀ W', Below w.heap.size w W' → Calls Try.prog 28 #[.agg #[.slice aSa Sa.length cSa, .slice aMa Ma.length cMa, .int .i64 La]] W' fun e w' => ∃ A C, e = .returned (.slice A (gN Sa Ma La) C) ∧ Below W'.heap.size W' w') := Lib.hid fun W' h => graph_cnt Sa Ma La aSa aMa cSa cMa W' (by omega) (by omega) (hSa.later h) (hMa.later h)
  have hgla := gN_le Sa Ma La
  have HGrb : Hid (∀ W', Below w.heap.size w W' → Calls Try.prog 28 #[.agg #[.slice aSb Sb.length cSb, .slice aMb Mb.length cMb, .int .i64 Lb]] W' fun e w' => ∃ A C, e = .returned (.slice A (gN Sb Mb Lb) C) ∧ Below W'.heap.size W' w') := Lib.hid fun W' h => graph_cnt Sb Mb Lb aSb aMb cSb cMb W' (by omega) (by omega) (hSb.later h) (hMb.later h)
  have hglb := gN_le Sb Mb Lb
  have hva := vld_L0 (gN_one hp).1
  have hvb := vld_L0 (gN_one hq).1
  have HSum : Hid (∀ W', Below w.heap.size w W' → Calls Try.prog 32 #[.agg #[.slice aSa Sa.length cSa, .slice aMa Ma.length cMa, .int .i64 0], .int .i64 x, .agg #[.slice aSb Sb.length cSb, .slice aMb Mb.length cMb, .int .i64 0], .int .i64 y] W' fun e w' => e = .returned (.tuple #[.agg #[.slice none 0 0, .slice none 0 0, .int .i64 0], .int .i64 2]) ∧ Below W'.heap.size W' w') := Lib.hid fun W' h => sum_range_a Sa Ma 0 aSa aMa cSa cMa Sb Mb 0 aSb aMb cSb cMb x y W' hva hvb hpa (hSa.later h) (hMa.later h) (hSb.later h) (hMb.later h)
  have H0 := Lib.hid (((HH.start w).alloc #[.slice aSa Sa.length cSa, .slice aMa Ma.length cMa, .int .i64 La] 24 rfl rfl).alloc #[.slice aSb Sb.length cSb, .slice aMb Mb.length cMb, .int .i64 Lb] 24 (b := w.heap.size + 1) (by simp) rfl)
  have t1 : decide (x < 0) = false := decide_eq_false (by omega)
  have t2 : decide (y < 0) = false := decide_eq_false (by omega)
  rw [hp] at HGra
  rw [hq] at HGrb
  clear hga hgb hx hy hp hq hva hvb hpa hSa hMa hSb hMb hgla hglb
  generalize Sa.length = na at *
  generalize Sb.length = nb at *
  generalize Ma.length = ma at *
  generalize Mb.length = mb at *
  go_enter Try.func6, Try.ntmps6
  go_wp2_with fail
  refine (awake_any _).mono ?_
  rintro e w1 ⟨rfl, hb⟩
  have H1 := Lib.hid (H0.out.call hb)
  clear hb H0 
  have k00 := H1.out.cell (k := 0) (i := 0) rfl rfl
  have k01 := H1.out.cell (k := 0) (i := 1) rfl rfl
  have k02 := H1.out.cell (k := 0) (i := 2) rfl rfl
  have k10 := H1.out.cell (k := 1) (i := 0) rfl rfl
  have k11 := H1.out.cell (k := 1) (i := 1) rfl rfl
  have k12 := H1.out.cell (k := 1) (i := 2) rfl rfl
  go_wp2_with fail
  clear k00 k01 k02 k10 k11 k12
  refine (HGa.out _).mono ?_
  rintro e w2 ⟨rfl, hb⟩
  have H2 := Lib.hid (H1.out.call hb)
  clear hb H1 
  have k00 := H2.out.cell (k := 0) (i := 0) rfl rfl
  have k01 := H2.out.cell (k := 0) (i := 1) rfl rfl
  have k02 := H2.out.cell (k := 0) (i := 2) rfl rfl
  have k10 := H2.out.cell (k := 1) (i := 0) rfl rfl
  have k11 := H2.out.cell (k := 1) (i := 1) rfl rfl
  have k12 := H2.out.cell (k := 1) (i := 2) rfl rfl
  go_wp2_with fail
  clear k00 k01 k02 k10 k11 k12
  refine (HGb.out _).mono ?_
  rintro e w3 ⟨rfl, hb⟩
  have H3 := Lib.hid (H2.out.call hb)
  clear hb H2 
  have k00 := H3.out.cell (k := 0) (i := 0) rfl rfl
  have k01 := H3.out.cell (k := 0) (i := 1) rfl rfl
  have k02 := H3.out.cell (k := 0) (i := 2) rfl rfl
  have k10 := H3.out.cell (k := 1) (i := 0) rfl rfl
  have k11 := H3.out.cell (k := 1) (i := 1) rfl rfl
  have k12 := H3.out.cell (k := 1) (i := 2) rfl rfl
  go_wp2_with fail
  clear k00 k01 k02 k10 k11 k12
  refine (HGra.out _ H3.out.below).mono ?_
  rintro e w4 ⟨A4, C4, rfl, hb⟩
  have H4 := Lib.hid (H3.out.call hb)
  clear hb H3 
  have k00 := H4.out.cell (k := 0) (i := 0) rfl rfl
  have k01 := H4.out.cell (k := 0) (i := 1) rfl rfl
  have k02 := H4.out.cell (k := 0) (i := 2) rfl rfl
  have k10 := H4.out.cell (k := 1) (i := 0) rfl rfl
  have k11 := H4.out.cell (k := 1) (i := 1) rfl rfl
  have k12 := H4.out.cell (k := 1) (i := 2) rfl rfl
  go_wp2_with fail
  clear k00 k01 k02 k10 k11 k12
  refine (HGrb.out _ H4.out.below).mono ?_
  rintro e w5 ⟨A5, C5, rfl, hb⟩
  have H5 := Lib.hid (H4.out.call hb)
  clear hb H4 
  have f02 := H5.out.frozen (k := 0) rfl 2
  have f12 := H5.out.frozen (k := 1) rfl 2
  have k02 := H5.out.cell (k := 0) (i := 2) rfl rfl
  have k12 := H5.out.cell (k := 1) (i := 2) rfl rfl
  have H6 := Lib.hid ((H5.out.set (k := 0) rfl 2 (.int .i64 0)).set (k := 1) rfl 2 (.int .i64 0))
  go_upto_region 6 with fail
  generalize (w5.setCell ⟨w.heap.size, 2, none⟩ (.int .i64 0)).setCell ⟨w.heap.size + 1, 2, none⟩ (.int .i64 0) = w6 at *
  clear f02 f12 k02 k12 H5
  have k00 := H6.out.cell (k := 0) (i := 0) rfl rfl
  have k01 := H6.out.cell (k := 0) (i := 1) rfl rfl
  have k02 := H6.out.cell (k := 0) (i := 2) rfl rfl
  have k10 := H6.out.cell (k := 1) (i := 0) rfl rfl
  have k11 := H6.out.cell (k := 1) (i := 1) rfl rfl
  have k12 := H6.out.cell (k := 1) (i := 2) rfl rfl
  go_wp2_with fail
  clear k00 k01 k02 k10 k11 k12
  refine (HSum.out _ H6.out.below).mono ?_
  rintro e w7 ⟨rfl, hb⟩
  have H7 := Lib.hid (H6.out.call hb)
  clear hb H6 
  go_wp2_with fail
  go_ret
  exact ⟨rfl, H7.out.below.alloc H7.out.below.size _⟩
set_option maxRecDepth 100000 in
set_option maxHeartbeats 2000000 in
theorem lund_rb (Sa Ma : List Int) (La : Int) (aSa aMa : Option Addr) (cSa cMa : Nat) (x : Int) (Sb Mb : List Int) (Lb : Int) (aSb aMb : Option Addr) (cSb cMb : Nat) (y : Int) (w : World) (hga : greatB Sa Ma La = false) (hgb : greatB Sb Mb Lb = false) (hx : 0 ≤ x) (hy : 0 ≤ y) (hp : gN Sa Ma La = 1) (hq : gN Sb Mb Lb = 1) (hpa : placeB Sa 0 x = true) (hpb : placeB Sb 0 y = false) (hSa : IntsAt w aSa Sa) (hMa : IntsAt w aMa Ma) (hSb : IntsAt w aSb Sb) (hMb : IntsAt w aMb Mb) :
    Calls Try.prog 6 #[.agg #[.slice aSa Sa.length cSa, .slice aMa Ma.length cMa, .int .i64 La], .int .i64 x, .agg #[.slice aSb Sb.length cSb, .slice aMb Mb.length cMb, .int .i64 Lb], .int .i64 y] w fun e w' => e = .returned (.bool true) ∧ Below w.heap.size w w' := by
  obtain ⟨hga1, hga2⟩ := greatB_no hga
  obtain ⟨hgb1, hgb2⟩ := greatB_no hgb
  have HGa : Hid (∀ W', Calls Try.prog 13 #[.agg #[.slice aSa Sa.length cSa, .slice aMa Ma.length cMa, .int .i64 La]] W' fun e w' => e = .returned (.bool false) ∧ Below W'.heap.size W' w') := Lib.hid fun W' => by
    have g := great_any Sa Ma La aSa aMa cSa cMa W'
    rw [hga] at g; exact g
  have HGb : Hid (∀ W', Calls Try.prog 13 #[.agg #[.slice aSb Sb.length cSb, .slice aMb Mb.length cMb, .int .i64 Lb]] W' fun e w' => e = .returned (.bool false) ∧ Below W'.heap.size W' w') := Lib.hid fun W' => by
    have g := great_any Sb Mb Lb aSb aMb cSb cMb W'
    rw [hgb] at g; exact g
  have HGra : Hid (∀ W', Below w.heap.size w W' → Calls Try.prog 28 #[.agg #[.slice aSa Sa.length cSa, .slice aMa Ma.length cMa, .int .i64 La]] W' fun e w' => ∃ A C, e = .returned (.slice A (gN Sa Ma La) C) ∧ Below W'.heap.size W' w') := Lib.hid fun W' h => graph_cnt Sa Ma La aSa aMa cSa cMa W' (by omega) (by omega) (hSa.later h) (hMa.later h)
  have hgla := gN_le Sa Ma La
  have HGrb : Hid (∀ W', Below w.heap.size w W' → Calls Try.prog 28 #[.agg #[.slice aSb Sb.length cSb, .slice aMb Mb.length cMb, .int .i64 Lb]] W' fun e w' => ∃ A C, e = .returned (.slice A (gN Sb Mb Lb) C) ∧ Below W'.heap.size W' w') := Lib.hid fun W' h => graph_cnt Sb Mb Lb aSb aMb cSb cMb W' (by omega) (by omega) (hSb.later h) (hMb.later h)
  have hglb := gN_le Sb Mb Lb
  have hva := vld_L0 (gN_one hp).1
  have hvb := vld_L0 (gN_one hq).1
  have HSum : Hid (∀ W', Below w.heap.size w W' → Calls Try.prog 32 #[.agg #[.slice aSa Sa.length cSa, .slice aMa Ma.length cMa, .int .i64 0], .int .i64 x, .agg #[.slice aSb Sb.length cSb, .slice aMb Mb.length cMb, .int .i64 0], .int .i64 y] W' fun e w' => e = .returned (.tuple #[.agg #[.slice none 0 0, .slice none 0 0, .int .i64 0], .int .i64 2]) ∧ Below W'.heap.size W' w') := Lib.hid fun W' h => sum_range_b Sa Ma 0 aSa aMa cSa cMa Sb Mb 0 aSb aMb cSb cMb x y W' hva hvb hpa hpb (hSa.later h) (hMa.later h) (hSb.later h) (hMb.later h)
  have H0 := Lib.hid (((HH.start w).alloc #[.slice aSa Sa.length cSa, .slice aMa Ma.length cMa, .int .i64 La] 24 rfl rfl).alloc #[.slice aSb Sb.length cSb, .slice aMb Mb.length cMb, .int .i64 Lb] 24 (b := w.heap.size + 1) (by simp) rfl)
  have t1 : decide (x < 0) = false := decide_eq_false (by omega)
  have t2 : decide (y < 0) = false := decide_eq_false (by omega)
  rw [hp] at HGra
  rw [hq] at HGrb
  clear hga hgb hx hy hp hq hva hvb hpa hSa hMa hSb hMb hpb hgla hglb
  generalize Sa.length = na at *
  generalize Sb.length = nb at *
  generalize Ma.length = ma at *
  generalize Mb.length = mb at *
  go_enter Try.func6, Try.ntmps6
  go_wp2_with fail
  refine (awake_any _).mono ?_
  rintro e w1 ⟨rfl, hb⟩
  have H1 := Lib.hid (H0.out.call hb)
  clear hb H0 
  have k00 := H1.out.cell (k := 0) (i := 0) rfl rfl
  have k01 := H1.out.cell (k := 0) (i := 1) rfl rfl
  have k02 := H1.out.cell (k := 0) (i := 2) rfl rfl
  have k10 := H1.out.cell (k := 1) (i := 0) rfl rfl
  have k11 := H1.out.cell (k := 1) (i := 1) rfl rfl
  have k12 := H1.out.cell (k := 1) (i := 2) rfl rfl
  go_wp2_with fail
  clear k00 k01 k02 k10 k11 k12
  refine (HGa.out _).mono ?_
  rintro e w2 ⟨rfl, hb⟩
  have H2 := Lib.hid (H1.out.call hb)
  clear hb H1 
  have k00 := H2.out.cell (k := 0) (i := 0) rfl rfl
  have k01 := H2.out.cell (k := 0) (i := 1) rfl rfl
  have k02 := H2.out.cell (k := 0) (i := 2) rfl rfl
  have k10 := H2.out.cell (k := 1) (i := 0) rfl rfl
  have k11 := H2.out.cell (k := 1) (i := 1) rfl rfl
  have k12 := H2.out.cell (k := 1) (i := 2) rfl rfl
  go_wp2_with fail
  clear k00 k01 k02 k10 k11 k12
  refine (HGb.out _).mono ?_
  rintro e w3 ⟨rfl, hb⟩
  have H3 := Lib.hid (H2.out.call hb)
  clear hb H2 
  have k00 := H3.out.cell (k := 0) (i := 0) rfl rfl
  have k01 := H3.out.cell (k := 0) (i := 1) rfl rfl
  have k02 := H3.out.cell (k := 0) (i := 2) rfl rfl
  have k10 := H3.out.cell (k := 1) (i := 0) rfl rfl
  have k11 := H3.out.cell (k := 1) (i := 1) rfl rfl
  have k12 := H3.out.cell (k := 1) (i := 2) rfl rfl
  go_wp2_with fail
  clear k00 k01 k02 k10 k11 k12
  refine (HGra.out _ H3.out.below).mono ?_
  rintro e w4 ⟨A4, C4, rfl, hb⟩
  have H4 := Lib.hid (H3.out.call hb)
  clear hb H3 
  have k00 := H4.out.cell (k := 0) (i := 0) rfl rfl
  have k01 := H4.out.cell (k := 0) (i := 1) rfl rfl
  have k02 := H4.out.cell (k := 0) (i := 2) rfl rfl
  have k10 := H4.out.cell (k := 1) (i := 0) rfl rfl
  have k11 := H4.out.cell (k := 1) (i := 1) rfl rfl
  have k12 := H4.out.cell (k := 1) (i := 2) rfl rfl
  go_wp2_with fail
  clear k00 k01 k02 k10 k11 k12
  refine (HGrb.out _ H4.out.below).mono ?_
  rintro e w5 ⟨A5, C5, rfl, hb⟩
  have H5 := Lib.hid (H4.out.call hb)
  clear hb H4 
  have f02 := H5.out.frozen (k := 0) rfl 2
  have f12 := H5.out.frozen (k := 1) rfl 2
  have k02 := H5.out.cell (k := 0) (i := 2) rfl rfl
  have k12 := H5.out.cell (k := 1) (i := 2) rfl rfl
  have H6 := Lib.hid ((H5.out.set (k := 0) rfl 2 (.int .i64 0)).set (k := 1) rfl 2 (.int .i64 0))
  go_upto_region 6 with fail
  generalize (w5.setCell ⟨w.heap.size, 2, none⟩ (.int .i64 0)).setCell ⟨w.heap.size + 1, 2, none⟩ (.int .i64 0) = w6 at *
  clear f02 f12 k02 k12 H5
  have k00 := H6.out.cell (k := 0) (i := 0) rfl rfl
  have k01 := H6.out.cell (k := 0) (i := 1) rfl rfl
  have k02 := H6.out.cell (k := 0) (i := 2) rfl rfl
  have k10 := H6.out.cell (k := 1) (i := 0) rfl rfl
  have k11 := H6.out.cell (k := 1) (i := 1) rfl rfl
  have k12 := H6.out.cell (k := 1) (i := 2) rfl rfl
  go_wp2_with fail
  clear k00 k01 k02 k10 k11 k12
  refine (HSum.out _ H6.out.below).mono ?_
  rintro e w7 ⟨rfl, hb⟩
  have H7 := Lib.hid (H6.out.call hb)
  clear hb H6 
  go_wp2_with fail
  go_ret
  exact ⟨rfl, H7.out.below.alloc H7.out.below.size _⟩
end Go.Proofs.Ytmjoijfafachhaa
