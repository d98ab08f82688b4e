/- The ways in which connect's functions and diagram.Graph refuse. -/
import Derived.Test.YtmjoijfafachhaaFtsW
import Derived.Test.YtmjoijfafachhaaSumC
import Derived.Test.YtmjoijfafachhaaNugW
import Derived.Test.YtmjoijfafachhaaHeap
namespace Go.Proofs.Ytmjoijfafachhaa
open Go Go.RowKit
set_option maxRecDepth 100000 in
set_option maxHeartbeats 1000000 in
theorem graph_no (S M : List Int) (L : Int) (aS aM : Option Addr) (cS cM : Nat) (w : World) (hSl : S.length ≤ 1000000000) (hMl : M.length ≤ 1000000000) (hv : vldB S M L = false) (hS : IntsAt w aS S) (hM : IntsAt w aM M) :
    Calls Try.prog 28 #[.agg #[.slice aS S.length cS, .slice aM M.length cM, .int .i64 L]] w fun e w' => e = .returned (.slice none 0 0) ∧ Below w.heap.size w w' := by
  have HV : Hid (∀ W', Below w.heap.size w W' → Calls Try.prog 26 #[.agg #[.slice aS S.length cS, .slice aM M.length cM, .int .i64 L]] W' fun e w' => e = .returned (.bool false) ∧ Below W'.heap.size W' w') := Lib.hid fun W' h => by
    have g := valid_any S M L aS aM cS cM W' (by omega) (by omega) (hS.later h) (hM.later h)
    rw [hv] at g; exact g
  have H0 := Lib.hid ((HH.start w).alloc #[.slice aS S.length cS, .slice aM M.length cM, .int .i64 L] 24 rfl rfl)
  clear hv hS hM hSl hMl
  generalize S.length = n at *
  generalize M.length = N at *
  go_enter Try.func28, Try.ntmps28
  go_wp2_with fail
  refine (HV.out _ H0.out.below).mono ?_
  rintro e w1 ⟨rfl, hb⟩
  have H1 := Lib.hid (H0.out.call hb)
  clear hb H0 
  go_wp2_with fail
  go_ret
  exact ⟨rfl, H1.out.below⟩
set_option maxRecDepth 100000 in
set_option maxHeartbeats 1000000 in
theorem split_no (S M : List Int) (L : Int) (aS aM : Option Addr) (cS cM : Nat) (w : World) (hSl : S.length ≤ 1000000000) (hMl : M.length ≤ 1000000000) (hv : vldB S M L = false) (hS : IntsAt w aS S) (hM : IntsAt w aM M) :
    Calls Try.prog 14 #[.agg #[.slice aS S.length cS, .slice aM M.length cM, .int .i64 L]] w fun e w' => e = .returned (.slice none 0 0) ∧ Below w.heap.size w w' := by
  have HV : Hid (∀ W', Below w.heap.size w W' → Calls Try.prog 26 #[.agg #[.slice aS S.length cS, .slice aM M.length cM, .int .i64 L]] W' fun e w' => e = .returned (.bool false) ∧ Below W'.heap.size W' w') := Lib.hid fun W' h => by
    have g := valid_any S M L aS aM cS cM W' (by omega) (by omega) (hS.later h) (hM.later h)
    rw [hv] at g; exact g
  have H0 := Lib.hid ((HH.start w).alloc #[.slice aS S.length cS, .slice aM M.length cM, .int .i64 L] 24 rfl rfl)
  clear hv hS hM hSl hMl
  generalize S.length = n at *
  generalize M.length = N at *
  go_enter Try.func14, Try.ntmps14
  go_wp2_with fail
  refine (HV.out _ H0.out.below).mono ?_
  rintro e w1 ⟨rfl, hb⟩
  have H1 := Lib.hid (H0.out.call hb)
  clear hb H0 
  go_wp2_with fail
  go_ret
  exact ⟨rfl, H1.out.below⟩
set_option maxRecDepth 100000 in
set_option maxHeartbeats 1000000 in
theorem cuts_no (S M : List Int) (L : Int) (aS aM : Option Addr) (cS cM : Nat) (w : World) (hSl : S.length ≤ 1000000000) (hMl : M.length ≤ 1000000000) (hv : vldB S M L = false) (hS : IntsAt w aS S) (hM : IntsAt w aM M) :
    Calls Try.prog 27 #[.agg #[.slice aS S.length cS, .slice aM M.length cM, .int .i64 L]] w fun e w' => e = .returned (.slice none 0 0) ∧ Below w.heap.size w w' := by
  have HV : Hid (∀ W', Below w.heap.size w W' → Calls Try.prog 26 #[.agg #[.slice aS S.length cS, .slice aM M.length cM, .int .i64 L]] W' fun e w' => e = .returned (.bool false) ∧ Below W'.heap.size W' w') := Lib.hid fun W' h => by
    have g := valid_any S M L aS aM cS cM W' (by omega) (by omega) (hS.later h) (hM.later h)
    rw [hv] at g; exact g
  have H0 := Lib.hid ((HH.start w).alloc #[.slice aS S.length cS, .slice aM M.length cM, .int .i64 L] 24 rfl rfl)
  clear hv hS hM hSl hMl
  generalize S.length = n at *
  generalize M.length = N at *
  go_enter Try.func27, Try.ntmps27
  go_wp2_with fail
  refine (HV.out _ H0.out.below).mono ?_
  rintro e w1 ⟨rfl, hb⟩
  have H1 := Lib.hid (H0.out.call hb)
  clear hb H0 
  go_wp2_with fail
  go_ret
  exact ⟨rfl, H1.out.below⟩
set_option maxRecDepth 100000 in
set_option maxHeartbeats 1000000 in
theorem nugatory_no (S M : List Int) (L : Int) (aS aM : Option Addr) (cS cM : Nat) (w : World) (hSl : S.length ≤ 1000000000) (hMl : M.length ≤ 1000000000) (hv : vldB S M L = false) (hS : IntsAt w aS S) (hM : IntsAt w aM M) :
    Calls Try.prog 35 #[.agg #[.slice aS S.length cS, .slice aM M.length cM, .int .i64 L]] w fun e w' => e = .returned (.slice none 0 0) ∧ Below w.heap.size w w' := by
  have HV : Hid (∀ W', Below w.heap.size w W' → Calls Try.prog 26 #[.agg #[.slice aS S.length cS, .slice aM M.length cM, .int .i64 L]] W' fun e w' => e = .returned (.bool false) ∧ Below W'.heap.size W' w') := Lib.hid fun W' h => by
    have g := valid_any S M L aS aM cS cM W' (by omega) (by omega) (hS.later h) (hM.later h)
    rw [hv] at g; exact g
  have H0 := Lib.hid ((HH.start w).alloc #[.slice aS S.length cS, .slice aM M.length cM, .int .i64 L] 24 rfl rfl)
  clear hv hS hM hSl hMl
  generalize S.length = n at *
  generalize M.length = N at *
  go_enter Try.func35, Try.ntmps35
  go_wp2_with fail
  refine (HV.out _ H0.out.below).mono ?_
  rintro e w1 ⟨rfl, hb⟩
  have H1 := Lib.hid (H0.out.call hb)
  clear hb H0 
  go_wp2_with fail
  go_ret
  exact ⟨rfl, H1.out.below⟩
set_option maxRecDepth 100000 in
set_option maxHeartbeats 1000000 in
theorem reduced_no (S M : List Int) (L : Int) (aS aM : Option Addr) (cS cM : Nat) (w : World) (hSl : S.length ≤ 1000000000) (hMl : M.length ≤ 1000000000) (hv : vldB S M L = false) (hS : IntsAt w aS S) (hM : IntsAt w aM M) :
    Calls Try.prog 36 #[.agg #[.slice aS S.length cS, .slice aM M.length cM, .int .i64 L]] w fun e w' => e = .returned (.bool false) ∧ Below w.heap.size w w' := by
  have HV : Hid (∀ W', Below w.heap.size w W' → Calls Try.prog 26 #[.agg #[.slice aS S.length cS, .slice aM M.length cM, .int .i64 L]] W' fun e w' => e = .returned (.bool false) ∧ Below W'.heap.size W' w') := Lib.hid fun W' h => by
    have g := valid_any S M L aS aM cS cM W' (by omega) (by omega) (hS.later h) (hM.later h)
    rw [hv] at g; exact g
  have H0 := Lib.hid ((HH.start w).alloc #[.slice aS S.length cS, .slice aM M.length cM, .int .i64 L] 24 rfl rfl)
  clear hv hS hM hSl hMl
  generalize S.length = n at *
  generalize M.length = N at *
  go_enter Try.func36, Try.ntmps36
  go_wp2_with fail
  refine (HV.out _ H0.out.below).mono ?_
  rintro e w1 ⟨rfl, hb⟩
  have H1 := Lib.hid (H0.out.call hb)
  clear hb H0 
  go_wp2_with fail
  go_ret
  exact ⟨rfl, H1.out.below⟩
set_option maxRecDepth 100000 in
set_option maxHeartbeats 1000000 in
theorem reduced_yes (S M : List Int) (L : Int) (aS aM : Option Addr) (cS cM : Nat) (w : World) (hv : vldB S M L = true) (hS : IntsAt w aS S) (hM : IntsAt w aM M) :
    Calls Try.prog 36 #[.agg #[.slice aS S.length cS, .slice aM M.length cM, .int .i64 L]] w fun e w' => e = .returned (.bool (decide (nugL S M = []))) ∧ Below w.heap.size w w' := by
  have hs := vldB_shape hv
  have hfw := hs.few
  have hml := hs.len
  have HV : Hid (∀ W', Below w.heap.size w W' → Calls Try.prog 26 #[.agg #[.slice aS S.length cS, .slice aM M.length cM, .int .i64 L]] W' fun e w' => e = .returned (.bool true) ∧ Below W'.heap.size W' w') := Lib.hid fun W' h => by
    have g := valid_any S M L aS aM cS cM W' (by omega) (by omega) (hS.later h) (hM.later h)
    rw [hv] at g; exact g
  have HNg : Hid (∀ W', Below w.heap.size w W' → Calls Try.prog 35 #[.agg #[.slice aS S.length cS, .slice aM M.length cM, .int .i64 L]] W' fun e w' => ∃ A C, e = .returned (.slice A (nugL S M).length C) ∧ Below W'.heap.size W' w') := Lib.hid fun W' h => (nugatory_yes S M L aS aM cS cM W' hv (hS.later h) (hM.later h)).mono fun e w' ⟨A, C, he, _, hb⟩ => ⟨A, C, he, hb⟩
  have hz : ((((nugL S M).length : Nat) : Int) == 0) = decide (nugL S M = []) := by
    rw [Bool.eq_iff_iff, beq_iff_eq, decide_eq_true_eq, ← List.length_eq_zero_iff]; omega
  have hz2 : ((nugL S M).length == 0) = decide (nugL S M = []) := by
    rw [Bool.eq_iff_iff, beq_iff_eq, decide_eq_true_eq, ← List.length_eq_zero_iff]
  have H0 := Lib.hid ((HH.start w).alloc #[.slice aS S.length cS, .slice aM M.length cM, .int .i64 L] 24 rfl rfl)
  clear hv hS hM hs hfw hml
  generalize decide (nugL S M = []) = t at *
  generalize (nugL S M).length = nn at *
  generalize S.length = n at *
  generalize M.length = N at *
  go_enter Try.func36, Try.ntmps36
  go_wp2_with fail
  refine (HV.out _ H0.out.below).mono ?_
  rintro e w1 ⟨rfl, hb⟩
  have H1 := Lib.hid (H0.out.call hb)
  clear hb H0 HV
  have k00 := H1.out.cell (k := 0) (i := 0) rfl rfl
  have k01 := H1.out.cell (k := 0) (i := 1) rfl rfl
  have k02 := H1.out.cell (k := 0) (i := 2) rfl rfl
  go_wp2_with fail
  clear k00 k01 k02
  refine (HNg.out _ H1.out.below).mono ?_
  rintro e w2 ⟨A, C, rfl, hb⟩
  have H2 := Lib.hid (H1.out.call hb)
  clear hb H1 
  go_wp2_with fail
  go_ret
  exact ⟨rfl, H2.out.below⟩
set_option maxRecDepth 100000 in
set_option maxHeartbeats 1000000 in
theorem factors_no (S M : List Int) (L : Int) (aS aM : Option Addr) (cS cM : Nat) (w : World) (hSl : S.length ≤ 1000000000) (hMl : M.length ≤ 1000000000) (hv : vldB S M L = false) (hS : IntsAt w aS S) (hM : IntsAt w aM M) :
    Calls Try.prog 33 #[.agg #[.slice aS S.length cS, .slice aM M.length cM, .int .i64 L]] w fun e w' => e = .returned (.slice none 0 0) ∧ Below w.heap.size w w' := by
  have HV : Hid (∀ W', Below w.heap.size w W' → Calls Try.prog 14 #[.agg #[.slice aS S.length cS, .slice aM M.length cM, .int .i64 L]] W' fun e w' => e = .returned (.slice none 0 0) ∧ Below W'.heap.size W' w') := Lib.hid fun W' h => split_no S M L aS aM cS cM W' hSl hMl hv (hS.later h) (hM.later h)
  have H0 := Lib.hid ((HH.start w).alloc #[.slice aS S.length cS, .slice aM M.length cM, .int .i64 L] 24 rfl rfl)
  clear hv hS hM hSl hMl
  generalize S.length = n at *
  generalize M.length = N at *
  go_enter Try.func33, Try.ntmps33
  go_wp2_with fail
  refine (HV.out _ H0.out.below).mono ?_
  rintro e w1 ⟨rfl, hb⟩
  have H1 := Lib.hid (H0.out.call hb)
  clear hb H0 
  go_wp2_with fail
  go_loopg [9, 3] 0 (fun g v s3 wr => g = 0 ∧ v = .int .i64 0 ∧ s3 = .slice none 0 0 ∧ wr = w1)
  case atStart => exact ⟨rfl, rfl, rfl, rfl⟩
  case round =>
    obtain ⟨_, rfl, rfl, rfl⟩ := hrel
    go_wp2_with fail
    go_ret
    exact ⟨rfl, H1.out.below⟩
set_option maxRecDepth 100000 in
set_option maxHeartbeats 1000000 in
theorem factor_arg (S M : List Int) (L : Int) (aS aM : Option Addr) (cS cM : Nat) (x y : Int) (w : World) (hSl : S.length ≤ 1000000000) (hMl : M.length ≤ 1000000000) (hv : vldB S M L = false) (hS : IntsAt w aS S) (hM : IntsAt w aM M) :
    Calls Try.prog 21 #[.agg #[.slice aS S.length cS, .slice aM M.length cM, .int .i64 L], .int .i64 x, .int .i64 y] w fun e w' => e = .returned (.tuple #[.agg #[.slice none 0 0, .slice none 0 0, .int .i64 0], .agg #[.slice none 0 0, .slice none 0 0, .int .i64 0], .int .i64 1]) ∧ Below w.heap.size w w' := by
  have HV : Hid (∀ W', Below w.heap.size w W' → Calls Try.prog 26 #[.agg #[.slice aS S.length cS, .slice aM M.length cM, .int .i64 L]] W' fun e w' => e = .returned (.bool false) ∧ Below W'.heap.size W' w') := Lib.hid fun W' h => by
    have g := valid_any S M L aS aM cS cM W' (by omega) (by omega) (hS.later h) (hM.later h)
    rw [hv] at g; exact g
  have H0 := Lib.hid ((((HH.start w).alloc #[.slice aS S.length cS, .slice aM M.length cM, .int .i64 L] 24 rfl rfl).alloc #[.slice none 0 0, .slice none 0 0, .int .i64 0] 24 (b := w.heap.size + 1) (by simp) rfl).alloc #[.slice none 0 0, .slice none 0 0, .int .i64 0] 24 (b := w.heap.size + 2) (by simp) rfl)
  clear hv hS hM hSl hMl
  generalize S.length = n at *
  generalize M.length = N at *
  go_enter Try.func21, Try.ntmps21
  go_wp2_with fail
  refine (HV.out _ H0.out.below).mono ?_
  rintro e w1 ⟨rfl, hb⟩
  have H1 := Lib.hid (H0.out.call hb)
  clear hb H0 
  have k00 := H1.out.cell (k := 0) (i := 0) rfl rfl
  have k01 := H1.out.cell (k := 0) (i := 1) rfl rfl
  have k02 := H1.out.cell (k := 0) (i := 2) rfl rfl
  have k10 := H1.out.cell (k := 1) (i := 0) rfl rfl
  have k11 := H1.out.cell (k := 1) (i := 1) rfl rfl
  have k12 := H1.out.cell (k := 1) (i := 2) rfl rfl
  have k20 := H1.out.cell (k := 2) (i := 0) rfl rfl
  have k21 := H1.out.cell (k := 2) (i := 1) rfl rfl
  have k22 := H1.out.cell (k := 2) (i := 2) rfl rfl
  have f10 := H1.out.frozen (k := 1) rfl 0
  have f11 := H1.out.frozen (k := 1) rfl 1
  have f12 := H1.out.frozen (k := 1) rfl 2
  have f20 := H1.out.frozen (k := 2) rfl 0
  have f21 := H1.out.frozen (k := 2) rfl 1
  have f22 := H1.out.frozen (k := 2) rfl 2
  have H9 := ((((((H1.out.set (k := 1) rfl 0 (.slice none 0 0)).set (k := 1) rfl 1 (.slice none 0 0)).set (k := 1) rfl 2 (.int .i64 0)).set (k := 2) rfl 0 (.slice none 0 0)).set (k := 2) rfl 1 (.slice none 0 0)).set (k := 2) rfl 2 (.int .i64 0))
  have hF10 := H9.cell (k := 1) (i := 0) rfl rfl
  have hF11 := H9.cell (k := 1) (i := 1) rfl rfl
  have hF12 := H9.cell (k := 1) (i := 2) rfl rfl
  have hF20 := H9.cell (k := 2) (i := 0) rfl rfl
  have hF21 := H9.cell (k := 2) (i := 1) rfl rfl
  have hF22 := H9.cell (k := 2) (i := 2) rfl rfl
  have Hfin := Lib.hid H9
  clear H9
  go_wp2_with fail
  refine bodyPost_ret (v := .tuple #[.agg #[.slice none 0 0, .slice none 0 0, .int .i64 0], .agg #[.slice none 0 0, .slice none 0 0, .int .i64 0], .int .i64 1]) (by simp [results, Try.results21, go_sem, hF10, hF11, hF12, hF20, hF21, hF22]) rfl ?_
  exact ⟨rfl, Hfin.out.below⟩
set_option maxRecDepth 100000 in
set_option maxHeartbeats 1000000 in
theorem factor_range_a (S M : List Int) (L : Int) (aS aM : Option Addr) (cS cM : Nat) (x y : Int) (w : World) (hv : vldB S M L = true) (hx : x < 0) (hS : IntsAt w aS S) (hM : IntsAt w aM M) :
    Calls Try.prog 21 #[.agg #[.slice aS S.length cS, .slice aM M.length cM, .int .i64 L], .int .i64 x, .int .i64 y] w fun e w' => e = .returned (.tuple #[.agg #[.slice none 0 0, .slice none 0 0, .int .i64 0], .agg #[.slice none 0 0, .slice none 0 0, .int .i64 0], .int .i64 2]) ∧ Below w.heap.size w w' := by
  have hs := vldB_shape hv
  have hfw := hs.few
  have hml := hs.len
  have HV : Hid (∀ W', Below w.heap.size w W' → Calls Try.prog 26 #[.agg #[.slice aS S.length cS, .slice aM M.length cM, .int .i64 L]] W' fun e w' => e = .returned (.bool true) ∧ Below W'.heap.size W' w') := Lib.hid fun W' h => by
    have g := valid_any S M L aS aM cS cM W' (by omega) (by omega) (hS.later h) (hM.later h)
    rw [hv] at g; exact g
  have d1 : decide (x < 0) = true := decide_eq_true hx
  have H0 := Lib.hid ((((HH.start w).alloc #[.slice aS S.length cS, .slice aM M.length cM, .int .i64 L] 24 rfl rfl).alloc #[.slice none 0 0, .slice none 0 0, .int .i64 0] 24 (b := w.heap.size + 1) (by simp) rfl).alloc #[.slice none 0 0, .slice none 0 0, .int .i64 0] 24 (b := w.heap.size + 2) (by simp) rfl)
  clear hv hS hM hs hml hfw hx
  generalize S.length = n at *
  generalize M.length = N at *
  go_enter Try.func21, Try.ntmps21
  go_wp2_with fail
  refine (HV.out _ H0.out.below).mono ?_
  rintro e w1 ⟨rfl, hb⟩
  have H1 := Lib.hid (H0.out.call hb)
  clear hb H0 
  have k00 := H1.out.cell (k := 0) (i := 0) rfl rfl
  have k01 := H1.out.cell (k := 0) (i := 1) rfl rfl
  have k02 := H1.out.cell (k := 0) (i := 2) rfl rfl
  have k10 := H1.out.cell (k := 1) (i := 0) rfl rfl
  have k11 := H1.out.cell (k := 1) (i := 1) rfl rfl
  have k12 := H1.out.cell (k := 1) (i := 2) rfl rfl
  have k20 := H1.out.cell (k := 2) (i := 0) rfl rfl
  have k21 := H1.out.cell (k := 2) (i := 1) rfl rfl
  have k22 := H1.out.cell (k := 2) (i := 2) rfl rfl
  have f10 := H1.out.frozen (k := 1) rfl 0
  have f11 := H1.out.frozen (k := 1) rfl 1
  have f12 := H1.out.frozen (k := 1) rfl 2
  have f20 := H1.out.frozen (k := 2) rfl 0
  have f21 := H1.out.frozen (k := 2) rfl 1
  have f22 := H1.out.frozen (k := 2) rfl 2
  have H9 := ((((((H1.out.set (k := 1) rfl 0 (.slice none 0 0)).set (k := 1) rfl 1 (.slice none 0 0)).set (k := 1) rfl 2 (.int .i64 0)).set (k := 2) rfl 0 (.slice none 0 0)).set (k := 2) rfl 1 (.slice none 0 0)).set (k := 2) rfl 2 (.int .i64 0))
  have hF10 := H9.cell (k := 1) (i := 0) rfl rfl
  have hF11 := H9.cell (k := 1) (i := 1) rfl rfl
  have hF12 := H9.cell (k := 1) (i := 2) rfl rfl
  have hF20 := H9.cell (k := 2) (i := 0) rfl rfl
  have hF21 := H9.cell (k := 2) (i := 1) rfl rfl
  have hF22 := H9.cell (k := 2) (i := 2) rfl rfl
  have Hfin := Lib.hid H9
  clear H9
  go_wp2_with fail
  refine bodyPost_ret (v := .tuple #[.agg #[.slice none 0 0, .slice none 0 0, .int .i64 0], .agg #[.slice none 0 0, .slice none 0 0, .int .i64 0], .int .i64 2]) (by simp [results, Try.results21, go_sem, hF10, hF11, hF12, hF20, hF21, hF22]) rfl ?_
  exact ⟨rfl, Hfin.out.below⟩
set_option maxRecDepth 100000 in
set_option maxHeartbeats 1000000 in
theorem factor_range_b (S M : List Int) (L : Int) (aS aM : Option Addr) (cS cM : Nat) (x y : Int) (w : World) (hv : vldB S M L = true) (hx : 0 ≤ x) (hx2 : (M.length : Int) ≤ x) (hS : IntsAt w aS S) (hM : IntsAt w aM M) :
    Calls Try.prog 21 #[.agg #[.slice aS S.length cS, .slice aM M.length cM, .int .i64 L], .int .i64 x, .int .i64 y] w fun e w' => e = .returned (.tuple #[.agg #[.slice none 0 0, .slice none 0 0, .int .i64 0], .agg #[.slice none 0 0, .slice none 0 0, .int .i64 0], .int .i64 2]) ∧ Below w.heap.size w w' := by
  have hs := vldB_shape hv
  have hfw := hs.few
  have hml := hs.len
  have HV : Hid (∀ W', Below w.heap.size w W' → Calls Try.prog 26 #[.agg #[.slice aS S.length cS, .slice aM M.length cM, .int .i64 L]] W' fun e w' => e = .returned (.bool true) ∧ Below W'.heap.size W' w') := Lib.hid fun W' h => by
    have g := valid_any S M L aS aM cS cM W' (by omega) (by omega) (hS.later h) (hM.later h)
    rw [hv] at g; exact g
  have d1 : decide (x < 0) = false := decide_eq_false (by omega)
  have d2 : decide ((M.length : Int) ≤ x) = true := decide_eq_true hx2
  have H0 := Lib.hid ((((HH.start w).alloc #[.slice aS S.length cS, .slice aM M.length cM, .int .i64 L] 24 rfl rfl).alloc #[.slice none 0 0, .slice none 0 0, .int .i64 0] 24 (b := w.heap.size + 1) (by simp) rfl).alloc #[.slice none 0 0, .slice none 0 0, .int .i64 0] 24 (b := w.heap.size + 2) (by simp) rfl)
  clear hv hS hM hs hml hfw hx hx2
  generalize S.length = n at *
  generalize M.length = N at *
  go_enter Try.func21, Try.ntmps21
  go_wp2_with fail
  refine (HV.out _ H0.out.below).mono ?_
  rintro e w1 ⟨rfl, hb⟩
  have H1 := Lib.hid (H0.out.call hb)
  clear hb H0 
  have k00 := H1.out.cell (k := 0) (i := 0) rfl rfl
  have k01 := H1.out.cell (k := 0) (i := 1) rfl rfl
  have k02 := H1.out.cell (k := 0) (i := 2) rfl rfl
  have k10 := H1.out.cell (k := 1) (i := 0) rfl rfl
  have k11 := H1.out.cell (k := 1) (i := 1) rfl rfl
  have k12 := H1.out.cell (k := 1) (i := 2) rfl rfl
  have k20 := H1.out.cell (k := 2) (i := 0) rfl rfl
  have k21 := H1.out.cell (k := 2) (i := 1) rfl rfl
  have k22 := H1.out.cell (k := 2) (i := 2) rfl rfl
  have f10 := H1.out.frozen (k := 1) rfl 0
  have f11 := H1.out.frozen (k := 1) rfl 1
  have f12 := H1.out.frozen (k := 1) rfl 2
  have f20 := H1.out.frozen (k := 2) rfl 0
  have f21 := H1.out.frozen (k := 2) rfl 1
  have f22 := H1.out.frozen (k := 2) rfl 2
  have H9 := ((((((H1.out.set (k := 1) rfl 0 (.slice none 0 0)).set (k := 1) rfl 1 (.slice none 0 0)).set (k := 1) rfl 2 (.int .i64 0)).set (k := 2) rfl 0 (.slice none 0 0)).set (k := 2) rfl 1 (.slice none 0 0)).set (k := 2) rfl 2 (.int .i64 0))
  have hF10 := H9.cell (k := 1) (i := 0) rfl rfl
  have hF11 := H9.cell (k := 1) (i := 1) rfl rfl
  have hF12 := H9.cell (k := 1) (i := 2) rfl rfl
  have hF20 := H9.cell (k := 2) (i := 0) rfl rfl
  have hF21 := H9.cell (k := 2) (i := 1) rfl rfl
  have hF22 := H9.cell (k := 2) (i := 2) rfl rfl
  have Hfin := Lib.hid H9
  clear H9
  go_wp2_with fail
  refine bodyPost_ret (v := .tuple #[.agg #[.slice none 0 0, .slice none 0 0, .int .i64 0], .agg #[.slice none 0 0, .slice none 0 0, .int .i64 0], .int .i64 2]) (by simp [results, Try.results21, go_sem, hF10, hF11, hF12, hF20, hF21, hF22]) rfl ?_
  exact ⟨rfl, Hfin.out.below⟩
set_option maxRecDepth 100000 in
set_option maxHeartbeats 1000000 in
theorem factor_range_c (S M : List Int) (L : Int) (aS aM : Option Addr) (cS cM : Nat) (x y : Int) (w : World) (hv : vldB S M L = true) (hx : 0 ≤ x) (hx2 : x < M.length) (hy : y < 0) (hS : IntsAt w aS S) (hM : IntsAt w aM M) :
    Calls Try.prog 21 #[.agg #[.slice aS S.length cS, .slice aM M.length cM, .int .i64 L], .int .i64 x, .int .i64 y] w fun e w' => e = .returned (.tuple #[.agg #[.slice none 0 0, .slice none 0 0, .int .i64 0], .agg #[.slice none 0 0, .slice none 0 0, .int .i64 0], .int .i64 2]) ∧ Below w.heap.size w w' := by
  have hs := vldB_shape hv
  have hfw := hs.few
  have hml := hs.len
  have HV : Hid (∀ W', Below w.heap.size w W' → Calls Try.prog 26 #[.agg #[.slice aS S.length cS, .slice aM M.length cM, .int .i64 L]] W' fun e w' => e = .returned (.bool true) ∧ Below W'.heap.size W' w') := Lib.hid fun W' h => by
    have g := valid_any S M L aS aM cS cM W' (by omega) (by omega) (hS.later h) (hM.later h)
    rw [hv] at g; exact g
  have d1 : decide (x < 0) = false := decide_eq_false (by omega)
  have d2 : decide ((M.length : Int) ≤ x) = false := decide_eq_false (by omega)
  have d3 : decide (y < 0) = true := decide_eq_true hy
  have H0 := Lib.hid ((((HH.start w).alloc #[.slice aS S.length cS, .slice aM M.length cM, .int .i64 L] 24 rfl rfl).alloc #[.slice none 0 0, .slice none 0 0, .int .i64 0] 24 (b := w.heap.size + 1) (by simp) rfl).alloc #[.slice none 0 0, .slice none 0 0, .int .i64 0] 24 (b := w.heap.size + 2) (by simp) rfl)
  clear hv hS hM hs hml hfw hx hx2 hy
  generalize S.length = n at *
  generalize M.length = N at *
  go_enter Try.func21, Try.ntmps21
  go_wp2_with fail
  refine (HV.out _ H0.out.below).mono ?_
  rintro e w1 ⟨rfl, hb⟩
  have H1 := Lib.hid (H0.out.call hb)
  clear hb H0 
  have k00 := H1.out.cell (k := 0) (i := 0) rfl rfl
  have k01 := H1.out.cell (k := 0) (i := 1) rfl rfl
  have k02 := H1.out.cell (k := 0) (i := 2) rfl rfl
  have k10 := H1.out.cell (k := 1) (i := 0) rfl rfl
  have k11 := H1.out.cell (k := 1) (i := 1) rfl rfl
  have k12 := H1.out.cell (k := 1) (i := 2) rfl rfl
  have k20 := H1.out.cell (k := 2) (i := 0) rfl rfl
  have k21 := H1.out.cell (k := 2) (i := 1) rfl rfl
  have k22 := H1.out.cell (k := 2) (i := 2) rfl rfl
  have f10 := H1.out.frozen (k := 1) rfl 0
  have f11 := H1.out.frozen (k := 1) rfl 1
  have f12 := H1.out.frozen (k := 1) rfl 2
  have f20 := H1.out.frozen (k := 2) rfl 0
  have f21 := H1.out.frozen (k := 2) rfl 1
  have f22 := H1.out.frozen (k := 2) rfl 2
  have H9 := ((((((H1.out.set (k := 1) rfl 0 (.slice none 0 0)).set (k := 1) rfl 1 (.slice none 0 0)).set (k := 1) rfl 2 (.int .i64 0)).set (k := 2) rfl 0 (.slice none 0 0)).set (k := 2) rfl 1 (.slice none 0 0)).set (k := 2) rfl 2 (.int .i64 0))
  have hF10 := H9.cell (k := 1) (i := 0) rfl rfl
  have hF11 := H9.cell (k := 1) (i := 1) rfl rfl
  have hF12 := H9.cell (k := 1) (i := 2) rfl rfl
  have hF20 := H9.cell (k := 2) (i := 0) rfl rfl
  have hF21 := H9.cell (k := 2) (i := 1) rfl rfl
  have hF22 := H9.cell (k := 2) (i := 2) rfl rfl
  have Hfin := Lib.hid H9
  clear H9
  go_wp2_with fail
  refine bodyPost_ret (v := .tuple #[.agg #[.slice none 0 0, .slice none 0 0, .int .i64 0], .agg #[.slice none 0 0, .slice none 0 0, .int .i64 0], .int .i64 2]) (by simp [results, Try.results21, go_sem, hF10, hF11, hF12, hF20, hF21, hF22]) rfl ?_
  exact ⟨rfl, Hfin.out.below⟩
set_option maxRecDepth 100000 in
set_option maxHeartbeats 1000000 in
theorem factor_range_d (S M : List Int) (L : Int) (aS aM : Option Addr) (cS cM : Nat) (x y : Int) (w : World) (hv : vldB S M L = true) (hx : 0 ≤ x) (hx2 : x < M.length) (hy : 0 ≤ y) (hy2 : (M.length : Int) ≤ y) (hS : IntsAt w aS S) (hM : IntsAt w aM M) :
    Calls Try.prog 21 #[.agg #[.slice aS S.length cS, .slice aM M.length cM, .int .i64 L], .int .i64 x, .int .i64 y] w fun e w' => e = .returned (.tuple #[.agg #[.slice none 0 0, .slice none 0 0, .int .i64 0], .agg #[.slice none 0 0, .slice none 0 0, .int .i64 0], .int .i64 2]) ∧ Below w.heap.size w w' := by
  have hs := vldB_shape hv
  have hfw := hs.few
  have hml := hs.len
  have HV : Hid (∀ W', Below w.heap.size w W' → Calls Try.prog 26 #[.agg #[.slice aS S.length cS, .slice aM M.length cM, .int .i64 L]] W' fun e w' => e = .returned (.bool true) ∧ Below W'.heap.size W' w') := Lib.hid fun W' h => by
    have g := valid_any S M L aS aM cS cM W' (by omega) (by omega) (hS.later h) (hM.later h)
    rw [hv] at g; exact g
  have d1 : decide (x < 0) = false := decide_eq_false (by omega)
  have d2 : decide ((M.length : Int) ≤ x) = false := decide_eq_false (by omega)
  have d3 : decide (y < 0) = false := decide_eq_false (by omega)
  have d4 : decide ((M.length : Int) ≤ y) = true := decide_eq_true hy2
  have H0 := Lib.hid ((((HH.start w).alloc #[.slice aS S.length cS, .slice aM M.length cM, .int .i64 L] 24 rfl rfl).alloc #[.slice none 0 0, .slice none 0 0, .int .i64 0] 24 (b := w.heap.size + 1) (by simp) rfl).alloc #[.slice none 0 0, .slice none 0 0, .int .i64 0] 24 (b := w.heap.size + 2) (by simp) rfl)
  clear hv hS hM hs hml hfw hx hx2 hy hy2
  generalize S.length = n at *
  generalize M.length = N at *
  go_enter Try.func21, Try.ntmps21
  go_wp2_with fail
  refine (HV.out _ H0.out.below).mono ?_
  rintro e w1 ⟨rfl, hb⟩
  have H1 := Lib.hid (H0.out.call hb)
  clear hb H0 
  have k00 := H1.out.cell (k := 0) (i := 0) rfl rfl
  have k01 := H1.out.cell (k := 0) (i := 1) rfl rfl
  have k02 := H1.out.cell (k := 0) (i := 2) rfl rfl
  have k10 := H1.out.cell (k := 1) (i := 0) rfl rfl
  have k11 := H1.out.cell (k := 1) (i := 1) rfl rfl
  have k12 := H1.out.cell (k := 1) (i := 2) rfl rfl
  have k20 := H1.out.cell (k := 2) (i := 0) rfl rfl
  have k21 := H1.out.cell (k := 2) (i := 1) rfl rfl
  have k22 := H1.out.cell (k := 2) (i := 2) rfl rfl
  have f10 := H1.out.frozen (k := 1) rfl 0
  have f11 := H1.out.frozen (k := 1) rfl 1
  have f12 := H1.out.frozen (k := 1) rfl 2
  have f20 := H1.out.frozen (k := 2) rfl 0
  have f21 := H1.out.frozen (k := 2) rfl 1
  have f22 := H1.out.frozen (k := 2) rfl 2
  have H9 := ((((((H1.out.set (k := 1) rfl 0 (.slice none 0 0)).set (k := 1) rfl 1 (.slice none 0 0)).set (k := 1) rfl 2 (.int .i64 0)).set (k := 2) rfl 0 (.slice none 0 0)).set (k := 2) rfl 1 (.slice none 0 0)).set (k := 2) rfl 2 (.int .i64 0))
  have hF10 := H9.cell (k := 1) (i := 0) rfl rfl
  have hF11 := H9.cell (k := 1) (i := 1) rfl rfl
  have hF12 := H9.cell (k := 1) (i := 2) rfl rfl
  have hF20 := H9.cell (k := 2) (i := 0) rfl rfl
  have hF21 := H9.cell (k := 2) (i := 1) rfl rfl
  have hF22 := H9.cell (k := 2) (i := 2) rfl rfl
  have Hfin := Lib.hid H9
  clear H9
  go_wp2_with fail
  refine bodyPost_ret (v := .tuple #[.agg #[.slice none 0 0, .slice none 0 0, .int .i64 0], .agg #[.slice none 0 0, .slice none 0 0, .int .i64 0], .int .i64 2]) (by simp [results, Try.results21, go_sem, hF10, hF11, hF12, hF20, hF21, hF22]) rfl ?_
  exact ⟨rfl, Hfin.out.below⟩
set_option maxRecDepth 100000 in
set_option maxHeartbeats 1000000 in
theorem factor_range_e (S M : List Int) (L : Int) (aS aM : Option Addr) (cS cM : Nat) (x y : Int) (w : World) (hv : vldB S M L = true) (X : Nat) (hX : x = (X : Int)) (hX2 : X < 4 * S.length) (Y : Nat) (hY : y = (Y : Int)) (hY2 : Y < 4 * S.length) (ho : outB S X = false) (hS : IntsAt w aS S) (hM : IntsAt w aM M) :
    Calls Try.prog 21 #[.agg #[.slice aS S.length cS, .slice aM M.length cM, .int .i64 L], .int .i64 x, .int .i64 y] w fun e w' => e = .returned (.tuple #[.agg #[.slice none 0 0, .slice none 0 0, .int .i64 0], .agg #[.slice none 0 0, .slice none 0 0, .int .i64 0], .int .i64 2]) ∧ Below w.heap.size w w' := by
  have hs := vldB_shape hv
  have hfw := hs.few
  have hml := hs.len
  have HV : Hid (∀ W', Below w.heap.size w W' → Calls Try.prog 26 #[.agg #[.slice aS S.length cS, .slice aM M.length cM, .int .i64 L]] W' fun e w' => e = .returned (.bool true) ∧ Below W'.heap.size W' w') := Lib.hid fun W' h => by
    have g := valid_any S M L aS aM cS cM W' (by omega) (by omega) (hS.later h) (hM.later h)
    rw [hv] at g; exact g
  subst hX
  subst hY
  have HX : Hid (∀ W', Below w.heap.size w W' → Calls Try.prog 57 #[.agg #[.slice aS S.length cS, .slice aM M.length cM, .int .i64 L], .int .i64 (X : Int)] W' fun e w' => e = .returned (.bool false) ∧ Below W'.heap.size W' w') := Lib.hid fun W' hb => by
    have g := coutgoing_any S M L aS aM cS cM X W' (by omega) (by omega) (hS.later hb)
    rw [ho] at g; exact g
  have d1 : decide ((X : Int) < 0) = false := decide_eq_false (by omega)
  have d2 : decide ((Y : Int) < 0) = false := decide_eq_false (by omega)
  have d3 : decide (M.length ≤ X) = false := decide_eq_false (by omega)
  have d4 : decide (M.length ≤ Y) = false := decide_eq_false (by omega)
  have d5 : decide ((M.length : Int) ≤ (X : Int)) = false := decide_eq_false (by omega)
  have d6 : decide ((M.length : Int) ≤ (Y : Int)) = false := decide_eq_false (by omega)
  have H0 := Lib.hid ((((HH.start w).alloc #[.slice aS S.length cS, .slice aM M.length cM, .int .i64 L] 24 rfl rfl).alloc #[.slice none 0 0, .slice none 0 0, .int .i64 0] 24 (b := w.heap.size + 1) (by simp) rfl).alloc #[.slice none 0 0, .slice none 0 0, .int .i64 0] 24 (b := w.heap.size + 2) (by simp) rfl)
  clear hv hS hM hs hml hfw hX2 hY2 ho
  generalize S.length = n at *
  generalize M.length = N at *
  go_enter Try.func21, Try.ntmps21
  go_wp2_with fail
  refine (HV.out _ H0.out.below).mono ?_
  rintro e w1 ⟨rfl, hb⟩
  have H1 := Lib.hid (H0.out.call hb)
  clear hb H0 
  have k00 := H1.out.cell (k := 0) (i := 0) rfl rfl
  have k01 := H1.out.cell (k := 0) (i := 1) rfl rfl
  have k02 := H1.out.cell (k := 0) (i := 2) rfl rfl
  have k10 := H1.out.cell (k := 1) (i := 0) rfl rfl
  have k11 := H1.out.cell (k := 1) (i := 1) rfl rfl
  have k12 := H1.out.cell (k := 1) (i := 2) rfl rfl
  have k20 := H1.out.cell (k := 2) (i := 0) rfl rfl
  have k21 := H1.out.cell (k := 2) (i := 1) rfl rfl
  have k22 := H1.out.cell (k := 2) (i := 2) rfl rfl
  go_wp2_with fail
  clear k00 k01 k02 k10 k11 k12 k20 k21 k22
  refine (HX.out _ H1.out.below).mono ?_
  rintro e w2 ⟨rfl, hb⟩
  have H2 := Lib.hid (H1.out.call hb)
  clear hb H1 
  have k00 := H2.out.cell (k := 0) (i := 0) rfl rfl
  have k01 := H2.out.cell (k := 0) (i := 1) rfl rfl
  have k02 := H2.out.cell (k := 0) (i := 2) rfl rfl
  have k10 := H2.out.cell (k := 1) (i := 0) rfl rfl
  have k11 := H2.out.cell (k := 1) (i := 1) rfl rfl
  have k12 := H2.out.cell (k := 1) (i := 2) rfl rfl
  have k20 := H2.out.cell (k := 2) (i := 0) rfl rfl
  have k21 := H2.out.cell (k := 2) (i := 1) rfl rfl
  have k22 := H2.out.cell (k := 2) (i := 2) rfl rfl
  have f10 := H2.out.frozen (k := 1) rfl 0
  have f11 := H2.out.frozen (k := 1) rfl 1
  have f12 := H2.out.frozen (k := 1) rfl 2
  have f20 := H2.out.frozen (k := 2) rfl 0
  have f21 := H2.out.frozen (k := 2) rfl 1
  have f22 := H2.out.frozen (k := 2) rfl 2
  have H9 := ((((((H2.out.set (k := 1) rfl 0 (.slice none 0 0)).set (k := 1) rfl 1 (.slice none 0 0)).set (k := 1) rfl 2 (.int .i64 0)).set (k := 2) rfl 0 (.slice none 0 0)).set (k := 2) rfl 1 (.slice none 0 0)).set (k := 2) rfl 2 (.int .i64 0))
  have hF10 := H9.cell (k := 1) (i := 0) rfl rfl
  have hF11 := H9.cell (k := 1) (i := 1) rfl rfl
  have hF12 := H9.cell (k := 1) (i := 2) rfl rfl
  have hF20 := H9.cell (k := 2) (i := 0) rfl rfl
  have hF21 := H9.cell (k := 2) (i := 1) rfl rfl
  have hF22 := H9.cell (k := 2) (i := 2) rfl rfl
  have Hfin := Lib.hid H9
  clear H9
  go_wp2_with fail
  refine bodyPost_ret (v := .tuple #[.agg #[.slice none 0 0, .slice none 0 0, .int .i64 0], .agg #[.slice none 0 0, .slice none 0 0, .int .i64 0], .int .i64 2]) (by simp [results, Try.results21, go_sem, hF10, hF11, hF12, hF20, hF21, hF22]) rfl ?_
  exact ⟨rfl, Hfin.out.below⟩
set_option maxRecDepth 100000 in
set_option maxHeartbeats 1000000 in
theorem factor_range_f (S M : List Int) (L : Int) (aS aM : Option Addr) (cS cM : Nat) (x y : Int) (w : World) (hv : vldB S M L = true) (X : Nat) (hX : x = (X : Int)) (hX2 : X < 4 * S.length) (Y : Nat) (hY : y = (Y : Int)) (hY2 : Y < 4 * S.length) (ho : outB S X = true) (ho2 : outB S Y = false) (hS : IntsAt w aS S) (hM : IntsAt w aM M) :
    Calls Try.prog 21 #[.agg #[.slice aS S.length cS, .slice aM M.length cM, .int .i64 L], .int .i64 x, .int .i64 y] w fun e w' => e = .returned (.tuple #[.agg #[.slice none 0 0, .slice none 0 0, .int .i64 0], .agg #[.slice none 0 0, .slice none 0 0, .int .i64 0], .int .i64 2]) ∧ Below w.heap.size w w' := by
  have hs := vldB_shape hv
  have hfw := hs.few
  have hml := hs.len
  have HV : Hid (∀ W', Below w.heap.size w W' → Calls Try.prog 26 #[.agg #[.slice aS S.length cS, .slice aM M.length cM, .int .i64 L]] W' fun e w' => e = .returned (.bool true) ∧ Below W'.heap.size W' w') := Lib.hid fun W' h => by
    have g := valid_any S M L aS aM cS cM W' (by omega) (by omega) (hS.later h) (hM.later h)
    rw [hv] at g; exact g
  subst hX
  subst hY
  have HX : Hid (∀ W', Below w.heap.size w W' → Calls Try.prog 57 #[.agg #[.slice aS S.length cS, .slice aM M.length cM, .int .i64 L], .int .i64 (X : Int)] W' fun e w' => e = .returned (.bool true) ∧ Below W'.heap.size W' w') := Lib.hid fun W' hb => by
    have g := coutgoing_any S M L aS aM cS cM X W' (by omega) (by omega) (hS.later hb)
    rw [ho] at g; exact g
  have HY : Hid (∀ W', Below w.heap.size w W' → Calls Try.prog 57 #[.agg #[.slice aS S.length cS, .slice aM M.length cM, .int .i64 L], .int .i64 (Y : Int)] W' fun e w' => e = .returned (.bool false) ∧ Below W'.heap.size W' w') := Lib.hid fun W' hb => by
    have g := coutgoing_any S M L aS aM cS cM Y W' (by omega) (by omega) (hS.later hb)
    rw [ho2] at g; exact g
  have d1 : decide ((X : Int) < 0) = false := decide_eq_false (by omega)
  have d2 : decide ((Y : Int) < 0) = false := decide_eq_false (by omega)
  have d3 : decide (M.length ≤ X) = false := decide_eq_false (by omega)
  have d4 : decide (M.length ≤ Y) = false := decide_eq_false (by omega)
  have d5 : decide ((M.length : Int) ≤ (X : Int)) = false := decide_eq_false (by omega)
  have d6 : decide ((M.length : Int) ≤ (Y : Int)) = false := decide_eq_false (by omega)
  have H0 := Lib.hid ((((HH.start w).alloc #[.slice aS S.length cS, .slice aM M.length cM, .int .i64 L] 24 rfl rfl).alloc #[.slice none 0 0, .slice none 0 0, .int .i64 0] 24 (b := w.heap.size + 1) (by simp) rfl).alloc #[.slice none 0 0, .slice none 0 0, .int .i64 0] 24 (b := w.heap.size + 2) (by simp) rfl)
  clear hv hS hM hs hml hfw hX2 hY2 ho ho2
  generalize S.length = n at *
  generalize M.length = N at *
  go_enter Try.func21, Try.ntmps21
  go_wp2_with fail
  refine (HV.out _ H0.out.below).mono ?_
  rintro e w1 ⟨rfl, hb⟩
  have H1 := Lib.hid (H0.out.call hb)
  clear hb H0 
  have k00 := H1.out.cell (k := 0) (i := 0) rfl rfl
  have k01 := H1.out.cell (k := 0) (i := 1) rfl rfl
  have k02 := H1.out.cell (k := 0) (i := 2) rfl rfl
  have k10 := H1.out.cell (k := 1) (i := 0) rfl rfl
  have k11 := H1.out.cell (k := 1) (i := 1) rfl rfl
  have k12 := H1.out.cell (k := 1) (i := 2) rfl rfl
  have k20 := H1.out.cell (k := 2) (i := 0) rfl rfl
  have k21 := H1.out.cell (k := 2) (i := 1) rfl rfl
  have k22 := H1.out.cell (k := 2) (i := 2) rfl rfl
  go_wp2_with fail
  clear k00 k01 k02 k10 k11 k12 k20 k21 k22
  refine (HX.out _ H1.out.below).mono ?_
  rintro e w2 ⟨rfl, hb⟩
  have H2 := Lib.hid (H1.out.call hb)
  clear hb H1 
  have k00 := H2.out.cell (k := 0) (i := 0) rfl rfl
  have k01 := H2.out.cell (k := 0) (i := 1) rfl rfl
  have k02 := H2.out.cell (k := 0) (i := 2) rfl rfl
  have k10 := H2.out.cell (k := 1) (i := 0) rfl rfl
  have k11 := H2.out.cell (k := 1) (i := 1) rfl rfl
  have k12 := H2.out.cell (k := 1) (i := 2) rfl rfl
  have k20 := H2.out.cell (k := 2) (i := 0) rfl rfl
  have k21 := H2.out.cell (k := 2) (i := 1) rfl rfl
  have k22 := H2.out.cell (k := 2) (i := 2) rfl rfl
  go_wp2_with fail
  clear k00 k01 k02 k10 k11 k12 k20 k21 k22
  refine (HY.out _ H2.out.below).mono ?_
  rintro e w3 ⟨rfl, hb⟩
  have H3 := Lib.hid (H2.out.call hb)
  clear hb H2 
  have k00 := H3.out.cell (k := 0) (i := 0) rfl rfl
  have k01 := H3.out.cell (k := 0) (i := 1) rfl rfl
  have k02 := H3.out.cell (k := 0) (i := 2) rfl rfl
  have k10 := H3.out.cell (k := 1) (i := 0) rfl rfl
  have k11 := H3.out.cell (k := 1) (i := 1) rfl rfl
  have k12 := H3.out.cell (k := 1) (i := 2) rfl rfl
  have k20 := H3.out.cell (k := 2) (i := 0) rfl rfl
  have k21 := H3.out.cell (k := 2) (i := 1) rfl rfl
  have k22 := H3.out.cell (k := 2) (i := 2) rfl rfl
  have f10 := H3.out.frozen (k := 1) rfl 0
  have f11 := H3.out.frozen (k := 1) rfl 1
  have f12 := H3.out.frozen (k := 1) rfl 2
  have f20 := H3.out.frozen (k := 2) rfl 0
  have f21 := H3.out.frozen (k := 2) rfl 1
  have f22 := H3.out.frozen (k := 2) rfl 2
  have H9 := ((((((H3.out.set (k := 1) rfl 0 (.slice none 0 0)).set (k := 1) rfl 1 (.slice none 0 0)).set (k := 1) rfl 2 (.int .i64 0)).set (k := 2) rfl 0 (.slice none 0 0)).set (k := 2) rfl 1 (.slice none 0 0)).set (k := 2) rfl 2 (.int .i64 0))
  have hF10 := H9.cell (k := 1) (i := 0) rfl rfl
  have hF11 := H9.cell (k := 1) (i := 1) rfl rfl
  have hF12 := H9.cell (k := 1) (i := 2) rfl rfl
  have hF20 := H9.cell (k := 2) (i := 0) rfl rfl
  have hF21 := H9.cell (k := 2) (i := 1) rfl rfl
  have hF22 := H9.cell (k := 2) (i := 2) rfl rfl
  have Hfin := Lib.hid H9
  clear H9
  go_wp2_with fail
  refine bodyPost_ret (v := .tuple #[.agg #[.slice none 0 0, .slice none 0 0, .int .i64 0], .agg #[.slice none 0 0, .slice none 0 0, .int .i64 0], .int .i64 2]) (by simp [results, Try.results21, go_sem, hF10, hF11, hF12, hF20, hF21, hF22]) rfl ?_
  exact ⟨rfl, Hfin.out.below⟩
end Go.Proofs.Ytmjoijfafachhaa
