/- The walk of the law ConnectFactor. -/
import Derived.Test.YtmjoijfafachhaaRFtW
import Derived.Test.YtmjoijfafachhaaRFdW
import Derived.Test.YtmjoijfafachhaaFacM
import Derived.Test.YtmjoijfafachhaaBadW
import Derived.Test.YtmjoijfafachhaaEqlW
import Derived.Test.YtmjoijfafachhaaRefValidW
import Derived.Test.YtmjoijfafachhaaGreatW
import Derived.Test.YtmjoijfafachhaaAwkW
namespace Go.Proofs.Ytmjoijfafachhaa
open Go Go.RowKit
set_option maxRecDepth 100000 in
set_option maxHeartbeats 2000000 in
theorem lfac_great (S M : List Int) (L : Int) (aS aM : Option Addr) (cS cM : Nat) (x y : Int) (w : World) (hg : greatB S M L = true) :
    Calls Try.prog 4 #[.agg #[.slice aS S.length cS, .slice aM M.length cM, .int .i64 L], .int .i64 x, .int .i64 y] w fun e w' => e = .returned (.bool true) ∧ Below w.heap.size w w' := by
  have HG : Hid (∀ W', Calls Try.prog 13 #[.agg #[.slice aS S.length cS, .slice aM M.length cM, .int .i64 L]] W' fun e w' => e = .returned (.bool true) ∧ Below W'.heap.size W' w') := Lib.hid fun W' => by
    have g := great_any S M L aS aM cS cM W'
    rw [hg] at g; exact g
  have H0 := Lib.hid ((HH.start w).alloc #[.slice aS S.length cS, .slice aM M.length cM, .int .i64 L] 24 rfl rfl)
  clear hg
  go_enter Try.func4, Try.ntmps4
  go_wp2_with fail
  refine (awake_any _).mono ?_
  rintro e w1 ⟨rfl, hb⟩
  have H1 := Lib.hid (H0.out.call hb)
  clear hb H0 
  have k00 := H1.out.cell (k := 0) (i := 0) rfl rfl
  have k01 := H1.out.cell (k := 0) (i := 1) rfl rfl
  have k02 := H1.out.cell (k := 0) (i := 2) rfl rfl
  go_wp2_with fail
  clear k00 k01 k02
  refine (HG.out _).mono ?_
  rintro e w2 ⟨rfl, hb⟩
  have H2 := Lib.hid (H1.out.call hb)
  clear hb H1 
  go_wp2_with fail
  go_ret
  exact ⟨rfl, H2.out.below⟩
set_option maxRecDepth 100000 in
set_option maxHeartbeats 2000000 in
theorem lfac_arg (S M : List Int) (L : Int) (aS aM : Option Addr) (cS cM : Nat) (x y : Int) (w : World) (hg : greatB S M L = false) (hv : vldB S M L = false) (hS : IntsAt w aS S) (hM : IntsAt w aM M) :
    Calls Try.prog 4 #[.agg #[.slice aS S.length cS, .slice aM M.length cM, .int .i64 L], .int .i64 x, .int .i64 y] w fun e w' => e = .returned (.bool true) ∧ Below w.heap.size w w' := by
  obtain ⟨hg1, hg2⟩ := greatB_no hg
  have HG : Hid (∀ W', Calls Try.prog 13 #[.agg #[.slice aS S.length cS, .slice aM M.length cM, .int .i64 L]] W' fun e w' => e = .returned (.bool false) ∧ Below W'.heap.size W' w') := Lib.hid fun W' => by
    have g := great_any S M L aS aM cS cM W'
    rw [hg] at g; exact g
  have HEZ : Hid (∀ W', Calls Try.prog 24 #[.agg #[.slice none 0 0, .slice none 0 0, .int .i64 0], .agg #[.slice none 0 0, .slice none 0 0, .int .i64 0]] W' fun e w' => e = .returned (.bool true) ∧ Below W'.heap.size W' w') := Lib.hid fun W' => equalR_any [] [] [] [] 0 0 none none none none 0 0 0 0 W' (by decide) (by decide) (IntsAt.nil _ _) (IntsAt.nil _ _) (IntsAt.nil _ _) (IntsAt.nil _ _)
  have HFc : Hid (∀ W', Below w.heap.size w W' → Calls Try.prog 21 #[.agg #[.slice aS S.length cS, .slice aM M.length cM, .int .i64 L], .int .i64 x, .int .i64 y] W' fun e w' => e = .returned (.tuple #[.agg #[.slice none 0 0, .slice none 0 0, .int .i64 0], .agg #[.slice none 0 0, .slice none 0 0, .int .i64 0], .int .i64 1]) ∧ Below W'.heap.size W' w') := Lib.hid fun W' h => by
    exact factor_arg S M L aS aM cS cM x y W' (by omega) (by omega) hv (hS.later h) (hM.later h)
  have HR : Hid (∀ W', Below w.heap.size w W' → Calls Try.prog 15 #[.agg #[.slice aS S.length cS, .slice aM M.length cM, .int .i64 L]] W' fun e w' => e = .returned (.bool false) ∧ Below W'.heap.size W' w') := Lib.hid fun W' h => by
    have g := rvalid_any S M L aS aM cS cM W' (by omega) (by omega) (hS.later h) (hM.later h)
    rw [hv] at g; exact g
  have H0 := Lib.hid ((HH.start w).alloc #[.slice aS S.length cS, .slice aM M.length cM, .int .i64 L] 24 rfl rfl)
  clear hg hv hS hM
  generalize S.length = n at *
  generalize M.length = N at *
  go_enter Try.func4, Try.ntmps4
  go_wp2_with fail
  refine (awake_any _).mono ?_
  rintro e w1 ⟨rfl, hb⟩
  have H1 := Lib.hid (H0.out.call hb)
  clear hb H0 
  have k00 := H1.out.cell (k := 0) (i := 0) rfl rfl
  have k01 := H1.out.cell (k := 0) (i := 1) rfl rfl
  have k02 := H1.out.cell (k := 0) (i := 2) rfl rfl
  go_wp2_with fail
  clear k00 k01 k02
  refine (HG.out _).mono ?_
  rintro e w2 ⟨rfl, hb⟩
  have H2 := Lib.hid (H1.out.call hb)
  clear hb H1 
  have k00 := H2.out.cell (k := 0) (i := 0) rfl rfl
  have k01 := H2.out.cell (k := 0) (i := 1) rfl rfl
  have k02 := H2.out.cell (k := 0) (i := 2) rfl rfl
  go_wp2_with fail
  clear k00 k01 k02
  refine (HFc.out _ H2.out.below).mono ?_
  rintro e w3 ⟨rfl, hb⟩
  have H3 := Lib.hid (((H2.out.call hb).alloc #[.slice none 0 0, .slice none 0 0, .int .i64 0] 24 (b := w3.heap.size) rfl rfl).alloc #[.slice none 0 0, .slice none 0 0, .int .i64 0] 24 (b := w3.heap.size + 1) (by simp) rfl)
  clear hb H2 HFc
  go_upto_region 6 with fail
  generalize (w3.alloc (.cells #[.slice none 0 0, .slice none 0 0, .int .i64 0] 24)).alloc (.cells #[.slice none 0 0, .slice none 0 0, .int .i64 0] 24) = v3 at *
  generalize w3.heap.size = q3 at *
  have k00 := H3.out.cell (k := 0) (i := 0) rfl rfl
  have k01 := H3.out.cell (k := 0) (i := 1) rfl rfl
  have k02 := H3.out.cell (k := 0) (i := 2) rfl rfl
  have k10 := H3.out.cell (k := 1) (i := 0) rfl rfl
  have k11 := H3.out.cell (k := 1) (i := 1) rfl rfl
  have k12 := H3.out.cell (k := 1) (i := 2) rfl rfl
  have k20 := H3.out.cell (k := 2) (i := 0) rfl rfl
  have k21 := H3.out.cell (k := 2) (i := 1) rfl rfl
  have k22 := H3.out.cell (k := 2) (i := 2) rfl rfl
  go_wp2_with fail
  clear k00 k01 k02 k10 k11 k12 k20 k21 k22
  refine (HR.out _ H3.out.below).mono ?_
  rintro e w4 ⟨rfl, hb⟩
  have H4 := Lib.hid (H3.out.call hb)
  clear hb H3 
  have k00 := H4.out.cell (k := 0) (i := 0) rfl rfl
  have k01 := H4.out.cell (k := 0) (i := 1) rfl rfl
  have k02 := H4.out.cell (k := 0) (i := 2) rfl rfl
  have k10 := H4.out.cell (k := 1) (i := 0) rfl rfl
  have k11 := H4.out.cell (k := 1) (i := 1) rfl rfl
  have k12 := H4.out.cell (k := 1) (i := 2) rfl rfl
  have k20 := H4.out.cell (k := 2) (i := 0) rfl rfl
  have k21 := H4.out.cell (k := 2) (i := 1) rfl rfl
  have k22 := H4.out.cell (k := 2) (i := 2) rfl rfl
  go_wp2_with fail
  clear k00 k01 k02 k10 k11 k12 k20 k21 k22
  refine (HEZ.out _).mono ?_
  rintro e w5 ⟨rfl, hb⟩
  have H5 := Lib.hid (H4.out.call hb)
  clear hb H4 
  have k00 := H5.out.cell (k := 0) (i := 0) rfl rfl
  have k01 := H5.out.cell (k := 0) (i := 1) rfl rfl
  have k02 := H5.out.cell (k := 0) (i := 2) rfl rfl
  have k10 := H5.out.cell (k := 1) (i := 0) rfl rfl
  have k11 := H5.out.cell (k := 1) (i := 1) rfl rfl
  have k12 := H5.out.cell (k := 1) (i := 2) rfl rfl
  have k20 := H5.out.cell (k := 2) (i := 0) rfl rfl
  have k21 := H5.out.cell (k := 2) (i := 1) rfl rfl
  have k22 := H5.out.cell (k := 2) (i := 2) rfl rfl
  go_wp2_with fail
  clear k00 k01 k02 k10 k11 k12 k20 k21 k22
  refine (HEZ.out _).mono ?_
  rintro e w6 ⟨rfl, hb⟩
  have H6 := Lib.hid (H5.out.call hb)
  clear hb H5 
  go_wp2_with fail
  go_ret
  exact ⟨rfl, H6.out.below⟩
set_option maxRecDepth 100000 in
set_option maxHeartbeats 2000000 in
theorem lfac_ra (S M : List Int) (L : Int) (aS aM : Option Addr) (cS cM : Nat) (x y : Int) (w : World) (hg : greatB S M L = false) (hv : vldB S M L = true) (hx : x < 0) (hS : IntsAt w aS S) (hM : IntsAt w aM M) :
    Calls Try.prog 4 #[.agg #[.slice aS S.length cS, .slice aM M.length cM, .int .i64 L], .int .i64 x, .int .i64 y] w fun e w' => e = .returned (.bool true) ∧ Below w.heap.size w w' := by
  obtain ⟨hg1, hg2⟩ := greatB_no hg
  have HG : Hid (∀ W', Calls Try.prog 13 #[.agg #[.slice aS S.length cS, .slice aM M.length cM, .int .i64 L]] W' fun e w' => e = .returned (.bool false) ∧ Below W'.heap.size W' w') := Lib.hid fun W' => by
    have g := great_any S M L aS aM cS cM W'
    rw [hg] at g; exact g
  have HEZ : Hid (∀ W', Calls Try.prog 24 #[.agg #[.slice none 0 0, .slice none 0 0, .int .i64 0], .agg #[.slice none 0 0, .slice none 0 0, .int .i64 0]] W' fun e w' => e = .returned (.bool true) ∧ Below W'.heap.size W' w') := Lib.hid fun W' => equalR_any [] [] [] [] 0 0 none none none none 0 0 0 0 W' (by decide) (by decide) (IntsAt.nil _ _) (IntsAt.nil _ _) (IntsAt.nil _ _) (IntsAt.nil _ _)
  have hml := (vldB_shape hv).len
  have HFc : Hid (∀ W', Below w.heap.size w W' → Calls Try.prog 21 #[.agg #[.slice aS S.length cS, .slice aM M.length cM, .int .i64 L], .int .i64 x, .int .i64 y] W' fun e w' => e = .returned (.tuple #[.agg #[.slice none 0 0, .slice none 0 0, .int .i64 0], .agg #[.slice none 0 0, .slice none 0 0, .int .i64 0], .int .i64 2]) ∧ Below W'.heap.size W' w') := Lib.hid fun W' h => by
    exact factor_range_a S M L aS aM cS cM x y W' hv hx (hS.later h) (hM.later h)
  have HR : Hid (∀ W', Below w.heap.size w W' → Calls Try.prog 15 #[.agg #[.slice aS S.length cS, .slice aM M.length cM, .int .i64 L]] W' fun e w' => e = .returned (.bool true) ∧ Below W'.heap.size W' w') := Lib.hid fun W' h => by
    have g := rvalid_any S M L aS aM cS cM W' (by omega) (by omega) (hS.later h) (hM.later h)
    rw [hv] at g; exact g
  have H0 := Lib.hid ((HH.start w).alloc #[.slice aS S.length cS, .slice aM M.length cM, .int .i64 L] 24 rfl rfl)
  have t1 : decide (x < 0) = true := decide_eq_true hx
  clear hg hv hS hM hx hml
  generalize S.length = n at *
  generalize M.length = N at *
  go_enter Try.func4, Try.ntmps4
  go_wp2_with fail
  refine (awake_any _).mono ?_
  rintro e w1 ⟨rfl, hb⟩
  have H1 := Lib.hid (H0.out.call hb)
  clear hb H0 
  have k00 := H1.out.cell (k := 0) (i := 0) rfl rfl
  have k01 := H1.out.cell (k := 0) (i := 1) rfl rfl
  have k02 := H1.out.cell (k := 0) (i := 2) rfl rfl
  go_wp2_with fail
  clear k00 k01 k02
  refine (HG.out _).mono ?_
  rintro e w2 ⟨rfl, hb⟩
  have H2 := Lib.hid (H1.out.call hb)
  clear hb H1 
  have k00 := H2.out.cell (k := 0) (i := 0) rfl rfl
  have k01 := H2.out.cell (k := 0) (i := 1) rfl rfl
  have k02 := H2.out.cell (k := 0) (i := 2) rfl rfl
  go_wp2_with fail
  clear k00 k01 k02
  refine (HFc.out _ H2.out.below).mono ?_
  rintro e w3 ⟨rfl, hb⟩
  have H3 := Lib.hid (((H2.out.call hb).alloc #[.slice none 0 0, .slice none 0 0, .int .i64 0] 24 (b := w3.heap.size) rfl rfl).alloc #[.slice none 0 0, .slice none 0 0, .int .i64 0] 24 (b := w3.heap.size + 1) (by simp) rfl)
  clear hb H2 HFc
  go_upto_region 6 with fail
  generalize (w3.alloc (.cells #[.slice none 0 0, .slice none 0 0, .int .i64 0] 24)).alloc (.cells #[.slice none 0 0, .slice none 0 0, .int .i64 0] 24) = v3 at *
  generalize w3.heap.size = q3 at *
  have k00 := H3.out.cell (k := 0) (i := 0) rfl rfl
  have k01 := H3.out.cell (k := 0) (i := 1) rfl rfl
  have k02 := H3.out.cell (k := 0) (i := 2) rfl rfl
  have k10 := H3.out.cell (k := 1) (i := 0) rfl rfl
  have k11 := H3.out.cell (k := 1) (i := 1) rfl rfl
  have k12 := H3.out.cell (k := 1) (i := 2) rfl rfl
  have k20 := H3.out.cell (k := 2) (i := 0) rfl rfl
  have k21 := H3.out.cell (k := 2) (i := 1) rfl rfl
  have k22 := H3.out.cell (k := 2) (i := 2) rfl rfl
  go_wp2_with fail
  clear k00 k01 k02 k10 k11 k12 k20 k21 k22
  refine (HR.out _ H3.out.below).mono ?_
  rintro e w4 ⟨rfl, hb⟩
  have H4 := Lib.hid (H3.out.call hb)
  clear hb H3 
  have k00 := H4.out.cell (k := 0) (i := 0) rfl rfl
  have k01 := H4.out.cell (k := 0) (i := 1) rfl rfl
  have k02 := H4.out.cell (k := 0) (i := 2) rfl rfl
  have k10 := H4.out.cell (k := 1) (i := 0) rfl rfl
  have k11 := H4.out.cell (k := 1) (i := 1) rfl rfl
  have k12 := H4.out.cell (k := 1) (i := 2) rfl rfl
  have k20 := H4.out.cell (k := 2) (i := 0) rfl rfl
  have k21 := H4.out.cell (k := 2) (i := 1) rfl rfl
  have k22 := H4.out.cell (k := 2) (i := 2) rfl rfl
  go_wp2_with fail
  clear k00 k01 k02 k10 k11 k12 k20 k21 k22
  refine (HEZ.out _).mono ?_
  rintro e w5 ⟨rfl, hb⟩
  have H5 := Lib.hid (H4.out.call hb)
  clear hb H4 
  have k00 := H5.out.cell (k := 0) (i := 0) rfl rfl
  have k01 := H5.out.cell (k := 0) (i := 1) rfl rfl
  have k02 := H5.out.cell (k := 0) (i := 2) rfl rfl
  have k10 := H5.out.cell (k := 1) (i := 0) rfl rfl
  have k11 := H5.out.cell (k := 1) (i := 1) rfl rfl
  have k12 := H5.out.cell (k := 1) (i := 2) rfl rfl
  have k20 := H5.out.cell (k := 2) (i := 0) rfl rfl
  have k21 := H5.out.cell (k := 2) (i := 1) rfl rfl
  have k22 := H5.out.cell (k := 2) (i := 2) rfl rfl
  go_wp2_with fail
  clear k00 k01 k02 k10 k11 k12 k20 k21 k22
  refine (HEZ.out _).mono ?_
  rintro e w6 ⟨rfl, hb⟩
  have H6 := Lib.hid (H5.out.call hb)
  clear hb H5 
  go_wp2_with fail
  go_ret
  exact ⟨rfl, H6.out.below⟩
set_option maxRecDepth 100000 in
set_option maxHeartbeats 2000000 in
theorem lfac_rb (S M : List Int) (L : Int) (aS aM : Option Addr) (cS cM : Nat) (x y : Int) (w : World) (hg : greatB S M L = false) (hv : vldB S M L = true) (hx : 0 ≤ x) (hy : y < 0) (hS : IntsAt w aS S) (hM : IntsAt w aM M) :
    Calls Try.prog 4 #[.agg #[.slice aS S.length cS, .slice aM M.length cM, .int .i64 L], .int .i64 x, .int .i64 y] w fun e w' => e = .returned (.bool true) ∧ Below w.heap.size w w' := by
  obtain ⟨hg1, hg2⟩ := greatB_no hg
  have HG : Hid (∀ W', Calls Try.prog 13 #[.agg #[.slice aS S.length cS, .slice aM M.length cM, .int .i64 L]] W' fun e w' => e = .returned (.bool false) ∧ Below W'.heap.size W' w') := Lib.hid fun W' => by
    have g := great_any S M L aS aM cS cM W'
    rw [hg] at g; exact g
  have HEZ : Hid (∀ W', Calls Try.prog 24 #[.agg #[.slice none 0 0, .slice none 0 0, .int .i64 0], .agg #[.slice none 0 0, .slice none 0 0, .int .i64 0]] W' fun e w' => e = .returned (.bool true) ∧ Below W'.heap.size W' w') := Lib.hid fun W' => equalR_any [] [] [] [] 0 0 none none none none 0 0 0 0 W' (by decide) (by decide) (IntsAt.nil _ _) (IntsAt.nil _ _) (IntsAt.nil _ _) (IntsAt.nil _ _)
  have hml := (vldB_shape hv).len
  have HFc : Hid (∀ W', Below w.heap.size w W' → Calls Try.prog 21 #[.agg #[.slice aS S.length cS, .slice aM M.length cM, .int .i64 L], .int .i64 x, .int .i64 y] W' fun e w' => e = .returned (.tuple #[.agg #[.slice none 0 0, .slice none 0 0, .int .i64 0], .agg #[.slice none 0 0, .slice none 0 0, .int .i64 0], .int .i64 2]) ∧ Below W'.heap.size W' w') := Lib.hid fun W' h => by
    by_cases g : (M.length : Int) ≤ x
    · exact factor_range_b S M L aS aM cS cM x y W' hv hx g (hS.later h) (hM.later h)
    · exact factor_range_c S M L aS aM cS cM x y W' hv hx (by omega) hy (hS.later h) (hM.later h)
  have HR : Hid (∀ W', Below w.heap.size w W' → Calls Try.prog 15 #[.agg #[.slice aS S.length cS, .slice aM M.length cM, .int .i64 L]] W' fun e w' => e = .returned (.bool true) ∧ Below W'.heap.size W' w') := Lib.hid fun W' h => by
    have g := rvalid_any S M L aS aM cS cM W' (by omega) (by omega) (hS.later h) (hM.later h)
    rw [hv] at g; exact g
  have H0 := Lib.hid ((HH.start w).alloc #[.slice aS S.length cS, .slice aM M.length cM, .int .i64 L] 24 rfl rfl)
  have t1 : decide (x < 0) = false := decide_eq_false (by omega)
  have t2 : decide (y < 0) = true := decide_eq_true hy
  clear hg hv hS hM hx hy hml
  generalize S.length = n at *
  generalize M.length = N at *
  go_enter Try.func4, Try.ntmps4
  go_wp2_with fail
  refine (awake_any _).mono ?_
  rintro e w1 ⟨rfl, hb⟩
  have H1 := Lib.hid (H0.out.call hb)
  clear hb H0 
  have k00 := H1.out.cell (k := 0) (i := 0) rfl rfl
  have k01 := H1.out.cell (k := 0) (i := 1) rfl rfl
  have k02 := H1.out.cell (k := 0) (i := 2) rfl rfl
  go_wp2_with fail
  clear k00 k01 k02
  refine (HG.out _).mono ?_
  rintro e w2 ⟨rfl, hb⟩
  have H2 := Lib.hid (H1.out.call hb)
  clear hb H1 
  have k00 := H2.out.cell (k := 0) (i := 0) rfl rfl
  have k01 := H2.out.cell (k := 0) (i := 1) rfl rfl
  have k02 := H2.out.cell (k := 0) (i := 2) rfl rfl
  go_wp2_with fail
  clear k00 k01 k02
  refine (HFc.out _ H2.out.below).mono ?_
  rintro e w3 ⟨rfl, hb⟩
  have H3 := Lib.hid (((H2.out.call hb).alloc #[.slice none 0 0, .slice none 0 0, .int .i64 0] 24 (b := w3.heap.size) rfl rfl).alloc #[.slice none 0 0, .slice none 0 0, .int .i64 0] 24 (b := w3.heap.size + 1) (by simp) rfl)
  clear hb H2 HFc
  go_upto_region 6 with fail
  generalize (w3.alloc (.cells #[.slice none 0 0, .slice none 0 0, .int .i64 0] 24)).alloc (.cells #[.slice none 0 0, .slice none 0 0, .int .i64 0] 24) = v3 at *
  generalize w3.heap.size = q3 at *
  have k00 := H3.out.cell (k := 0) (i := 0) rfl rfl
  have k01 := H3.out.cell (k := 0) (i := 1) rfl rfl
  have k02 := H3.out.cell (k := 0) (i := 2) rfl rfl
  have k10 := H3.out.cell (k := 1) (i := 0) rfl rfl
  have k11 := H3.out.cell (k := 1) (i := 1) rfl rfl
  have k12 := H3.out.cell (k := 1) (i := 2) rfl rfl
  have k20 := H3.out.cell (k := 2) (i := 0) rfl rfl
  have k21 := H3.out.cell (k := 2) (i := 1) rfl rfl
  have k22 := H3.out.cell (k := 2) (i := 2) rfl rfl
  go_wp2_with fail
  clear k00 k01 k02 k10 k11 k12 k20 k21 k22
  refine (HR.out _ H3.out.below).mono ?_
  rintro e w4 ⟨rfl, hb⟩
  have H4 := Lib.hid (H3.out.call hb)
  clear hb H3 
  have k00 := H4.out.cell (k := 0) (i := 0) rfl rfl
  have k01 := H4.out.cell (k := 0) (i := 1) rfl rfl
  have k02 := H4.out.cell (k := 0) (i := 2) rfl rfl
  have k10 := H4.out.cell (k := 1) (i := 0) rfl rfl
  have k11 := H4.out.cell (k := 1) (i := 1) rfl rfl
  have k12 := H4.out.cell (k := 1) (i := 2) rfl rfl
  have k20 := H4.out.cell (k := 2) (i := 0) rfl rfl
  have k21 := H4.out.cell (k := 2) (i := 1) rfl rfl
  have k22 := H4.out.cell (k := 2) (i := 2) rfl rfl
  go_wp2_with fail
  clear k00 k01 k02 k10 k11 k12 k20 k21 k22
  refine (HEZ.out _).mono ?_
  rintro e w5 ⟨rfl, hb⟩
  have H5 := Lib.hid (H4.out.call hb)
  clear hb H4 
  have k00 := H5.out.cell (k := 0) (i := 0) rfl rfl
  have k01 := H5.out.cell (k := 0) (i := 1) rfl rfl
  have k02 := H5.out.cell (k := 0) (i := 2) rfl rfl
  have k10 := H5.out.cell (k := 1) (i := 0) rfl rfl
  have k11 := H5.out.cell (k := 1) (i := 1) rfl rfl
  have k12 := H5.out.cell (k := 1) (i := 2) rfl rfl
  have k20 := H5.out.cell (k := 2) (i := 0) rfl rfl
  have k21 := H5.out.cell (k := 2) (i := 1) rfl rfl
  have k22 := H5.out.cell (k := 2) (i := 2) rfl rfl
  go_wp2_with fail
  clear k00 k01 k02 k10 k11 k12 k20 k21 k22
  refine (HEZ.out _).mono ?_
  rintro e w6 ⟨rfl, hb⟩
  have H6 := Lib.hid (H5.out.call hb)
  clear hb H5 
  go_wp2_with fail
  go_ret
  exact ⟨rfl, H6.out.below⟩
set_option maxRecDepth 100000 in
set_option maxHeartbeats 2000000 in
theorem lfac_rc (S M : List Int) (L : Int) (aS aM : Option Addr) (cS cM : Nat) (x y : Int) (w : World) (hg : greatB S M L = false) (hv : vldB S M L = true) (hx : 0 ≤ x) (hy : 0 ≤ y) (hp : placeB S L x = false) (hS : IntsAt w aS S) (hM : IntsAt w aM M) :
    Calls Try.prog 4 #[.agg #[.slice aS S.length cS, .slice aM M.length cM, .int .i64 L], .int .i64 x, .int .i64 y] w fun e w' => e = .returned (.bool true) ∧ Below w.heap.size w w' := by
  obtain ⟨hg1, hg2⟩ := greatB_no hg
  have HG : Hid (∀ W', Calls Try.prog 13 #[.agg #[.slice aS S.length cS, .slice aM M.length cM, .int .i64 L]] W' fun e w' => e = .returned (.bool false) ∧ Below W'.heap.size W' w') := Lib.hid fun W' => by
    have g := great_any S M L aS aM cS cM W'
    rw [hg] at g; exact g
  have HEZ : Hid (∀ W', Calls Try.prog 24 #[.agg #[.slice none 0 0, .slice none 0 0, .int .i64 0], .agg #[.slice none 0 0, .slice none 0 0, .int .i64 0]] W' fun e w' => e = .returned (.bool true) ∧ Below W'.heap.size W' w') := Lib.hid fun W' => equalR_any [] [] [] [] 0 0 none none none none 0 0 0 0 W' (by decide) (by decide) (IntsAt.nil _ _) (IntsAt.nil _ _) (IntsAt.nil _ _) (IntsAt.nil _ _)
  have hml := (vldB_shape hv).len
  have HFc : Hid (∀ W', Below w.heap.size w W' → Calls Try.prog 21 #[.agg #[.slice aS S.length cS, .slice aM M.length cM, .int .i64 L], .int .i64 x, .int .i64 y] W' fun e w' => e = .returned (.tuple #[.agg #[.slice none 0 0, .slice none 0 0, .int .i64 0], .agg #[.slice none 0 0, .slice none 0 0, .int .i64 0], .int .i64 2]) ∧ Below W'.heap.size W' w') := Lib.hid fun W' h => by
    by_cases g : (M.length : Int) ≤ x
    · exact factor_range_b S M L aS aM cS cM x y W' hv hx g (hS.later h) (hM.later h)
    · by_cases g2 : (M.length : Int) ≤ y
      · exact factor_range_d S M L aS aM cS cM x y W' hv hx (by omega) hy g2 (hS.later h) (hM.later h)
      · obtain ⟨X, hX⟩ : ∃ X : Nat, x = (X : Int) := ⟨x.toNat, by omega⟩
        obtain ⟨Y, hY⟩ : ∃ Y : Nat, y = (Y : Int) := ⟨y.toNat, by omega⟩
        have hX4 : X < 4 * S.length := by omega
        have hY4 : Y < 4 * S.length := by omega
        rw [hX, placeB_at hX4] at hp
        exact factor_range_e S M L aS aM cS cM x y W' hv X hX hX4 Y hY hY4 hp (hS.later h) (hM.later h)
  have HR : Hid (∀ W', Below w.heap.size w W' → Calls Try.prog 15 #[.agg #[.slice aS S.length cS, .slice aM M.length cM, .int .i64 L]] W' fun e w' => e = .returned (.bool true) ∧ Below W'.heap.size W' w') := Lib.hid fun W' h => by
    have g := rvalid_any S M L aS aM cS cM W' (by omega) (by omega) (hS.later h) (hM.later h)
    rw [hv] at g; exact g
  have HP1 : Hid (∀ W', Below w.heap.size w W' → Calls Try.prog 22 #[.agg #[.slice aS S.length cS, .slice aM M.length cM, .int .i64 L], .int .i64 x] W' fun e w' => e = .returned (.bool false) ∧ Below W'.heap.size W' w') := Lib.hid fun W' h => by
    have g := place_any S M L aS aM cS cM x W' (by omega) hml (hS.later h)
    rw [hp] at g; exact g
  have H0 := Lib.hid ((HH.start w).alloc #[.slice aS S.length cS, .slice aM M.length cM, .int .i64 L] 24 rfl rfl)
  have t1 : decide (x < 0) = false := decide_eq_false (by omega)
  have t2 : decide (y < 0) = false := decide_eq_false (by omega)
  clear hg hv hS hM hx hy hp hml
  generalize S.length = n at *
  generalize M.length = N at *
  go_enter Try.func4, Try.ntmps4
  go_wp2_with fail
  refine (awake_any _).mono ?_
  rintro e w1 ⟨rfl, hb⟩
  have H1 := Lib.hid (H0.out.call hb)
  clear hb H0 
  have k00 := H1.out.cell (k := 0) (i := 0) rfl rfl
  have k01 := H1.out.cell (k := 0) (i := 1) rfl rfl
  have k02 := H1.out.cell (k := 0) (i := 2) rfl rfl
  go_wp2_with fail
  clear k00 k01 k02
  refine (HG.out _).mono ?_
  rintro e w2 ⟨rfl, hb⟩
  have H2 := Lib.hid (H1.out.call hb)
  clear hb H1 
  have k00 := H2.out.cell (k := 0) (i := 0) rfl rfl
  have k01 := H2.out.cell (k := 0) (i := 1) rfl rfl
  have k02 := H2.out.cell (k := 0) (i := 2) rfl rfl
  go_wp2_with fail
  clear k00 k01 k02
  refine (HFc.out _ H2.out.below).mono ?_
  rintro e w3 ⟨rfl, hb⟩
  have H3 := Lib.hid (((H2.out.call hb).alloc #[.slice none 0 0, .slice none 0 0, .int .i64 0] 24 (b := w3.heap.size) rfl rfl).alloc #[.slice none 0 0, .slice none 0 0, .int .i64 0] 24 (b := w3.heap.size + 1) (by simp) rfl)
  clear hb H2 HFc
  go_upto_region 6 with fail
  generalize (w3.alloc (.cells #[.slice none 0 0, .slice none 0 0, .int .i64 0] 24)).alloc (.cells #[.slice none 0 0, .slice none 0 0, .int .i64 0] 24) = v3 at *
  generalize w3.heap.size = q3 at *
  have k00 := H3.out.cell (k := 0) (i := 0) rfl rfl
  have k01 := H3.out.cell (k := 0) (i := 1) rfl rfl
  have k02 := H3.out.cell (k := 0) (i := 2) rfl rfl
  have k10 := H3.out.cell (k := 1) (i := 0) rfl rfl
  have k11 := H3.out.cell (k := 1) (i := 1) rfl rfl
  have k12 := H3.out.cell (k := 1) (i := 2) rfl rfl
  have k20 := H3.out.cell (k := 2) (i := 0) rfl rfl
  have k21 := H3.out.cell (k := 2) (i := 1) rfl rfl
  have k22 := H3.out.cell (k := 2) (i := 2) rfl rfl
  go_wp2_with fail
  clear k00 k01 k02 k10 k11 k12 k20 k21 k22
  refine (HR.out _ H3.out.below).mono ?_
  rintro e w4 ⟨rfl, hb⟩
  have H4 := Lib.hid (H3.out.call hb)
  clear hb H3 
  have k00 := H4.out.cell (k := 0) (i := 0) rfl rfl
  have k01 := H4.out.cell (k := 0) (i := 1) rfl rfl
  have k02 := H4.out.cell (k := 0) (i := 2) rfl rfl
  have k10 := H4.out.cell (k := 1) (i := 0) rfl rfl
  have k11 := H4.out.cell (k := 1) (i := 1) rfl rfl
  have k12 := H4.out.cell (k := 1) (i := 2) rfl rfl
  have k20 := H4.out.cell (k := 2) (i := 0) rfl rfl
  have k21 := H4.out.cell (k := 2) (i := 1) rfl rfl
  have k22 := H4.out.cell (k := 2) (i := 2) rfl rfl
  go_wp2_with fail
  clear k00 k01 k02 k10 k11 k12 k20 k21 k22
  refine (HP1.out _ H4.out.below).mono ?_
  rintro e w5 ⟨rfl, hb⟩
  have H5 := Lib.hid (H4.out.call hb)
  clear hb H4 
  have k00 := H5.out.cell (k := 0) (i := 0) rfl rfl
  have k01 := H5.out.cell (k := 0) (i := 1) rfl rfl
  have k02 := H5.out.cell (k := 0) (i := 2) rfl rfl
  have k10 := H5.out.cell (k := 1) (i := 0) rfl rfl
  have k11 := H5.out.cell (k := 1) (i := 1) rfl rfl
  have k12 := H5.out.cell (k := 1) (i := 2) rfl rfl
  have k20 := H5.out.cell (k := 2) (i := 0) rfl rfl
  have k21 := H5.out.cell (k := 2) (i := 1) rfl rfl
  have k22 := H5.out.cell (k := 2) (i := 2) rfl rfl
  go_wp2_with fail
  clear k00 k01 k02 k10 k11 k12 k20 k21 k22
  refine (HEZ.out _).mono ?_
  rintro e w6 ⟨rfl, hb⟩
  have H6 := Lib.hid (H5.out.call hb)
  clear hb H5 
  have k00 := H6.out.cell (k := 0) (i := 0) rfl rfl
  have k01 := H6.out.cell (k := 0) (i := 1) rfl rfl
  have k02 := H6.out.cell (k := 0) (i := 2) rfl rfl
  have k10 := H6.out.cell (k := 1) (i := 0) rfl rfl
  have k11 := H6.out.cell (k := 1) (i := 1) rfl rfl
  have k12 := H6.out.cell (k := 1) (i := 2) rfl rfl
  have k20 := H6.out.cell (k := 2) (i := 0) rfl rfl
  have k21 := H6.out.cell (k := 2) (i := 1) rfl rfl
  have k22 := H6.out.cell (k := 2) (i := 2) rfl rfl
  go_wp2_with fail
  clear k00 k01 k02 k10 k11 k12 k20 k21 k22
  refine (HEZ.out _).mono ?_
  rintro e w7 ⟨rfl, hb⟩
  have H7 := Lib.hid (H6.out.call hb)
  clear hb H6 
  go_wp2_with fail
  go_ret
  exact ⟨rfl, H7.out.below⟩
set_option maxRecDepth 100000 in
set_option maxHeartbeats 2000000 in
theorem lfac_rd (S M : List Int) (L : Int) (aS aM : Option Addr) (cS cM : Nat) (x y : Int) (w : World) (hg : greatB S M L = false) (hv : vldB S M L = true) (hx : 0 ≤ x) (hy : 0 ≤ y) (hp : placeB S L x = true) (hq : placeB S L y = false) (hS : IntsAt w aS S) (hM : IntsAt w aM M) :
    Calls Try.prog 4 #[.agg #[.slice aS S.length cS, .slice aM M.length cM, .int .i64 L], .int .i64 x, .int .i64 y] w fun e w' => e = .returned (.bool true) ∧ Below w.heap.size w w' := by
  obtain ⟨hg1, hg2⟩ := greatB_no hg
  have HG : Hid (∀ W', Calls Try.prog 13 #[.agg #[.slice aS S.length cS, .slice aM M.length cM, .int .i64 L]] W' fun e w' => e = .returned (.bool false) ∧ Below W'.heap.size W' w') := Lib.hid fun W' => by
    have g := great_any S M L aS aM cS cM W'
    rw [hg] at g; exact g
  have HEZ : Hid (∀ W', Calls Try.prog 24 #[.agg #[.slice none 0 0, .slice none 0 0, .int .i64 0], .agg #[.slice none 0 0, .slice none 0 0, .int .i64 0]] W' fun e w' => e = .returned (.bool true) ∧ Below W'.heap.size W' w') := Lib.hid fun W' => equalR_any [] [] [] [] 0 0 none none none none 0 0 0 0 W' (by decide) (by decide) (IntsAt.nil _ _) (IntsAt.nil _ _) (IntsAt.nil _ _) (IntsAt.nil _ _)
  have hml := (vldB_shape hv).len
  have HFc : Hid (∀ W', Below w.heap.size w W' → Calls Try.prog 21 #[.agg #[.slice aS S.length cS, .slice aM M.length cM, .int .i64 L], .int .i64 x, .int .i64 y] W' fun e w' => e = .returned (.tuple #[.agg #[.slice none 0 0, .slice none 0 0, .int .i64 0], .agg #[.slice none 0 0, .slice none 0 0, .int .i64 0], .int .i64 2]) ∧ Below W'.heap.size W' w') := Lib.hid fun W' h => by
    by_cases g : (M.length : Int) ≤ x
    · exact factor_range_b S M L aS aM cS cM x y W' hv hx g (hS.later h) (hM.later h)
    · by_cases g2 : (M.length : Int) ≤ y
      · exact factor_range_d S M L aS aM cS cM x y W' hv hx (by omega) hy g2 (hS.later h) (hM.later h)
      · obtain ⟨X, hX⟩ : ∃ X : Nat, x = (X : Int) := ⟨x.toNat, by omega⟩
        obtain ⟨Y, hY⟩ : ∃ Y : Nat, y = (Y : Int) := ⟨y.toNat, by omega⟩
        have hX4 : X < 4 * S.length := by omega
        have hY4 : Y < 4 * S.length := by omega
        rw [hX, placeB_at hX4] at hp
        rw [hY, placeB_at hY4] at hq
        exact factor_range_f S M L aS aM cS cM x y W' hv X hX hX4 Y hY hY4 hp hq (hS.later h) (hM.later h)
  have HR : Hid (∀ W', Below w.heap.size w W' → Calls Try.prog 15 #[.agg #[.slice aS S.length cS, .slice aM M.length cM, .int .i64 L]] W' fun e w' => e = .returned (.bool true) ∧ Below W'.heap.size W' w') := Lib.hid fun W' h => by
    have g := rvalid_any S M L aS aM cS cM W' (by omega) (by omega) (hS.later h) (hM.later h)
    rw [hv] at g; exact g
  have HP1 : Hid (∀ W', Below w.heap.size w W' → Calls Try.prog 22 #[.agg #[.slice aS S.length cS, .slice aM M.length cM, .int .i64 L], .int .i64 x] W' fun e w' => e = .returned (.bool true) ∧ Below W'.heap.size W' w') := Lib.hid fun W' h => by
    have g := place_any S M L aS aM cS cM x W' (by omega) hml (hS.later h)
    rw [hp] at g; exact g
  have HP2 : Hid (∀ W', Below w.heap.size w W' → Calls Try.prog 22 #[.agg #[.slice aS S.length cS, .slice aM M.length cM, .int .i64 L], .int .i64 y] W' fun e w' => e = .returned (.bool false) ∧ Below W'.heap.size W' w') := Lib.hid fun W' h => by
    have g := place_any S M L aS aM cS cM y W' (by omega) hml (hS.later h)
    rw [hq] at g; exact g
  have H0 := Lib.hid ((HH.start w).alloc #[.slice aS S.length cS, .slice aM M.length cM, .int .i64 L] 24 rfl rfl)
  have t1 : decide (x < 0) = false := decide_eq_false (by omega)
  have t2 : decide (y < 0) = false := decide_eq_false (by omega)
  clear hg hv hS hM hx hy hp hq hml
  generalize S.length = n at *
  generalize M.length = N at *
  go_enter Try.func4, Try.ntmps4
  go_wp2_with fail
  refine (awake_any _).mono ?_
  rintro e w1 ⟨rfl, hb⟩
  have H1 := Lib.hid (H0.out.call hb)
  clear hb H0 
  have k00 := H1.out.cell (k := 0) (i := 0) rfl rfl
  have k01 := H1.out.cell (k := 0) (i := 1) rfl rfl
  have k02 := H1.out.cell (k := 0) (i := 2) rfl rfl
  go_wp2_with fail
  clear k00 k01 k02
  refine (HG.out _).mono ?_
  rintro e w2 ⟨rfl, hb⟩
  have H2 := Lib.hid (H1.out.call hb)
  clear hb H1 
  have k00 := H2.out.cell (k := 0) (i := 0) rfl rfl
  have k01 := H2.out.cell (k := 0) (i := 1) rfl rfl
  have k02 := H2.out.cell (k := 0) (i := 2) rfl rfl
  go_wp2_with fail
  clear k00 k01 k02
  refine (HFc.out _ H2.out.below).mono ?_
  rintro e w3 ⟨rfl, hb⟩
  have H3 := Lib.hid (((H2.out.call hb).alloc #[.slice none 0 0, .slice none 0 0, .int .i64 0] 24 (b := w3.heap.size) rfl rfl).alloc #[.slice none 0 0, .slice none 0 0, .int .i64 0] 24 (b := w3.heap.size + 1) (by simp) rfl)
  clear hb H2 HFc
  go_upto_region 6 with fail
  generalize (w3.alloc (.cells #[.slice none 0 0, .slice none 0 0, .int .i64 0] 24)).alloc (.cells #[.slice none 0 0, .slice none 0 0, .int .i64 0] 24) = v3 at *
  generalize w3.heap.size = q3 at *
  have k00 := H3.out.cell (k := 0) (i := 0) rfl rfl
  have k01 := H3.out.cell (k := 0) (i := 1) rfl rfl
  have k02 := H3.out.cell (k := 0) (i := 2) rfl rfl
  have k10 := H3.out.cell (k := 1) (i := 0) rfl rfl
  have k11 := H3.out.cell (k := 1) (i := 1) rfl rfl
  have k12 := H3.out.cell (k := 1) (i := 2) rfl rfl
  have k20 := H3.out.cell (k := 2) (i := 0) rfl rfl
  have k21 := H3.out.cell (k := 2) (i := 1) rfl rfl
  have k22 := H3.out.cell (k := 2) (i := 2) rfl rfl
  go_wp2_with fail
  clear k00 k01 k02 k10 k11 k12 k20 k21 k22
  refine (HR.out _ H3.out.below).mono ?_
  rintro e w4 ⟨rfl, hb⟩
  have H4 := Lib.hid (H3.out.call hb)
  clear hb H3 
  have k00 := H4.out.cell (k := 0) (i := 0) rfl rfl
  have k01 := H4.out.cell (k := 0) (i := 1) rfl rfl
  have k02 := H4.out.cell (k := 0) (i := 2) rfl rfl
  have k10 := H4.out.cell (k := 1) (i := 0) rfl rfl
  have k11 := H4.out.cell (k := 1) (i := 1) rfl rfl
  have k12 := H4.out.cell (k := 1) (i := 2) rfl rfl
  have k20 := H4.out.cell (k := 2) (i := 0) rfl rfl
  have k21 := H4.out.cell (k := 2) (i := 1) rfl rfl
  have k22 := H4.out.cell (k := 2) (i := 2) rfl rfl
  go_wp2_with fail
  clear k00 k01 k02 k10 k11 k12 k20 k21 k22
  refine (HP1.out _ H4.out.below).mono ?_
  rintro e w5 ⟨rfl, hb⟩
  have H5 := Lib.hid (H4.out.call hb)
  clear hb H4 
  have k00 := H5.out.cell (k := 0) (i := 0) rfl rfl
  have k01 := H5.out.cell (k := 0) (i := 1) rfl rfl
  have k02 := H5.out.cell (k := 0) (i := 2) rfl rfl
  have k10 := H5.out.cell (k := 1) (i := 0) rfl rfl
  have k11 := H5.out.cell (k := 1) (i := 1) rfl rfl
  have k12 := H5.out.cell (k := 1) (i := 2) rfl rfl
  have k20 := H5.out.cell (k := 2) (i := 0) rfl rfl
  have k21 := H5.out.cell (k := 2) (i := 1) rfl rfl
  have k22 := H5.out.cell (k := 2) (i := 2) rfl rfl
  go_wp2_with fail
  clear k00 k01 k02 k10 k11 k12 k20 k21 k22
  refine (HP2.out _ H5.out.below).mono ?_
  rintro e w6 ⟨rfl, hb⟩
  have H6 := Lib.hid (H5.out.call hb)
  clear hb H5 
  have k00 := H6.out.cell (k := 0) (i := 0) rfl rfl
  have k01 := H6.out.cell (k := 0) (i := 1) rfl rfl
  have k02 := H6.out.cell (k := 0) (i := 2) rfl rfl
  have k10 := H6.out.cell (k := 1) (i := 0) rfl rfl
  have k11 := H6.out.cell (k := 1) (i := 1) rfl rfl
  have k12 := H6.out.cell (k := 1) (i := 2) rfl rfl
  have k20 := H6.out.cell (k := 2) (i := 0) rfl rfl
  have k21 := H6.out.cell (k := 2) (i := 1) rfl rfl
  have k22 := H6.out.cell (k := 2) (i := 2) rfl rfl
  go_wp2_with fail
  clear k00 k01 k02 k10 k11 k12 k20 k21 k22
  refine (HEZ.out _).mono ?_
  rintro e w7 ⟨rfl, hb⟩
  have H7 := Lib.hid (H6.out.call hb)
  clear hb H6 
  have k00 := H7.out.cell (k := 0) (i := 0) rfl rfl
  have k01 := H7.out.cell (k := 0) (i := 1) rfl rfl
  have k02 := H7.out.cell (k := 0) (i := 2) rfl rfl
  have k10 := H7.out.cell (k := 1) (i := 0) rfl rfl
  have k11 := H7.out.cell (k := 1) (i := 1) rfl rfl
  have k12 := H7.out.cell (k := 1) (i := 2) rfl rfl
  have k20 := H7.out.cell (k := 2) (i := 0) rfl rfl
  have k21 := H7.out.cell (k := 2) (i := 1) rfl rfl
  have k22 := H7.out.cell (k := 2) (i := 2) rfl rfl
  go_wp2_with fail
  clear k00 k01 k02 k10 k11 k12 k20 k21 k22
  refine (HEZ.out _).mono ?_
  rintro e w8 ⟨rfl, hb⟩
  have H8 := Lib.hid (H7.out.call hb)
  clear hb H7 
  go_wp2_with fail
  go_ret
  exact ⟨rfl, H8.out.below⟩
set_option maxRecDepth 100000 in
set_option maxHeartbeats 2000000 in
theorem lfac_mv (S M : List Int) (L : Int) (aS aM : Option Addr) (cS cM : Nat) (x y : Nat) (w : World) (hg : greatB S M L = false) (hv : vldB S M L = true) (hx : x < 4 * S.length) (hy : y < 4 * S.length) (hox : outB S x = true) (hoy : outB S y = true) (hc : (decide (x ≠ y) && (nth (leftL M S.length) x == nth (leftL M S.length) y) && (nth (leftL M S.length) (mt M x) == nth (leftL M S.length) (mt M y))) = false) (hS : IntsAt w aS S) (hM : IntsAt w aM M) :
    Calls Try.prog 4 #[.agg #[.slice aS S.length cS, .slice aM M.length cM, .int .i64 L], .int .i64 (x : Int), .int .i64 (y : Int)] w fun e w' => e = .returned (.bool true) ∧ Below w.heap.size w w' := by
  obtain ⟨hg1, hg2⟩ := greatB_no hg
  have HG : Hid (∀ W', Calls Try.prog 13 #[.agg #[.slice aS S.length cS, .slice aM M.length cM, .int .i64 L]] W' fun e w' => e = .returned (.bool false) ∧ Below W'.heap.size W' w') := Lib.hid fun W' => by
    have g := great_any S M L aS aM cS cM W'
    rw [hg] at g; exact g
  have HEZ : Hid (∀ W', Calls Try.prog 24 #[.agg #[.slice none 0 0, .slice none 0 0, .int .i64 0], .agg #[.slice none 0 0, .slice none 0 0, .int .i64 0]] W' fun e w' => e = .returned (.bool true) ∧ Below W'.heap.size W' w') := Lib.hid fun W' => equalR_any [] [] [] [] 0 0 none none none none 0 0 0 0 W' (by decide) (by decide) (IntsAt.nil _ _) (IntsAt.nil _ _) (IntsAt.nil _ _) (IntsAt.nil _ _)
  have hml := (vldB_shape hv).len
  have HFc : Hid (∀ W', Below w.heap.size w W' → Calls Try.prog 21 #[.agg #[.slice aS S.length cS, .slice aM M.length cM, .int .i64 L], .int .i64 (x : Int), .int .i64 (y : Int)] W' fun e w' => e = .returned (.tuple #[.agg #[.slice none 0 0, .slice none 0 0, .int .i64 0], .agg #[.slice none 0 0, .slice none 0 0, .int .i64 0], .int .i64 6]) ∧ Below W'.heap.size W' w') := Lib.hid fun W' h => by
    by_cases e : x = y
    · exact factor_move_a S M L aS aM cS cM x y W' hv hx hy hox hoy e (hS.later h) (hM.later h)
    · rw [decide_eq_true e, Bool.true_and] at hc
      cases hf : (nth (leftL M S.length) x == nth (leftL M S.length) y)
      · exact factor_move_b S M L aS aM cS cM x y W' hv hx hy hox hoy e hf (hS.later h) (hM.later h)
      · rw [hf, Bool.true_and] at hc
        exact factor_move_c S M L aS aM cS cM x y W' hv hx hy hox hoy e hf hc (hS.later h) (hM.later h)
  have HR : Hid (∀ W', Below w.heap.size w W' → Calls Try.prog 15 #[.agg #[.slice aS S.length cS, .slice aM M.length cM, .int .i64 L]] W' fun e w' => e = .returned (.bool true) ∧ Below W'.heap.size W' w') := Lib.hid fun W' h => by
    have g := rvalid_any S M L aS aM cS cM W' (by omega) (by omega) (hS.later h) (hM.later h)
    rw [hv] at g; exact g
  have HP1 : Hid (∀ W', Below w.heap.size w W' → Calls Try.prog 22 #[.agg #[.slice aS S.length cS, .slice aM M.length cM, .int .i64 L], .int .i64 (x : Int)] W' fun e w' => e = .returned (.bool true) ∧ Below W'.heap.size W' w') := Lib.hid fun W' h => by
    have g := place_any S M L aS aM cS cM (x : Int) W' (by omega) hml (hS.later h)
    rw [placeB_at hx, hox] at g; exact g
  have HP2 : Hid (∀ W', Below w.heap.size w W' → Calls Try.prog 22 #[.agg #[.slice aS S.length cS, .slice aM M.length cM, .int .i64 L], .int .i64 (y : Int)] W' fun e w' => e = .returned (.bool true) ∧ Below W'.heap.size W' w') := Lib.hid fun W' h => by
    have g := place_any S M L aS aM cS cM (y : Int) W' (by omega) hml (hS.later h)
    rw [placeB_at hy, hoy] at g; exact g
  have HIc : Hid (∀ W', Below w.heap.size w W' → Calls Try.prog 23 #[.agg #[.slice aS S.length cS, .slice aM M.length cM, .int .i64 L], .int .i64 (x : Int), .int .i64 (y : Int)] W' fun e w' => e = .returned (.bool false) ∧ Below W'.heap.size W' w') := Lib.hid fun W' h => by
    have g := iscut_any S M L aS aM cS cM x y W' hv hx hy (hS.later h) (hM.later h)
    rw [hc] at g; exact g
  have H0 := Lib.hid ((HH.start w).alloc #[.slice aS S.length cS, .slice aM M.length cM, .int .i64 L] 24 rfl rfl)
  have t1 : decide ((x : Int) < 0) = false := decide_eq_false (by omega)
  have t2 : decide ((y : Int) < 0) = false := decide_eq_false (by omega)
  clear hg hv hS hM hx hy hox hoy hc hml
  generalize S.length = n at *
  generalize M.length = N at *
  go_enter Try.func4, Try.ntmps4
  go_wp2_with fail
  refine (awake_any _).mono ?_
  rintro e w1 ⟨rfl, hb⟩
  have H1 := Lib.hid (H0.out.call hb)
  clear hb H0 
  have k00 := H1.out.cell (k := 0) (i := 0) rfl rfl
  have k01 := H1.out.cell (k := 0) (i := 1) rfl rfl
  have k02 := H1.out.cell (k := 0) (i := 2) rfl rfl
  go_wp2_with fail
  clear k00 k01 k02
  refine (HG.out _).mono ?_
  rintro e w2 ⟨rfl, hb⟩
  have H2 := Lib.hid (H1.out.call hb)
  clear hb H1 
  have k00 := H2.out.cell (k := 0) (i := 0) rfl rfl
  have k01 := H2.out.cell (k := 0) (i := 1) rfl rfl
  have k02 := H2.out.cell (k := 0) (i := 2) rfl rfl
  go_wp2_with fail
  clear k00 k01 k02
  refine (HFc.out _ H2.out.below).mono ?_
  rintro e w3 ⟨rfl, hb⟩
  have H3 := Lib.hid (((H2.out.call hb).alloc #[.slice none 0 0, .slice none 0 0, .int .i64 0] 24 (b := w3.heap.size) rfl rfl).alloc #[.slice none 0 0, .slice none 0 0, .int .i64 0] 24 (b := w3.heap.size + 1) (by simp) rfl)
  clear hb H2 HFc
  go_upto_region 6 with fail
  generalize (w3.alloc (.cells #[.slice none 0 0, .slice none 0 0, .int .i64 0] 24)).alloc (.cells #[.slice none 0 0, .slice none 0 0, .int .i64 0] 24) = v3 at *
  generalize w3.heap.size = q3 at *
  have k00 := H3.out.cell (k := 0) (i := 0) rfl rfl
  have k01 := H3.out.cell (k := 0) (i := 1) rfl rfl
  have k02 := H3.out.cell (k := 0) (i := 2) rfl rfl
  have k10 := H3.out.cell (k := 1) (i := 0) rfl rfl
  have k11 := H3.out.cell (k := 1) (i := 1) rfl rfl
  have k12 := H3.out.cell (k := 1) (i := 2) rfl rfl
  have k20 := H3.out.cell (k := 2) (i := 0) rfl rfl
  have k21 := H3.out.cell (k := 2) (i := 1) rfl rfl
  have k22 := H3.out.cell (k := 2) (i := 2) rfl rfl
  go_wp2_with fail
  clear k00 k01 k02 k10 k11 k12 k20 k21 k22
  refine (HR.out _ H3.out.below).mono ?_
  rintro e w4 ⟨rfl, hb⟩
  have H4 := Lib.hid (H3.out.call hb)
  clear hb H3 
  have k00 := H4.out.cell (k := 0) (i := 0) rfl rfl
  have k01 := H4.out.cell (k := 0) (i := 1) rfl rfl
  have k02 := H4.out.cell (k := 0) (i := 2) rfl rfl
  have k10 := H4.out.cell (k := 1) (i := 0) rfl rfl
  have k11 := H4.out.cell (k := 1) (i := 1) rfl rfl
  have k12 := H4.out.cell (k := 1) (i := 2) rfl rfl
  have k20 := H4.out.cell (k := 2) (i := 0) rfl rfl
  have k21 := H4.out.cell (k := 2) (i := 1) rfl rfl
  have k22 := H4.out.cell (k := 2) (i := 2) rfl rfl
  go_wp2_with fail
  clear k00 k01 k02 k10 k11 k12 k20 k21 k22
  refine (HP1.out _ H4.out.below).mono ?_
  rintro e w5 ⟨rfl, hb⟩
  have H5 := Lib.hid (H4.out.call hb)
  clear hb H4 
  have k00 := H5.out.cell (k := 0) (i := 0) rfl rfl
  have k01 := H5.out.cell (k := 0) (i := 1) rfl rfl
  have k02 := H5.out.cell (k := 0) (i := 2) rfl rfl
  have k10 := H5.out.cell (k := 1) (i := 0) rfl rfl
  have k11 := H5.out.cell (k := 1) (i := 1) rfl rfl
  have k12 := H5.out.cell (k := 1) (i := 2) rfl rfl
  have k20 := H5.out.cell (k := 2) (i := 0) rfl rfl
  have k21 := H5.out.cell (k := 2) (i := 1) rfl rfl
  have k22 := H5.out.cell (k := 2) (i := 2) rfl rfl
  go_wp2_with fail
  clear k00 k01 k02 k10 k11 k12 k20 k21 k22
  refine (HP2.out _ H5.out.below).mono ?_
  rintro e w6 ⟨rfl, hb⟩
  have H6 := Lib.hid (H5.out.call hb)
  clear hb H5 
  have k00 := H6.out.cell (k := 0) (i := 0) rfl rfl
  have k01 := H6.out.cell (k := 0) (i := 1) rfl rfl
  have k02 := H6.out.cell (k := 0) (i := 2) rfl rfl
  have k10 := H6.out.cell (k := 1) (i := 0) rfl rfl
  have k11 := H6.out.cell (k := 1) (i := 1) rfl rfl
  have k12 := H6.out.cell (k := 1) (i := 2) rfl rfl
  have k20 := H6.out.cell (k := 2) (i := 0) rfl rfl
  have k21 := H6.out.cell (k := 2) (i := 1) rfl rfl
  have k22 := H6.out.cell (k := 2) (i := 2) rfl rfl
  go_wp2_with fail
  clear k00 k01 k02 k10 k11 k12 k20 k21 k22
  refine (HIc.out _ H6.out.below).mono ?_
  rintro e w7 ⟨rfl, hb⟩
  have H7 := Lib.hid (H6.out.call hb)
  clear hb H6 
  have k00 := H7.out.cell (k := 0) (i := 0) rfl rfl
  have k01 := H7.out.cell (k := 0) (i := 1) rfl rfl
  have k02 := H7.out.cell (k := 0) (i := 2) rfl rfl
  have k10 := H7.out.cell (k := 1) (i := 0) rfl rfl
  have k11 := H7.out.cell (k := 1) (i := 1) rfl rfl
  have k12 := H7.out.cell (k := 1) (i := 2) rfl rfl
  have k20 := H7.out.cell (k := 2) (i := 0) rfl rfl
  have k21 := H7.out.cell (k := 2) (i := 1) rfl rfl
  have k22 := H7.out.cell (k := 2) (i := 2) rfl rfl
  go_wp2_with fail
  clear k00 k01 k02 k10 k11 k12 k20 k21 k22
  refine (HEZ.out _).mono ?_
  rintro e w8 ⟨rfl, hb⟩
  have H8 := Lib.hid (H7.out.call hb)
  clear hb H7 
  have k00 := H8.out.cell (k := 0) (i := 0) rfl rfl
  have k01 := H8.out.cell (k := 0) (i := 1) rfl rfl
  have k02 := H8.out.cell (k := 0) (i := 2) rfl rfl
  have k10 := H8.out.cell (k := 1) (i := 0) rfl rfl
  have k11 := H8.out.cell (k := 1) (i := 1) rfl rfl
  have k12 := H8.out.cell (k := 1) (i := 2) rfl rfl
  have k20 := H8.out.cell (k := 2) (i := 0) rfl rfl
  have k21 := H8.out.cell (k := 2) (i := 1) rfl rfl
  have k22 := H8.out.cell (k := 2) (i := 2) rfl rfl
  go_wp2_with fail
  clear k00 k01 k02 k10 k11 k12 k20 k21 k22
  refine (HEZ.out _).mono ?_
  rintro e w9 ⟨rfl, hb⟩
  have H9 := Lib.hid (H8.out.call hb)
  clear hb H8 
  go_wp2_with fail
  go_ret
  exact ⟨rfl, H9.out.below⟩
set_option maxRecDepth 100000 in
set_option maxHeartbeats 2000000 in
theorem lfac_cut (S M : List Int) (L : Int) (aS aM : Option Addr) (cS cM : Nat) (x y : Nat) (w : World) (hg : greatB S M L = false) (hv : vldB S M L = true) (hx : x < 4 * S.length) (hy : y < 4 * S.length) (hox : outB S x = true) (hoy : outB S y = true) (hc : (decide (x ≠ y) && (nth (leftL M S.length) x == nth (leftL M S.length) y) && (nth (leftL M S.length) (mt M x) == nth (leftL M S.length) (mt M y))) = true) (hS : IntsAt w aS S) (hM : IntsAt w aM M) :
    Calls Try.prog 4 #[.agg #[.slice aS S.length cS, .slice aM M.length cM, .int .i64 L], .int .i64 (x : Int), .int .i64 (y : Int)] w fun e w' => e = .returned (.bool true) ∧ Below w.heap.size w w' := by
  obtain ⟨hg1, hg2⟩ := greatB_no hg
  have HG : Hid (∀ W', Calls Try.prog 13 #[.agg #[.slice aS S.length cS, .slice aM M.length cM, .int .i64 L]] W' fun e w' => e = .returned (.bool false) ∧ Below W'.heap.size W' w') := Lib.hid fun W' => by
    have g := great_any S M L aS aM cS cM W'
    rw [hg] at g; exact g
  have hs := vldB_shape hv
  have hml := hs.len
  have hxy : x ≠ y ∧ OnOrb (fc M) x y ∧ OnOrb (fc M) (mt M x) (mt M y) := by
    rw [Bool.and_eq_true, Bool.and_eq_true, decide_eq_true_eq, beq_iff_eq, beq_iff_eq] at hc
    exact ⟨hc.1.1, (left_iff hs.mates2 hx hy).1 hc.1.2, (left_iff hs.mates2 (hs.mt_lt hx) (hs.mt_lt hy)).1 hc.2⟩
  obtain ⟨hne, ho1, ho2⟩ := hxy
  have hgood := fac_good (L := L) hv hx hy hox hoy hne ho1 ho2
  have HFc : Hid (∀ W', Below w.heap.size w W' → Calls Try.prog 21 #[.agg #[.slice aS S.length cS, .slice aM M.length cM, .int .i64 L], .int .i64 (x : Int), .int .i64 (y : Int)] W' fun e w' => ∃ a b c d a' b' c' d', e = .returned (.tuple #[.agg #[.slice a (facA S M x y).1.length c, .slice b (facA S M x y).2.1.length d, .int .i64 0], .agg #[.slice a' (facB S M x y).1.length c', .slice b' (facB S M x y).2.1.length d', .int .i64 0], .int .i64 0]) ∧ Own w' W'.heap.size 3 a c (ints (facA S M x y).1) ∧ Own w' W'.heap.size 3 b d (ints (facA S M x y).2.1) ∧ Own w' W'.heap.size 3 a' c' (ints (facB S M x y).1) ∧ Own w' W'.heap.size 3 b' d' (ints (facB S M x y).2.1) ∧ Below W'.heap.size W' w') := Lib.hid fun W' h => factor_yes S M L aS aM cS cM x y W' hv hx hy hox hoy hne ho1 ho2 (hS.later h) (hM.later h)
  have HRf : Hid (∀ W', Below w.heap.size w W' → Calls Try.prog 25 #[.agg #[.slice aS S.length cS, .slice aM M.length cM, .int .i64 L], .int .i64 (x : Int), .int .i64 (y : Int)] W' fun e w' => ∃ a b c d a' b' c' d', e = .returned (.tuple #[.agg #[.slice a (facA S M x y).1.length c, .slice b (facA S M x y).2.1.length d, .int .i64 0], .agg #[.slice a' (facB S M x y).1.length c', .slice b' (facB S M x y).2.1.length d', .int .i64 0]]) ∧ Own w' W'.heap.size 3 a c (ints (facA S M x y).1) ∧ Own w' W'.heap.size 3 b d (ints (facA S M x y).2.1) ∧ Own w' W'.heap.size 3 a' c' (ints (facB S M x y).1) ∧ Own w' W'.heap.size 3 b' d' (ints (facB S M x y).2.1) ∧ Below W'.heap.size W' w') := Lib.hid fun W' h => rfactor_yes S M L aS aM cS cM x y W' hv hx hy hox hoy hne ho1 ho2 (hS.later h) (hM.later h)
  have hvA : vldB (facA S M x y).1 (facA S M x y).2.1 0 = true := hgood.2.1
  have hvB : vldB (facB S M x y).1 (facB S M x y).2.1 0 = true := hgood.2.2.1
  have hAs := (vldB_shape hvA).few
  have hAm := (vldB_shape hvA).len
  have HEA : Hid (∀ (a b a' b' : Option Addr) (c d c' d' : Nat) W', IntsAt W' a (facA S M x y).1 → IntsAt W' b (facA S M x y).2.1 → IntsAt W' a' (facA S M x y).1 → IntsAt W' b' (facA S M x y).2.1 → Calls Try.prog 24 #[.agg #[.slice a (facA S M x y).1.length c, .slice b (facA S M x y).2.1.length d, .int .i64 0], .agg #[.slice a' (facA S M x y).1.length c', .slice b' (facA S M x y).2.1.length d', .int .i64 0]] W' fun e w' => e = .returned (.bool true) ∧ Below W'.heap.size W' w') := Lib.hid fun a b a' b' c d c' d' W' h1 h2 h3 h4 => by
    have g := equalR_any (facA S M x y).1 (facA S M x y).2.1 (facA S M x y).1 (facA S M x y).2.1 0 0 a b a' b' c d c' d' W' (by omega) (by omega) h1 h2 h3 h4
    rw [show eqD (facA S M x y).1 (facA S M x y).2.1 0 (facA S M x y).1 (facA S M x y).2.1 0 = true by unfold eqD; simp] at g; exact g
  have HVA : Hid (∀ (a b : Option Addr) (c d : Nat) W', IntsAt W' a (facA S M x y).1 → IntsAt W' b (facA S M x y).2.1 → Calls Try.prog 26 #[.agg #[.slice a (facA S M x y).1.length c, .slice b (facA S M x y).2.1.length d, .int .i64 0]] W' fun e w' => e = .returned (.bool true) ∧ Below W'.heap.size W' w') := Lib.hid fun a b c d W' h1 h2 => by
    have g := valid_any (facA S M x y).1 (facA S M x y).2.1 0 a b c d W' (by omega) (by omega) h1 h2
    rw [hvA] at g; exact g
  have hBs := (vldB_shape hvB).few
  have hBm := (vldB_shape hvB).len
  have HEB : Hid (∀ (a b a' b' : Option Addr) (c d c' d' : Nat) W', IntsAt W' a (facB S M x y).1 → IntsAt W' b (facB S M x y).2.1 → IntsAt W' a' (facB S M x y).1 → IntsAt W' b' (facB S M x y).2.1 → Calls Try.prog 24 #[.agg #[.slice a (facB S M x y).1.length c, .slice b (facB S M x y).2.1.length d, .int .i64 0], .agg #[.slice a' (facB S M x y).1.length c', .slice b' (facB S M x y).2.1.length d', .int .i64 0]] W' fun e w' => e = .returned (.bool true) ∧ Below W'.heap.size W' w') := Lib.hid fun a b a' b' c d c' d' W' h1 h2 h3 h4 => by
    have g := equalR_any (facB S M x y).1 (facB S M x y).2.1 (facB S M x y).1 (facB S M x y).2.1 0 0 a b a' b' c d c' d' W' (by omega) (by omega) h1 h2 h3 h4
    rw [show eqD (facB S M x y).1 (facB S M x y).2.1 0 (facB S M x y).1 (facB S M x y).2.1 0 = true by unfold eqD; simp] at g; exact g
  have HVB : Hid (∀ (a b : Option Addr) (c d : Nat) W', IntsAt W' a (facB S M x y).1 → IntsAt W' b (facB S M x y).2.1 → Calls Try.prog 26 #[.agg #[.slice a (facB S M x y).1.length c, .slice b (facB S M x y).2.1.length d, .int .i64 0]] W' fun e w' => e = .returned (.bool true) ∧ Below W'.heap.size W' w') := Lib.hid fun a b c d W' h1 h2 => by
    have g := valid_any (facB S M x y).1 (facB S M x y).2.1 0 a b c d W' (by omega) (by omega) h1 h2
    rw [hvB] at g; exact g
  have HR : Hid (∀ W', Below w.heap.size w W' → Calls Try.prog 15 #[.agg #[.slice aS S.length cS, .slice aM M.length cM, .int .i64 L]] W' fun e w' => e = .returned (.bool true) ∧ Below W'.heap.size W' w') := Lib.hid fun W' h => by
    have g := rvalid_any S M L aS aM cS cM W' (by omega) (by omega) (hS.later h) (hM.later h)
    rw [hv] at g; exact g
  have HP1 : Hid (∀ W', Below w.heap.size w W' → Calls Try.prog 22 #[.agg #[.slice aS S.length cS, .slice aM M.length cM, .int .i64 L], .int .i64 (x : Int)] W' fun e w' => e = .returned (.bool true) ∧ Below W'.heap.size W' w') := Lib.hid fun W' h => by
    have g := place_any S M L aS aM cS cM (x : Int) W' (by omega) hml (hS.later h)
    rw [placeB_at hx, hox] at g; exact g
  have HP2 : Hid (∀ W', Below w.heap.size w W' → Calls Try.prog 22 #[.agg #[.slice aS S.length cS, .slice aM M.length cM, .int .i64 L], .int .i64 (y : Int)] W' fun e w' => e = .returned (.bool true) ∧ Below W'.heap.size W' w') := Lib.hid fun W' h => by
    have g := place_any S M L aS aM cS cM (y : Int) W' (by omega) hml (hS.later h)
    rw [placeB_at hy, hoy] at g; exact g
  have HIc : Hid (∀ W', Below w.heap.size w W' → Calls Try.prog 23 #[.agg #[.slice aS S.length cS, .slice aM M.length cM, .int .i64 L], .int .i64 (x : Int), .int .i64 (y : Int)] W' fun e w' => e = .returned (.bool true) ∧ Below W'.heap.size W' w') := Lib.hid fun W' h => by
    have g := iscut_any S M L aS aM cS cM x y W' hv hx hy (hS.later h) (hM.later h)
    rw [hc] at g; exact g
  have H0 := Lib.hid ((HH.start w).alloc #[.slice aS S.length cS, .slice aM M.length cM, .int .i64 L] 24 rfl rfl)
  have t1 : decide ((x : Int) < 0) = false := decide_eq_false (by omega)
  have t2 : decide ((y : Int) < 0) = false := decide_eq_false (by omega)
  clear hg hv hS hM hx hy hox hoy hc hml hs hgood hvA hvB hAs hAm hBs hBm hne ho1 ho2
  generalize (facA S M x y).1 = SA at *
  generalize (facA S M x y).2.1 = MA at *
  generalize (facB S M x y).1 = SB at *
  generalize (facB S M x y).2.1 = MB at *
  generalize SA.length = sa at *
  generalize MA.length = ma at *
  generalize SB.length = sb at *
  generalize MB.length = mb at *
  generalize S.length = n at *
  generalize M.length = N at *
  go_enter Try.func4, Try.ntmps4
  go_wp2_with fail
  refine (awake_any _).mono ?_
  rintro e w1 ⟨rfl, hb⟩
  have H1 := Lib.hid (H0.out.call hb)
  clear hb H0 
  have k00 := H1.out.cell (k := 0) (i := 0) rfl rfl
  have k01 := H1.out.cell (k := 0) (i := 1) rfl rfl
  have k02 := H1.out.cell (k := 0) (i := 2) rfl rfl
  go_wp2_with fail
  clear k00 k01 k02
  refine (HG.out _).mono ?_
  rintro e w2 ⟨rfl, hb⟩
  have H2 := Lib.hid (H1.out.call hb)
  clear hb H1 
  have k00 := H2.out.cell (k := 0) (i := 0) rfl rfl
  have k01 := H2.out.cell (k := 0) (i := 1) rfl rfl
  have k02 := H2.out.cell (k := 0) (i := 2) rfl rfl
  go_wp2_with fail
  clear k00 k01 k02
  refine (HFc.out _ H2.out.below).mono ?_
  rintro e w3 ⟨a1, b1, c1, d1, a2, b2, c2, d2, rfl, ho1, ho2, ho3, ho4, hb⟩
  have H3 := Lib.hid (((H2.out.call hb).alloc #[.slice a1 sa c1, .slice b1 ma d1, .int .i64 0] 24 (b := w3.heap.size) rfl rfl).alloc #[.slice a2 sb c2, .slice b2 mb d2, .int .i64 0] 24 (b := w3.heap.size + 1) (by simp) rfl)
  have o1 := Lib.hid ((ho1.alloc (.cells #[.slice a1 sa c1, .slice b1 ma d1, .int .i64 0] 24)).alloc (.cells #[.slice a2 sb c2, .slice b2 mb d2, .int .i64 0] 24)).ints
  have o2 := Lib.hid ((ho2.alloc (.cells #[.slice a1 sa c1, .slice b1 ma d1, .int .i64 0] 24)).alloc (.cells #[.slice a2 sb c2, .slice b2 mb d2, .int .i64 0] 24)).ints
  have o3 := Lib.hid ((ho3.alloc (.cells #[.slice a1 sa c1, .slice b1 ma d1, .int .i64 0] 24)).alloc (.cells #[.slice a2 sb c2, .slice b2 mb d2, .int .i64 0] 24)).ints
  have o4 := Lib.hid ((ho4.alloc (.cells #[.slice a1 sa c1, .slice b1 ma d1, .int .i64 0] 24)).alloc (.cells #[.slice a2 sb c2, .slice b2 mb d2, .int .i64 0] 24)).ints
  clear hb H2 HFc ho1 ho2 ho3 ho4
  go_upto_region 6 with fail
  generalize (w3.alloc (.cells #[.slice a1 sa c1, .slice b1 ma d1, .int .i64 0] 24)).alloc (.cells #[.slice a2 sb c2, .slice b2 mb d2, .int .i64 0] 24) = v3 at *
  generalize w3.heap.size = q3 at *
  have O5 : Hid (∀ W', Below v3.heap.size v3 W' → (IntsAt W' a1 SA ∧ IntsAt W' b1 MA) ∧ (IntsAt W' a2 SB ∧ IntsAt W' b2 MB)) := Lib.hid fun W' h => ⟨⟨o1.out.later h, o2.out.later h⟩, ⟨o3.out.later h, o4.out.later h⟩⟩
  have B3 : Hid (Below v3.heap.size v3 v3) := Lib.hid (Below.refl _ _)
  clear o1 o2 o3 o4
  have k00 := H3.out.cell (k := 0) (i := 0) rfl rfl
  have k01 := H3.out.cell (k := 0) (i := 1) rfl rfl
  have k02 := H3.out.cell (k := 0) (i := 2) rfl rfl
  have k10 := H3.out.cell (k := 1) (i := 0) rfl rfl
  have k11 := H3.out.cell (k := 1) (i := 1) rfl rfl
  have k12 := H3.out.cell (k := 1) (i := 2) rfl rfl
  have k20 := H3.out.cell (k := 2) (i := 0) rfl rfl
  have k21 := H3.out.cell (k := 2) (i := 1) rfl rfl
  have k22 := H3.out.cell (k := 2) (i := 2) rfl rfl
  go_wp2_with fail
  clear k00 k01 k02 k10 k11 k12 k20 k21 k22
  refine (HR.out _ H3.out.below).mono ?_
  rintro e w4 ⟨rfl, hb⟩
  have H4 := Lib.hid (H3.out.call hb)
  have B4 := Lib.hid (below_step B3.out hb)
  clear B3
  clear hb H3 
  have k00 := H4.out.cell (k := 0) (i := 0) rfl rfl
  have k01 := H4.out.cell (k := 0) (i := 1) rfl rfl
  have k02 := H4.out.cell (k := 0) (i := 2) rfl rfl
  have k10 := H4.out.cell (k := 1) (i := 0) rfl rfl
  have k11 := H4.out.cell (k := 1) (i := 1) rfl rfl
  have k12 := H4.out.cell (k := 1) (i := 2) rfl rfl
  have k20 := H4.out.cell (k := 2) (i := 0) rfl rfl
  have k21 := H4.out.cell (k := 2) (i := 1) rfl rfl
  have k22 := H4.out.cell (k := 2) (i := 2) rfl rfl
  go_wp2_with fail
  clear k00 k01 k02 k10 k11 k12 k20 k21 k22
  refine (HP1.out _ H4.out.below).mono ?_
  rintro e w5 ⟨rfl, hb⟩
  have H5 := Lib.hid (H4.out.call hb)
  have B5 := Lib.hid (below_step B4.out hb)
  clear B4
  clear hb H4 
  have k00 := H5.out.cell (k := 0) (i := 0) rfl rfl
  have k01 := H5.out.cell (k := 0) (i := 1) rfl rfl
  have k02 := H5.out.cell (k := 0) (i := 2) rfl rfl
  have k10 := H5.out.cell (k := 1) (i := 0) rfl rfl
  have k11 := H5.out.cell (k := 1) (i := 1) rfl rfl
  have k12 := H5.out.cell (k := 1) (i := 2) rfl rfl
  have k20 := H5.out.cell (k := 2) (i := 0) rfl rfl
  have k21 := H5.out.cell (k := 2) (i := 1) rfl rfl
  have k22 := H5.out.cell (k := 2) (i := 2) rfl rfl
  go_wp2_with fail
  clear k00 k01 k02 k10 k11 k12 k20 k21 k22
  refine (HP2.out _ H5.out.below).mono ?_
  rintro e w6 ⟨rfl, hb⟩
  have H6 := Lib.hid (H5.out.call hb)
  have B6 := Lib.hid (below_step B5.out hb)
  clear B5
  clear hb H5 
  have k00 := H6.out.cell (k := 0) (i := 0) rfl rfl
  have k01 := H6.out.cell (k := 0) (i := 1) rfl rfl
  have k02 := H6.out.cell (k := 0) (i := 2) rfl rfl
  have k10 := H6.out.cell (k := 1) (i := 0) rfl rfl
  have k11 := H6.out.cell (k := 1) (i := 1) rfl rfl
  have k12 := H6.out.cell (k := 1) (i := 2) rfl rfl
  have k20 := H6.out.cell (k := 2) (i := 0) rfl rfl
  have k21 := H6.out.cell (k := 2) (i := 1) rfl rfl
  have k22 := H6.out.cell (k := 2) (i := 2) rfl rfl
  go_wp2_with fail
  clear k00 k01 k02 k10 k11 k12 k20 k21 k22
  refine (HIc.out _ H6.out.below).mono ?_
  rintro e w7 ⟨rfl, hb⟩
  have H7 := Lib.hid (H6.out.call hb)
  have B7 := Lib.hid (below_step B6.out hb)
  clear B6
  clear hb H6 
  have k00 := H7.out.cell (k := 0) (i := 0) rfl rfl
  have k01 := H7.out.cell (k := 0) (i := 1) rfl rfl
  have k02 := H7.out.cell (k := 0) (i := 2) rfl rfl
  have k10 := H7.out.cell (k := 1) (i := 0) rfl rfl
  have k11 := H7.out.cell (k := 1) (i := 1) rfl rfl
  have k12 := H7.out.cell (k := 1) (i := 2) rfl rfl
  have k20 := H7.out.cell (k := 2) (i := 0) rfl rfl
  have k21 := H7.out.cell (k := 2) (i := 1) rfl rfl
  have k22 := H7.out.cell (k := 2) (i := 2) rfl rfl
  go_wp2_with fail
  clear k00 k01 k02 k10 k11 k12 k20 k21 k22
  refine (HRf.out _ H7.out.below).mono ?_
  rintro e w8 ⟨a3, b3, c3, d3, a4, b4, c4, d4, rfl, ho1, ho2, ho3, ho4, hb⟩
  have H8 := Lib.hid (((H7.out.call hb).alloc #[.slice a3 sa c3, .slice b3 ma d3, .int .i64 0] 24 (b := w8.heap.size) rfl rfl).alloc #[.slice a4 sb c4, .slice b4 mb d4, .int .i64 0] 24 (b := w8.heap.size + 1) (by simp) rfl)
  have o1 := Lib.hid ((ho1.alloc (.cells #[.slice a3 sa c3, .slice b3 ma d3, .int .i64 0] 24)).alloc (.cells #[.slice a4 sb c4, .slice b4 mb d4, .int .i64 0] 24)).ints
  have o2 := Lib.hid ((ho2.alloc (.cells #[.slice a3 sa c3, .slice b3 ma d3, .int .i64 0] 24)).alloc (.cells #[.slice a4 sb c4, .slice b4 mb d4, .int .i64 0] 24)).ints
  have o3 := Lib.hid ((ho3.alloc (.cells #[.slice a3 sa c3, .slice b3 ma d3, .int .i64 0] 24)).alloc (.cells #[.slice a4 sb c4, .slice b4 mb d4, .int .i64 0] 24)).ints
  have o4 := Lib.hid ((ho4.alloc (.cells #[.slice a3 sa c3, .slice b3 ma d3, .int .i64 0] 24)).alloc (.cells #[.slice a4 sb c4, .slice b4 mb d4, .int .i64 0] 24)).ints
  have B8 := Lib.hid (below_step B7.out (((hb.alloc hb.size (.cells #[.slice a3 sa c3, .slice b3 ma d3, .int .i64 0] 24))).alloc (by have := hb.size; simp; omega) (.cells #[.slice a4 sb c4, .slice b4 mb d4, .int .i64 0] 24)))
  clear hb H7 HRf ho1 ho2 ho3 ho4 B7
  go_upto_region 16 with fail
  generalize (w8.alloc (.cells #[.slice a3 sa c3, .slice b3 ma d3, .int .i64 0] 24)).alloc (.cells #[.slice a4 sb c4, .slice b4 mb d4, .int .i64 0] 24) = v8 at *
  generalize w8.heap.size = q8 at *
  have O8 : Hid (∀ W', Below v8.heap.size v8 W' → ((IntsAt W' a1 SA ∧ IntsAt W' b1 MA) ∧ (IntsAt W' a2 SB ∧ IntsAt W' b2 MB)) ∧ ((IntsAt W' a3 SA ∧ IntsAt W' b3 MA) ∧ (IntsAt W' a4 SB ∧ IntsAt W' b4 MB))) := Lib.hid fun W' h => ⟨O5.out _ (below_step B8.out h), ⟨o1.out.later h, o2.out.later h⟩, ⟨o3.out.later h, o4.out.later h⟩⟩
  have C8 : Hid (Below v8.heap.size v8 v8) := Lib.hid (Below.refl _ _)
  clear o1 o2 o3 o4 B8 O5
  have k00 := H8.out.cell (k := 0) (i := 0) rfl rfl
  have k01 := H8.out.cell (k := 0) (i := 1) rfl rfl
  have k02 := H8.out.cell (k := 0) (i := 2) rfl rfl
  have k10 := H8.out.cell (k := 1) (i := 0) rfl rfl
  have k11 := H8.out.cell (k := 1) (i := 1) rfl rfl
  have k12 := H8.out.cell (k := 1) (i := 2) rfl rfl
  have k20 := H8.out.cell (k := 2) (i := 0) rfl rfl
  have k21 := H8.out.cell (k := 2) (i := 1) rfl rfl
  have k22 := H8.out.cell (k := 2) (i := 2) rfl rfl
  have k30 := H8.out.cell (k := 3) (i := 0) rfl rfl
  have k31 := H8.out.cell (k := 3) (i := 1) rfl rfl
  have k32 := H8.out.cell (k := 3) (i := 2) rfl rfl
  have k40 := H8.out.cell (k := 4) (i := 0) rfl rfl
  have k41 := H8.out.cell (k := 4) (i := 1) rfl rfl
  have k42 := H8.out.cell (k := 4) (i := 2) rfl rfl
  go_wp2_with fail
  clear k00 k01 k02 k10 k11 k12 k20 k21 k22 k30 k31 k32 k40 k41 k42
  refine (HEA.out a1 b1 a3 b3 c1 d1 c3 d3 _ (O8.out _ C8.out).1.1.1 (O8.out _ C8.out).1.1.2 (O8.out _ C8.out).2.1.1 (O8.out _ C8.out).2.1.2).mono ?_
  rintro e w9 ⟨rfl, hb⟩
  have H9 := Lib.hid (H8.out.call hb)
  have C9 := Lib.hid (below_step C8.out hb)
  clear C8
  clear hb H8 
  have k00 := H9.out.cell (k := 0) (i := 0) rfl rfl
  have k01 := H9.out.cell (k := 0) (i := 1) rfl rfl
  have k02 := H9.out.cell (k := 0) (i := 2) rfl rfl
  have k10 := H9.out.cell (k := 1) (i := 0) rfl rfl
  have k11 := H9.out.cell (k := 1) (i := 1) rfl rfl
  have k12 := H9.out.cell (k := 1) (i := 2) rfl rfl
  have k20 := H9.out.cell (k := 2) (i := 0) rfl rfl
  have k21 := H9.out.cell (k := 2) (i := 1) rfl rfl
  have k22 := H9.out.cell (k := 2) (i := 2) rfl rfl
  have k30 := H9.out.cell (k := 3) (i := 0) rfl rfl
  have k31 := H9.out.cell (k := 3) (i := 1) rfl rfl
  have k32 := H9.out.cell (k := 3) (i := 2) rfl rfl
  have k40 := H9.out.cell (k := 4) (i := 0) rfl rfl
  have k41 := H9.out.cell (k := 4) (i := 1) rfl rfl
  have k42 := H9.out.cell (k := 4) (i := 2) rfl rfl
  go_wp2_with fail
  clear k00 k01 k02 k10 k11 k12 k20 k21 k22 k30 k31 k32 k40 k41 k42
  refine (HEB.out a2 b2 a4 b4 c2 d2 c4 d4 _ (O8.out _ C9.out).1.2.1 (O8.out _ C9.out).1.2.2 (O8.out _ C9.out).2.2.1 (O8.out _ C9.out).2.2.2).mono ?_
  rintro e w10 ⟨rfl, hb⟩
  have H10 := Lib.hid (H9.out.call hb)
  have C10 := Lib.hid (below_step C9.out hb)
  clear C9
  clear hb H9 
  have k00 := H10.out.cell (k := 0) (i := 0) rfl rfl
  have k01 := H10.out.cell (k := 0) (i := 1) rfl rfl
  have k02 := H10.out.cell (k := 0) (i := 2) rfl rfl
  have k10 := H10.out.cell (k := 1) (i := 0) rfl rfl
  have k11 := H10.out.cell (k := 1) (i := 1) rfl rfl
  have k12 := H10.out.cell (k := 1) (i := 2) rfl rfl
  have k20 := H10.out.cell (k := 2) (i := 0) rfl rfl
  have k21 := H10.out.cell (k := 2) (i := 1) rfl rfl
  have k22 := H10.out.cell (k := 2) (i := 2) rfl rfl
  have k30 := H10.out.cell (k := 3) (i := 0) rfl rfl
  have k31 := H10.out.cell (k := 3) (i := 1) rfl rfl
  have k32 := H10.out.cell (k := 3) (i := 2) rfl rfl
  have k40 := H10.out.cell (k := 4) (i := 0) rfl rfl
  have k41 := H10.out.cell (k := 4) (i := 1) rfl rfl
  have k42 := H10.out.cell (k := 4) (i := 2) rfl rfl
  go_wp2_with fail
  clear k00 k01 k02 k10 k11 k12 k20 k21 k22 k30 k31 k32 k40 k41 k42
  refine (HVA.out a1 b1 c1 d1 _ (O8.out _ C10.out).1.1.1 (O8.out _ C10.out).1.1.2).mono ?_
  rintro e w11 ⟨rfl, hb⟩
  have H11 := Lib.hid (H10.out.call hb)
  have C11 := Lib.hid (below_step C10.out hb)
  clear C10
  clear hb H10 
  have k00 := H11.out.cell (k := 0) (i := 0) rfl rfl
  have k01 := H11.out.cell (k := 0) (i := 1) rfl rfl
  have k02 := H11.out.cell (k := 0) (i := 2) rfl rfl
  have k10 := H11.out.cell (k := 1) (i := 0) rfl rfl
  have k11 := H11.out.cell (k := 1) (i := 1) rfl rfl
  have k12 := H11.out.cell (k := 1) (i := 2) rfl rfl
  have k20 := H11.out.cell (k := 2) (i := 0) rfl rfl
  have k21 := H11.out.cell (k := 2) (i := 1) rfl rfl
  have k22 := H11.out.cell (k := 2) (i := 2) rfl rfl
  have k30 := H11.out.cell (k := 3) (i := 0) rfl rfl
  have k31 := H11.out.cell (k := 3) (i := 1) rfl rfl
  have k32 := H11.out.cell (k := 3) (i := 2) rfl rfl
  have k40 := H11.out.cell (k := 4) (i := 0) rfl rfl
  have k41 := H11.out.cell (k := 4) (i := 1) rfl rfl
  have k42 := H11.out.cell (k := 4) (i := 2) rfl rfl
  go_wp2_with fail
  clear k00 k01 k02 k10 k11 k12 k20 k21 k22 k30 k31 k32 k40 k41 k42
  refine (HVB.out a2 b2 c2 d2 _ (O8.out _ C11.out).1.2.1 (O8.out _ C11.out).1.2.2).mono ?_
  rintro e w12 ⟨rfl, hb⟩
  have H12 := Lib.hid (H11.out.call hb)
  have C12 := Lib.hid (below_step C11.out hb)
  clear C11
  clear hb H11 
  go_wp2_with fail
  go_ret
  exact ⟨rfl, H12.out.below⟩
theorem lfac_any (S M : List Int) (L : Int) (aS aM : Option Addr) (cS cM : Nat) (x y : Int) (w : World) (_ : S.length ≤ maxLen) (_ : M.length ≤ maxLen) (_ : (Lit.int .i64 L).wf = true) (hS : IntsAt w aS S) (hM : IntsAt w aM M) (_ : (Lit.int .i64 x).wf = true) (_ : (Lit.int .i64 y).wf = true) :
    Calls Try.prog 4 #[.agg #[.slice aS S.length cS, .slice aM M.length cM, .int .i64 L], .int .i64 x, .int .i64 y] w fun e w' => e = .returned (.bool true) ∧ Below w.heap.size w w' := by
  cases hg : greatB S M L
  · cases hv : vldB S M L
    · exact lfac_arg S M L aS aM cS cM x y w hg hv hS hM
    · by_cases hx : x < 0
      · exact lfac_ra S M L aS aM cS cM x y w hg hv hx hS hM
      · by_cases hy : y < 0
        · exact lfac_rb S M L aS aM cS cM x y w hg hv (by omega) hy hS hM
        · cases hp : placeB S L x
          · exact lfac_rc S M L aS aM cS cM x y w hg hv (by omega) (by omega) hp hS hM
          · cases hq : placeB S L y
            · exact lfac_rd S M L aS aM cS cM x y w hg hv (by omega) (by omega) hp hq hS hM
            · have gx : 0 ≤ x ∧ x < 4 * (S.length : Int) := by
                by_cases g : 0 ≤ x ∧ x < 4 * (S.length : Int)
                · exact g
                · rw [placeB_out (by omega) g] at hp; cases hp
              have gy : 0 ≤ y ∧ y < 4 * (S.length : Int) := by
                by_cases g : 0 ≤ y ∧ y < 4 * (S.length : Int)
                · exact g
                · rw [placeB_out (by omega) g] at hq; cases hq
              obtain ⟨X, rfl⟩ : ∃ X : Nat, x = (X : Int) := ⟨x.toNat, by omega⟩
              obtain ⟨Y, rfl⟩ : ∃ Y : Nat, y = (Y : Int) := ⟨y.toNat, by omega⟩
              have hX4 : X < 4 * S.length := by omega
              have hY4 : Y < 4 * S.length := by omega
              rw [placeB_at hX4] at hp
              rw [placeB_at hY4] at hq
              cases hc : (decide (X ≠ Y) && (nth (leftL M S.length) X == nth (leftL M S.length) Y) && (nth (leftL M S.length) (mt M X) == nth (leftL M S.length) (mt M Y)))
              · exact lfac_mv S M L aS aM cS cM X Y w hg hv hX4 hY4 hp hq hc hS hM
              · exact lfac_cut S M L aS aM cS cM X Y w hg hv hX4 hY4 hp hq hc hS hM
  · exact lfac_great S M L aS aM cS cM x y w hg
end Go.Proofs.Ytmjoijfafachhaa
