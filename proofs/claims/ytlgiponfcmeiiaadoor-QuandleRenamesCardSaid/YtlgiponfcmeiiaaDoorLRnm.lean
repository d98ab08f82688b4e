/- The early ways of the law QuandleRenames. -/
import Derived.Test.YtlgiponfcmeiiaaDoorRnmW
import Derived.Test.YtlgiponfcmeiiaaDoorLawD
namespace Go.Proofs.YtlgiponfcmeiiaaDoor
open Go Go.RowKit
set_option maxRecDepth 100000 in
set_option maxHeartbeats 4000000 in
theorem lren_s (T : List (List Int)) (a : Option Addr) (c : Nat) (by_ times : Int) (w : World) (hs : ¬ Sml T) (hT : TabAt w a T) :
    Calls Tryd.prog 6 #[.slice a T.length c, .int .u8 by_, .int .u8 times] w fun e w' => e = .returned (.bool true) ∧ Below w.heap.size w w' := by
  have HS : Hid (∀ W', Below w.heap.size w W' → Calls Tryd.prog 17 #[.slice a T.length c] W' fun e w' => e = .returned (.int .i64 0) ∧ Below W'.heap.size W' w') := Lib.hid fun W' h => small_no T a c W' (hT.later h) hs
  clear hs hT
  generalize T.length = n at *
  have H0 := Lib.hid ((HH.start w).alloc #[.int .u8 by_] 5 rfl rfl)
  obtain ⟨v0, hv⟩ : ∃ x, x = w.alloc (.cells #[.int .u8 by_] 5) := ⟨_, rfl⟩
  rw [← hv] at H0
  go_enter Tryd.func6, Tryd.ntmps6
  go_wp2_with fail
  rw [← hv]
  clear hv
  refine (awake_any v0).mono ?_
  rintro e w1 ⟨rfl, hb⟩
  have H1 := Lib.hid ((H0.out.call hb).alloc #[.slice a n c] 25 rfl rfl)
  clear hb H0
  obtain ⟨v1, hv⟩ : ∃ x, x = w1.alloc (.cells #[.slice a n c] 25) := ⟨_, rfl⟩
  go_wp2_with fail
  rw [← hv]
  rw [← hv] at H1
  generalize w1.heap.size = q1 at *
  clear hv
  refine (HS.out v1 H1.out.below).mono ?_
  rintro e w2 ⟨rfl, hb⟩
  have H2 := Lib.hid (H1.out.call hb)
  clear hb H1 HS
  go_wp2_with fail
  go_ret
  exact ⟨rfl, H2.out.below⟩
set_option maxRecDepth 100000 in
set_option maxHeartbeats 4000000 in
theorem lren_n (T : List (List Int)) (a : Option Addr) (c : Nat) (by_ times : Int) (w : World) (hs : Sml T) (hq : ¬ Qnd T) (hT : TabAt w a T) :
    Calls Tryd.prog 6 #[.slice a T.length c, .int .u8 by_, .int .u8 times] w fun e w' => e = .returned (.bool true) ∧ Below w.heap.size w w' := by
  have HS : Hid (∀ W', Below w.heap.size w W' → Calls Tryd.prog 17 #[.slice a T.length c] W' fun e w' => e = .returned (.int .i64 1) ∧ Below W'.heap.size W' w') := Lib.hid fun W' h => small_yes T a c W' (hT.later h) hs
  have HV : Hid (∀ W', Below w.heap.size w W' → Calls Tryd.prog 15 #[.agg #[.slice a T.length c]] W' fun e w' => e = .returned (.bool (okB (Qnd T))) ∧ Below W'.heap.size W' w') := Lib.hid fun W' h => qvalid_any T a c W' (by have := hs.1; omega) (fun l hl => by have := hs.rows l hl; omega) (hT.later h)
  rw [okB_no hq] at HV
  clear hs hT hq
  generalize T.length = n at *
  have H0 := Lib.hid ((HH.start w).alloc #[.int .u8 by_] 5 rfl rfl)
  obtain ⟨v0, hv⟩ : ∃ x, x = w.alloc (.cells #[.int .u8 by_] 5) := ⟨_, rfl⟩
  rw [← hv] at H0
  go_enter Tryd.func6, Tryd.ntmps6
  go_wp2_with fail
  rw [← hv]
  clear hv
  refine (awake_any v0).mono ?_
  rintro e w1 ⟨rfl, hb⟩
  have H1 := Lib.hid ((H0.out.call hb).alloc #[.slice a n c] 25 rfl rfl)
  clear hb H0
  obtain ⟨v1, hv⟩ : ∃ x, x = w1.alloc (.cells #[.slice a n c] 25) := ⟨_, rfl⟩
  go_wp2_with fail
  rw [← hv]
  rw [← hv] at H1
  generalize w1.heap.size = q1 at *
  clear hv
  refine (HS.out v1 H1.out.below).mono ?_
  rintro e w2 ⟨rfl, hb⟩
  have H2 := Lib.hid (H1.out.call hb)
  clear hb H1 HS
  have hc1 := H2.out.cell (k := 1) (i := 0) rfl rfl
  go_wp2_with fail
  clear hc1
  refine (HV.out w2 H2.out.below).mono ?_
  rintro e w3 ⟨rfl, hb⟩
  have H3 := Lib.hid (H2.out.call hb)
  clear hb H2 HV
  go_wp2_with fail
  go_ret
  exact ⟨rfl, H3.out.below⟩
end Go.Proofs.YtlgiponfcmeiiaaDoor
