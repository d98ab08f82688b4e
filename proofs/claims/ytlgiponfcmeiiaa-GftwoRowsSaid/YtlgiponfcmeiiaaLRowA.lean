/- The walk of the law GftwoRows: the early ways. -/
import Derived.Test.YtlgiponfcmeiiaaRowsA
import Derived.Test.YtlgiponfcmeiiaaRankW
namespace Go.Proofs.Ytlgiponfcmeiiaa
open Go Go.RowKit
set_option maxRecDepth 100000 in
set_option maxHeartbeats 4000000 in
theorem lrow_s (C : Int) (T : List (List Int)) (a : Option Addr) (c : Nat) (p q : Int) (w : World) (hs : smallB C T = false) (hT : TabAt w a T) :
    Calls Try.prog 4 #[.int .i64 C, .slice a T.length c, .int .u8 p, .int .u8 q] w fun e w' => e = .returned (.bool true) ∧ Below w.heap.size w w' := by
  have HS1 : Hid (∀ W', Below w.heap.size w W' → Calls Try.prog 12 #[.int .i64 C, .slice a T.length c] W' fun e w' => e = .returned (.int .i64 (sI (smallB C T))) ∧ Below W'.heap.size W' w') := Lib.hid fun W' h => small_any C T a c W' (hT.later h)
  rw [hs, show sI false = 0 from rfl] at HS1
  clear hs hT
  go_enter Try.func4, Try.ntmps4
  go_wp2_with fail
  refine (awake_any w).mono ?_
  rintro e w1 ⟨rfl, hb⟩
  have H1 := Lib.hid ((HH.start w).call hb)
  clear hb
  go_wp2_with fail
  refine (matrix_any C T.length a c w1).mono ?_
  rintro e w2 ⟨rfl, hb⟩
  have H2 := Lib.hid ((H1.out.call hb).alloc #[.int .i64 C, .slice a T.length c] 26 rfl rfl)
  clear hb H1 
  obtain ⟨v2, hv⟩ : ∃ x, x = w2.alloc (.cells #[.int .i64 C, .slice a T.length c] 26) := ⟨_, rfl⟩
  go_wp2_with fail
  rw [← hv]
  rw [← hv] at H2 
  generalize w2.heap.size = q1 at *
  clear hv
  refine (HS1.out v2 H2.out.below).mono ?_
  rintro e w3 ⟨rfl, hb⟩
  have H3 := Lib.hid (H2.out.call hb)
  clear hb H2 
  go_wp2_with fail
  go_ret
  exact ⟨rfl, H3.out.below⟩
set_option maxRecDepth 100000 in
set_option maxHeartbeats 4000000 in
theorem lrow_n (C : Int) (T : List (List Int)) (a : Option Addr) (c : Nat) (p q : Int) (w : World) (hs : smallB C T = true) (hn : T.length < 2) (hT : TabAt w a T) :
    Calls Try.prog 4 #[.int .i64 C, .slice a T.length c, .int .u8 p, .int .u8 q] w fun e w' => e = .returned (.bool true) ∧ Below w.heap.size w w' := by
  have HS1 : Hid (∀ W', Below w.heap.size w W' → Calls Try.prog 12 #[.int .i64 C, .slice a T.length c] W' fun e w' => e = .returned (.int .i64 (sI (smallB C T))) ∧ Below W'.heap.size W' w') := Lib.hid fun W' h => small_any C T a c W' (hT.later h)
  rw [hs, show sI true = 1 from rfl] at HS1
  have d1 : decide ((T.length : Int) < 2) = true := decide_eq_true (by omega)
  have d2 : decide (T.length < 2) = true := decide_eq_true hn
  clear hs hT hn
  go_enter Try.func4, Try.ntmps4
  go_wp2_with fail
  refine (awake_any w).mono ?_
  rintro e w1 ⟨rfl, hb⟩
  have H1 := Lib.hid ((HH.start w).call hb)
  clear hb
  go_wp2_with fail
  refine (matrix_any C T.length a c w1).mono ?_
  rintro e w2 ⟨rfl, hb⟩
  have H2 := Lib.hid ((H1.out.call hb).alloc #[.int .i64 C, .slice a T.length c] 26 rfl rfl)
  clear hb H1 
  obtain ⟨v2, hv⟩ : ∃ x, x = w2.alloc (.cells #[.int .i64 C, .slice a T.length c] 26) := ⟨_, rfl⟩
  go_wp2_with fail
  rw [← hv]
  rw [← hv] at H2 
  generalize w2.heap.size = q1 at *
  clear hv
  refine (HS1.out v2 H2.out.below).mono ?_
  rintro e w3 ⟨rfl, hb⟩
  have H3 := Lib.hid (H2.out.call hb)
  clear hb H2 
  go_wp2_with fail
  go_ret
  exact ⟨rfl, H3.out.below⟩
set_option maxRecDepth 100000 in
set_option maxHeartbeats 4000000 in
theorem lrow_v (C : Int) (T : List (List Int)) (a : Option Addr) (c : Nat) (p q : Int) (w : World) (hs : smallB C T = true) (hn : ¬ T.length < 2) (hC : (Lit.int .i64 C).wf = true) (hv : vldM C T = false) (hT : TabAt w a T) :
    Calls Try.prog 4 #[.int .i64 C, .slice a T.length c, .int .u8 p, .int .u8 q] w fun e w' => e = .returned (.bool true) ∧ Below w.heap.size w w' := by
  have HS1 : Hid (∀ W', Below w.heap.size w W' → Calls Try.prog 12 #[.int .i64 C, .slice a T.length c] W' fun e w' => e = .returned (.int .i64 (sI (smallB C T))) ∧ Below W'.heap.size W' w') := Lib.hid fun W' h => small_any C T a c W' (hT.later h)
  rw [hs, show sI true = 1 from rfl] at HS1
  have hl := (smallB_iff.1 hs).1.1
  have hr := (smallB_iff.1 hs).2
  have HV : Hid (∀ W', Below w.heap.size w W' → Calls Try.prog 16 #[.agg #[.int .i64 C, .slice a T.length c]] W' fun e w' => e = .returned (.bool (vldM C T)) ∧ Below W'.heap.size W' w') := Lib.hid fun W' h => valid_any C T a c W' (by omega) (fun l hl => by have := hr l hl; omega) (wf_lo hC) (hT.later h)
  rw [hv] at HV
  have d1 : decide ((T.length : Int) < 2) = false := decide_eq_false (by omega)
  have d2 : decide (T.length < 2) = false := decide_eq_false hn
  clear hs hT hn hC hv hl hr
  go_enter Try.func4, Try.ntmps4
  go_wp2_with fail
  refine (awake_any w).mono ?_
  rintro e w1 ⟨rfl, hb⟩
  have H1 := Lib.hid ((HH.start w).call hb)
  clear hb
  go_wp2_with fail
  refine (matrix_any C T.length a c w1).mono ?_
  rintro e w2 ⟨rfl, hb⟩
  have H2 := Lib.hid ((H1.out.call hb).alloc #[.int .i64 C, .slice a T.length c] 26 rfl rfl)
  clear hb H1 
  obtain ⟨v2, hv⟩ : ∃ x, x = w2.alloc (.cells #[.int .i64 C, .slice a T.length c] 26) := ⟨_, rfl⟩
  go_wp2_with fail
  rw [← hv]
  rw [← hv] at H2 
  generalize w2.heap.size = q1 at *
  clear hv
  refine (HS1.out v2 H2.out.below).mono ?_
  rintro e w3 ⟨rfl, hb⟩
  have H3 := Lib.hid (H2.out.call hb)
  clear hb H2 
  have hc0_0 := H3.out.cell (k := 0) (i := 0) rfl rfl
  have hc0_1 := H3.out.cell (k := 0) (i := 1) rfl rfl
  go_wp2_with fail
  clear hc0_0 hc0_1
  refine (HV.out w3 H3.out.below).mono ?_
  rintro e w4 ⟨rfl, hb⟩
  have H4 := Lib.hid (H3.out.call hb)
  clear hb H3 
  go_wp2_with fail
  go_ret
  exact ⟨rfl, H4.out.below⟩
set_option maxRecDepth 100000 in
set_option maxHeartbeats 4000000 in
theorem lrow_c (C : Int) (T : List (List Int)) (a : Option Addr) (c : Nat) (p q : Int) (w : World) (hs : smallB C T = true) (hn : ¬ T.length < 2) (hC : (Lit.int .i64 C).wf = true) (hv : vldM C T = true) (h9 : 39 < C) (hT : TabAt w a T) :
    Calls Try.prog 4 #[.int .i64 C, .slice a T.length c, .int .u8 p, .int .u8 q] w fun e w' => e = .returned (.bool true) ∧ Below w.heap.size w w' := by
  have HS1 : Hid (∀ W', Below w.heap.size w W' → Calls Try.prog 12 #[.int .i64 C, .slice a T.length c] W' fun e w' => e = .returned (.int .i64 (sI (smallB C T))) ∧ Below W'.heap.size W' w') := Lib.hid fun W' h => small_any C T a c W' (hT.later h)
  rw [hs, show sI true = 1 from rfl] at HS1
  have hl := (smallB_iff.1 hs).1.1
  have hr := (smallB_iff.1 hs).2
  have HV : Hid (∀ W', Below w.heap.size w W' → Calls Try.prog 16 #[.agg #[.int .i64 C, .slice a T.length c]] W' fun e w' => e = .returned (.bool (vldM C T)) ∧ Below W'.heap.size W' w') := Lib.hid fun W' h => valid_any C T a c W' (by omega) (fun l hl => by have := hr l hl; omega) (wf_lo hC) (hT.later h)
  rw [hv] at HV
  have d1 : decide ((T.length : Int) < 2) = false := decide_eq_false (by omega)
  have d2 : decide (T.length < 2) = false := decide_eq_false hn
  have d3 : decide (39 < C) = true := decide_eq_true h9
  clear hs hT hn hC hv hl hr h9
  go_enter Try.func4, Try.ntmps4
  go_wp2_with fail
  refine (awake_any w).mono ?_
  rintro e w1 ⟨rfl, hb⟩
  have H1 := Lib.hid ((HH.start w).call hb)
  clear hb
  go_wp2_with fail
  refine (matrix_any C T.length a c w1).mono ?_
  rintro e w2 ⟨rfl, hb⟩
  have H2 := Lib.hid ((H1.out.call hb).alloc #[.int .i64 C, .slice a T.length c] 26 rfl rfl)
  clear hb H1 
  obtain ⟨v2, hv⟩ : ∃ x, x = w2.alloc (.cells #[.int .i64 C, .slice a T.length c] 26) := ⟨_, rfl⟩
  go_wp2_with fail
  rw [← hv]
  rw [← hv] at H2 
  generalize w2.heap.size = q1 at *
  clear hv
  refine (HS1.out v2 H2.out.below).mono ?_
  rintro e w3 ⟨rfl, hb⟩
  have H3 := Lib.hid (H2.out.call hb)
  clear hb H2 
  have hc0_0 := H3.out.cell (k := 0) (i := 0) rfl rfl
  have hc0_1 := H3.out.cell (k := 0) (i := 1) rfl rfl
  go_wp2_with fail
  clear hc0_0 hc0_1
  refine (HV.out w3 H3.out.below).mono ?_
  rintro e w4 ⟨rfl, hb⟩
  have H4 := Lib.hid (H3.out.call hb)
  clear hb H3 
  go_wp2_with fail
  go_ret
  exact ⟨rfl, H4.out.below⟩
end Go.Proofs.Ytlgiponfcmeiiaa
