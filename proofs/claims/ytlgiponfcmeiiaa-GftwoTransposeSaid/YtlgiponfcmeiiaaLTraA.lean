/- The walk of the law GftwoTranspose: the early ways. -/
import Derived.Test.YtlgiponfcmeiiaaTrW
import Derived.Test.YtlgiponfcmeiiaaRankW
import Derived.Test.YtlgiponfcmeiiaaEqW
namespace Go.Proofs.Ytlgiponfcmeiiaa
open Go Go.RowKit
set_option maxRecDepth 100000 in
set_option maxHeartbeats 4000000 in
theorem ltra_s1 (C : Int) (T : List (List Int)) (a : Option Addr) (c : Nat) (D : Int) (U : List (List Int)) (b : Option Addr) (d : Nat) (w : World) (hs : smallB C T = false) (hT : TabAt w a T) (hU : TabAt w b U) :
    Calls Try.prog 9 #[.int .i64 C, .slice a T.length c, .int .i64 D, .slice b U.length d] w fun e w' => e = .returned (.bool true) ∧ Below w.heap.size w w' := by
  have HS1 : Hid (∀ W', Below w.heap.size w W' → Calls Try.prog 12 #[.int .i64 C, .slice a T.length c] W' fun e w' => e = .returned (.int .i64 (sI (smallB C T))) ∧ Below W'.heap.size W' w') := Lib.hid fun W' h => small_any C T a c W' (hT.later h)
  have HS2 : Hid (∀ W', Below w.heap.size w W' → Calls Try.prog 12 #[.int .i64 D, .slice b U.length d] W' fun e w' => e = .returned (.int .i64 (sI (smallB D U))) ∧ Below W'.heap.size W' w') := Lib.hid fun W' h => small_any D U b d W' (hU.later h)
  rw [hs, show sI false = 0 from rfl] at HS1
  clear hs hT hU HS2
  go_enter Try.func9, Try.ntmps9
  go_wp2_with fail
  refine (awake_any w).mono ?_
  rintro e w1 ⟨rfl, hb⟩
  have H1 := Lib.hid ((HH.start w).call hb)
  clear hb
  go_wp2_with fail
  refine (HS1.out w1 H1.out.below).mono ?_
  rintro e w2 ⟨rfl, hb⟩
  have H2 := Lib.hid (H1.out.call hb)
  clear hb H1 
  go_wp2_with fail
  go_ret
  exact ⟨rfl, H2.out.below⟩
set_option maxRecDepth 100000 in
set_option maxHeartbeats 4000000 in
theorem ltra_s2 (C : Int) (T : List (List Int)) (a : Option Addr) (c : Nat) (D : Int) (U : List (List Int)) (b : Option Addr) (d : Nat) (w : World) (hs : smallB C T = true) (hs2 : smallB D U = false) (hT : TabAt w a T) (hU : TabAt w b U) :
    Calls Try.prog 9 #[.int .i64 C, .slice a T.length c, .int .i64 D, .slice b U.length d] w fun e w' => e = .returned (.bool true) ∧ Below w.heap.size w w' := by
  have HS1 : Hid (∀ W', Below w.heap.size w W' → Calls Try.prog 12 #[.int .i64 C, .slice a T.length c] W' fun e w' => e = .returned (.int .i64 (sI (smallB C T))) ∧ Below W'.heap.size W' w') := Lib.hid fun W' h => small_any C T a c W' (hT.later h)
  have HS2 : Hid (∀ W', Below w.heap.size w W' → Calls Try.prog 12 #[.int .i64 D, .slice b U.length d] W' fun e w' => e = .returned (.int .i64 (sI (smallB D U))) ∧ Below W'.heap.size W' w') := Lib.hid fun W' h => small_any D U b d W' (hU.later h)
  rw [hs, show sI true = 1 from rfl] at HS1
  rw [hs2, show sI false = 0 from rfl] at HS2
  clear hs hs2 hT hU
  go_enter Try.func9, Try.ntmps9
  go_wp2_with fail
  refine (awake_any w).mono ?_
  rintro e w1 ⟨rfl, hb⟩
  have H1 := Lib.hid ((HH.start w).call hb)
  clear hb
  go_wp2_with fail
  refine (HS1.out w1 H1.out.below).mono ?_
  rintro e w2 ⟨rfl, hb⟩
  have H2 := Lib.hid (H1.out.call hb)
  clear hb H1 
  go_wp2_with fail
  refine (HS2.out w2 H2.out.below).mono ?_
  rintro e w3 ⟨rfl, hb⟩
  have H3 := Lib.hid (H2.out.call hb)
  clear hb H2 
  go_wp2_with fail
  go_ret
  exact ⟨rfl, H3.out.below⟩
set_option maxRecDepth 100000 in
set_option maxHeartbeats 4000000 in
theorem ltra_s3 (C : Int) (T : List (List Int)) (a : Option Addr) (c : Nat) (D : Int) (U : List (List Int)) (b : Option Addr) (d : Nat) (w : World) (hs : smallB C T = true) (hs2 : smallB D U = true) (h3 : 30 < C ∧ C ≤ 65536) (hT : TabAt w a T) (hU : TabAt w b U) :
    Calls Try.prog 9 #[.int .i64 C, .slice a T.length c, .int .i64 D, .slice b U.length d] w fun e w' => e = .returned (.bool true) ∧ Below w.heap.size w w' := by
  have HS1 : Hid (∀ W', Below w.heap.size w W' → Calls Try.prog 12 #[.int .i64 C, .slice a T.length c] W' fun e w' => e = .returned (.int .i64 (sI (smallB C T))) ∧ Below W'.heap.size W' w') := Lib.hid fun W' h => small_any C T a c W' (hT.later h)
  have HS2 : Hid (∀ W', Below w.heap.size w W' → Calls Try.prog 12 #[.int .i64 D, .slice b U.length d] W' fun e w' => e = .returned (.int .i64 (sI (smallB D U))) ∧ Below W'.heap.size W' w') := Lib.hid fun W' h => small_any D U b d W' (hU.later h)
  rw [hs, show sI true = 1 from rfl] at HS1
  rw [hs2, show sI true = 1 from rfl] at HS2
  have d1 : decide (30 < C) = true := decide_eq_true h3.1
  have d2 : decide (C ≤ 65536) = true := decide_eq_true h3.2
  clear hs hs2 hT hU h3
  go_enter Try.func9, Try.ntmps9
  go_wp2_with fail
  refine (awake_any w).mono ?_
  rintro e w1 ⟨rfl, hb⟩
  have H1 := Lib.hid ((HH.start w).call hb)
  clear hb
  go_wp2_with fail
  refine (HS1.out w1 H1.out.below).mono ?_
  rintro e w2 ⟨rfl, hb⟩
  have H2 := Lib.hid (H1.out.call hb)
  clear hb H1 
  go_wp2_with fail
  refine (HS2.out w2 H2.out.below).mono ?_
  rintro e w3 ⟨rfl, hb⟩
  have H3 := Lib.hid (H2.out.call hb)
  clear hb H2 
  go_wp2_with fail
  go_ret
  exact ⟨rfl, H3.out.below⟩
set_option maxRecDepth 100000 in
set_option maxHeartbeats 4000000 in
theorem ltra_b1 (C : Int) (T : List (List Int)) (a : Option Addr) (c : Nat) (D : Int) (U : List (List Int)) (b : Option Addr) (d : Nat) (w : World) (hs : smallB C T = true) (hs2 : smallB D U = true) (hC : (Lit.int .i64 C).wf = true) (hD : (Lit.int .i64 D).wf = true) (hv : vldM C T = false) (h3 : C ≤ 30) (hT : TabAt w a T) (hU : TabAt w b U) :
    Calls Try.prog 9 #[.int .i64 C, .slice a T.length c, .int .i64 D, .slice b U.length d] w fun e w' => e = .returned (.bool true) ∧ Below w.heap.size w w' := by
  have HS1 : Hid (∀ W', Below w.heap.size w W' → Calls Try.prog 12 #[.int .i64 C, .slice a T.length c] W' fun e w' => e = .returned (.int .i64 (sI (smallB C T))) ∧ Below W'.heap.size W' w') := Lib.hid fun W' h => small_any C T a c W' (hT.later h)
  have HS2 : Hid (∀ W', Below w.heap.size w W' → Calls Try.prog 12 #[.int .i64 D, .slice b U.length d] W' fun e w' => e = .returned (.int .i64 (sI (smallB D U))) ∧ Below W'.heap.size W' w') := Lib.hid fun W' h => small_any D U b d W' (hU.later h)
  rw [hs, show sI true = 1 from rfl] at HS1
  rw [hs2, show sI true = 1 from rfl] at HS2
  have d1 : decide (30 < C) = false := decide_eq_false (by omega)
  have hl := (smallB_iff.1 hs).1.1
  have hr := (smallB_iff.1 hs).2
  have HTr : Hid (∀ W', Below w.heap.size w W' → Calls Try.prog 25 #[.agg #[.int .i64 C, .slice a T.length c]] W' fun e w' => e = .returned (.tuple #[.agg #[.int .i64 0, .slice none 0 0], .int .i64 1]) ∧ Below W'.heap.size W' w') := Lib.hid fun W' h => trans_bad C T a c W' (by omega) (fun l hl => by have := hr l hl; omega) (wf_lo hC) (hT.later h) hv
  have HV : Hid (∀ W', Below w.heap.size w W' → Calls Try.prog 16 #[.agg #[.int .i64 C, .slice a T.length c]] W' fun e w' => e = .returned (.bool (vldM C T)) ∧ Below W'.heap.size W' w') := Lib.hid fun W' h => valid_any C T a c W' (by omega) (fun l hl => by have := hr l hl; omega) (wf_lo hC) (hT.later h)
  rw [hv] at HV
  clear hs hs2 hT hU hr hC hD hv hl h3
  go_enter Try.func9, Try.ntmps9
  go_wp2_with fail
  refine (awake_any w).mono ?_
  rintro e w1 ⟨rfl, hb⟩
  have H1 := Lib.hid ((HH.start w).call hb)
  clear hb
  go_wp2_with fail
  refine (HS1.out w1 H1.out.below).mono ?_
  rintro e w2 ⟨rfl, hb⟩
  have H2 := Lib.hid (H1.out.call hb)
  clear hb H1 
  go_wp2_with fail
  refine (HS2.out w2 H2.out.below).mono ?_
  rintro e w3 ⟨rfl, hb⟩
  have H3 := Lib.hid (H2.out.call hb)
  clear hb H2 
  go_wp2_with fail
  refine (matrix_any C T.length a c w3).mono ?_
  rintro e w4 ⟨rfl, hb⟩
  have H4 := Lib.hid ((H3.out.call hb).alloc #[.int .i64 C, .slice a T.length c] 26 rfl rfl)
  clear hb H3 
  have hc0_0 := H4.out.cell (k := 0) (i := 0) rfl rfl
  have hc0_1 := H4.out.cell (k := 0) (i := 1) rfl rfl
  obtain ⟨v4, hv⟩ : ∃ x, x = w4.alloc (.cells #[.int .i64 C, .slice a T.length c] 26) := ⟨_, rfl⟩
  go_wp2_with fail
  clear hc0_0 hc0_1
  rw [← hv]
  rw [← hv] at H4 
  generalize w4.heap.size = q1 at *
  clear hv
  refine (HTr.out v4 H4.out.below).mono ?_
  rintro e w5 ⟨rfl, hb⟩
  have H5 := Lib.hid ((H4.out.call hb).alloc #[.int .i64 0, .slice none 0 0] 26 rfl rfl)
  clear hb H4 HTr
  have hc0_0 := H5.out.cell (k := 0) (i := 0) rfl rfl
  have hc0_1 := H5.out.cell (k := 0) (i := 1) rfl rfl
  obtain ⟨v5, hv⟩ : ∃ x, x = w5.alloc (.cells #[.int .i64 0, .slice none 0 0] 26) := ⟨_, rfl⟩
  go_wp2_with fail
  clear hc0_0 hc0_1
  rw [← hv]
  rw [← hv] at H5 
  generalize w5.heap.size = q2 at *
  clear hv
  refine (HV.out v5 H5.out.below).mono ?_
  rintro e w6 ⟨rfl, hb⟩
  have H6 := Lib.hid (H5.out.call hb)
  clear hb H5 
  have hc1_0 := H6.out.cell (k := 1) (i := 0) rfl rfl
  have hc1_1 := H6.out.cell (k := 1) (i := 1) rfl rfl
  go_wp2_with fail
  clear hc1_0 hc1_1
  go_ret
  exact ⟨rfl, H6.out.below⟩
set_option maxRecDepth 100000 in
set_option maxHeartbeats 4000000 in
theorem ltra_b2 (C : Int) (T : List (List Int)) (a : Option Addr) (c : Nat) (D : Int) (U : List (List Int)) (b : Option Addr) (d : Nat) (w : World) (hs : smallB C T = true) (hs2 : smallB D U = true) (hC : (Lit.int .i64 C).wf = true) (hD : (Lit.int .i64 D).wf = true) (hv : vldM C T = false) (h3 : 65536 < C) (hT : TabAt w a T) (hU : TabAt w b U) :
    Calls Try.prog 9 #[.int .i64 C, .slice a T.length c, .int .i64 D, .slice b U.length d] w fun e w' => e = .returned (.bool true) ∧ Below w.heap.size w w' := by
  have HS1 : Hid (∀ W', Below w.heap.size w W' → Calls Try.prog 12 #[.int .i64 C, .slice a T.length c] W' fun e w' => e = .returned (.int .i64 (sI (smallB C T))) ∧ Below W'.heap.size W' w') := Lib.hid fun W' h => small_any C T a c W' (hT.later h)
  have HS2 : Hid (∀ W', Below w.heap.size w W' → Calls Try.prog 12 #[.int .i64 D, .slice b U.length d] W' fun e w' => e = .returned (.int .i64 (sI (smallB D U))) ∧ Below W'.heap.size W' w') := Lib.hid fun W' h => small_any D U b d W' (hU.later h)
  rw [hs, show sI true = 1 from rfl] at HS1
  rw [hs2, show sI true = 1 from rfl] at HS2
  have d1 : decide (30 < C) = true := decide_eq_true (by omega)
  have d2 : decide (C ≤ 65536) = false := decide_eq_false (by omega)
  have hl := (smallB_iff.1 hs).1.1
  have hr := (smallB_iff.1 hs).2
  have HTr : Hid (∀ W', Below w.heap.size w W' → Calls Try.prog 25 #[.agg #[.int .i64 C, .slice a T.length c]] W' fun e w' => e = .returned (.tuple #[.agg #[.int .i64 0, .slice none 0 0], .int .i64 1]) ∧ Below W'.heap.size W' w') := Lib.hid fun W' h => trans_bad C T a c W' (by omega) (fun l hl => by have := hr l hl; omega) (wf_lo hC) (hT.later h) hv
  have HV : Hid (∀ W', Below w.heap.size w W' → Calls Try.prog 16 #[.agg #[.int .i64 C, .slice a T.length c]] W' fun e w' => e = .returned (.bool (vldM C T)) ∧ Below W'.heap.size W' w') := Lib.hid fun W' h => valid_any C T a c W' (by omega) (fun l hl => by have := hr l hl; omega) (wf_lo hC) (hT.later h)
  rw [hv] at HV
  clear hs hs2 hT hU hr hC hD hv hl h3
  go_enter Try.func9, Try.ntmps9
  go_wp2_with fail
  refine (awake_any w).mono ?_
  rintro e w1 ⟨rfl, hb⟩
  have H1 := Lib.hid ((HH.start w).call hb)
  clear hb
  go_wp2_with fail
  refine (HS1.out w1 H1.out.below).mono ?_
  rintro e w2 ⟨rfl, hb⟩
  have H2 := Lib.hid (H1.out.call hb)
  clear hb H1 
  go_wp2_with fail
  refine (HS2.out w2 H2.out.below).mono ?_
  rintro e w3 ⟨rfl, hb⟩
  have H3 := Lib.hid (H2.out.call hb)
  clear hb H2 
  go_wp2_with fail
  refine (matrix_any C T.length a c w3).mono ?_
  rintro e w4 ⟨rfl, hb⟩
  have H4 := Lib.hid ((H3.out.call hb).alloc #[.int .i64 C, .slice a T.length c] 26 rfl rfl)
  clear hb H3 
  have hc0_0 := H4.out.cell (k := 0) (i := 0) rfl rfl
  have hc0_1 := H4.out.cell (k := 0) (i := 1) rfl rfl
  obtain ⟨v4, hv⟩ : ∃ x, x = w4.alloc (.cells #[.int .i64 C, .slice a T.length c] 26) := ⟨_, rfl⟩
  go_wp2_with fail
  clear hc0_0 hc0_1
  rw [← hv]
  rw [← hv] at H4 
  generalize w4.heap.size = q1 at *
  clear hv
  refine (HTr.out v4 H4.out.below).mono ?_
  rintro e w5 ⟨rfl, hb⟩
  have H5 := Lib.hid ((H4.out.call hb).alloc #[.int .i64 0, .slice none 0 0] 26 rfl rfl)
  clear hb H4 HTr
  have hc0_0 := H5.out.cell (k := 0) (i := 0) rfl rfl
  have hc0_1 := H5.out.cell (k := 0) (i := 1) rfl rfl
  obtain ⟨v5, hv⟩ : ∃ x, x = w5.alloc (.cells #[.int .i64 0, .slice none 0 0] 26) := ⟨_, rfl⟩
  go_wp2_with fail
  clear hc0_0 hc0_1
  rw [← hv]
  rw [← hv] at H5 
  generalize w5.heap.size = q2 at *
  clear hv
  refine (HV.out v5 H5.out.below).mono ?_
  rintro e w6 ⟨rfl, hb⟩
  have H6 := Lib.hid (H5.out.call hb)
  clear hb H5 
  have hc1_0 := H6.out.cell (k := 1) (i := 0) rfl rfl
  have hc1_1 := H6.out.cell (k := 1) (i := 1) rfl rfl
  go_wp2_with fail
  clear hc1_0 hc1_1
  go_ret
  exact ⟨rfl, H6.out.below⟩
end Go.Proofs.Ytlgiponfcmeiiaa
