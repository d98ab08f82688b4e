/- The walk of the law GftwoMul. -/
import Derived.Test.YtlgiponfcmeiiaaRmW
import Derived.Test.YtlgiponfcmeiiaaRrW
import Derived.Test.YtlgiponfcmeiiaaMulP
import Derived.Test.YtlgiponfcmeiiaaEqW
namespace Go.Proofs.Ytlgiponfcmeiiaa
open Go Go.RowKit
set_option maxRecDepth 100000 in
set_option maxHeartbeats 4000000 in
theorem lmul_s1 (C : Int) (T : List (List Int)) (a : Option Addr) (c : Nat) (D : Int) (U : List (List Int)) (b : Option Addr) (d : Nat) (w : World) (hs : smallB C T = false) (hT : TabAt w a T) (hU : TabAt w b U) :
    Calls Try.prog 8 #[.int .i64 C, .slice a T.length c, .int .i64 D, .slice b U.length d] w fun e w' => e = .returned (.bool true) ∧ Below w.heap.size w w' := by
  have HS1 : Hid (∀ W', Below w.heap.size w W' → Calls Try.prog 12 #[.int .i64 C, .slice a T.length c] W' fun e w' => e = .returned (.int .i64 (sI (smallB C T))) ∧ Below W'.heap.size W' w') := Lib.hid fun W' h => small_any C T a c W' (hT.later h)
  have HS2 : Hid (∀ W', Below w.heap.size w W' → Calls Try.prog 12 #[.int .i64 D, .slice b U.length d] W' fun e w' => e = .returned (.int .i64 (sI (smallB D U))) ∧ Below W'.heap.size W' w') := Lib.hid fun W' h => small_any D U b d W' (hU.later h)
  rw [hs, show sI false = 0 from rfl] at HS1
  clear hs hT hU HS2
  go_enter Try.func8, Try.ntmps8
  go_wp2_with fail
  refine (awake_any w).mono ?_
  rintro e w1 ⟨rfl, hb⟩
  have H1 := Lib.hid ((HH.start w).call hb)
  clear hb
  go_wp2_with fail
  refine (HS1.out w1 H1.out.below).mono ?_
  rintro e w2 ⟨rfl, hb⟩
  have H2 := Lib.hid (H1.out.call hb)
  clear hb H1
  go_wp2_with fail
  go_ret
  exact ⟨rfl, H2.out.below⟩
set_option maxRecDepth 100000 in
set_option maxHeartbeats 4000000 in
theorem lmul_s2 (C : Int) (T : List (List Int)) (a : Option Addr) (c : Nat) (D : Int) (U : List (List Int)) (b : Option Addr) (d : Nat) (w : World) (hs : smallB C T = true) (hs2 : smallB D U = false) (hT : TabAt w a T) (hU : TabAt w b U) :
    Calls Try.prog 8 #[.int .i64 C, .slice a T.length c, .int .i64 D, .slice b U.length d] w fun e w' => e = .returned (.bool true) ∧ Below w.heap.size w w' := by
  have HS1 : Hid (∀ W', Below w.heap.size w W' → Calls Try.prog 12 #[.int .i64 C, .slice a T.length c] W' fun e w' => e = .returned (.int .i64 (sI (smallB C T))) ∧ Below W'.heap.size W' w') := Lib.hid fun W' h => small_any C T a c W' (hT.later h)
  have HS2 : Hid (∀ W', Below w.heap.size w W' → Calls Try.prog 12 #[.int .i64 D, .slice b U.length d] W' fun e w' => e = .returned (.int .i64 (sI (smallB D U))) ∧ Below W'.heap.size W' w') := Lib.hid fun W' h => small_any D U b d W' (hU.later h)
  rw [hs, show sI true = 1 from rfl] at HS1
  rw [hs2, show sI false = 0 from rfl] at HS2
  clear hs hs2 hT hU
  go_enter Try.func8, Try.ntmps8
  go_wp2_with fail
  refine (awake_any w).mono ?_
  rintro e w1 ⟨rfl, hb⟩
  have H1 := Lib.hid ((HH.start w).call hb)
  clear hb
  go_wp2_with fail
  refine (HS1.out w1 H1.out.below).mono ?_
  rintro e w2 ⟨rfl, hb⟩
  have H2 := Lib.hid (H1.out.call hb)
  clear hb H1
  go_wp2_with fail
  refine (HS2.out w2 H2.out.below).mono ?_
  rintro e w3 ⟨rfl, hb⟩
  have H3 := Lib.hid (H2.out.call hb)
  clear hb H2
  go_wp2_with fail
  go_ret
  exact ⟨rfl, H3.out.below⟩
set_option maxRecDepth 100000 in
set_option maxHeartbeats 4000000 in
theorem lmul_b1 (C : Int) (T : List (List Int)) (a : Option Addr) (c : Nat) (D : Int) (U : List (List Int)) (b : Option Addr) (d : Nat) (w : World) (hs : smallB C T = true) (hs2 : smallB D U = true) (hC : (Lit.int .i64 C).wf = true) (hD : (Lit.int .i64 D).wf = true) (hv : vldM C T = false) (hT : TabAt w a T) (hU : TabAt w b U) :
    Calls Try.prog 8 #[.int .i64 C, .slice a T.length c, .int .i64 D, .slice b U.length d] w fun e w' => e = .returned (.bool true) ∧ Below w.heap.size w w' := by
  have HS1 : Hid (∀ W', Below w.heap.size w W' → Calls Try.prog 12 #[.int .i64 C, .slice a T.length c] W' fun e w' => e = .returned (.int .i64 (sI (smallB C T))) ∧ Below W'.heap.size W' w') := Lib.hid fun W' h => small_any C T a c W' (hT.later h)
  have HS2 : Hid (∀ W', Below w.heap.size w W' → Calls Try.prog 12 #[.int .i64 D, .slice b U.length d] W' fun e w' => e = .returned (.int .i64 (sI (smallB D U))) ∧ Below W'.heap.size W' w') := Lib.hid fun W' h => small_any D U b d W' (hU.later h)
  have hl := (smallB_iff.1 hs).1.1
  have hr := (smallB_iff.1 hs).2
  have hl2 := (smallB_iff.1 hs2).1.1
  have hr2 := (smallB_iff.1 hs2).2
  have HV1 : Hid (∀ W', Below w.heap.size w W' → Calls Try.prog 15 #[.int .i64 C, .slice a T.length c] W' fun e w' => e = .returned (.bool (vldM C T)) ∧ Below W'.heap.size W' w') := Lib.hid fun W' h => rvalid_any C T a c W' (by omega) (fun l hl => by have := hr l hl; omega) (wf_lo hC) (hT.later h)
  have HV2 : Hid (∀ W', Below w.heap.size w W' → Calls Try.prog 15 #[.int .i64 D, .slice b U.length d] W' fun e w' => e = .returned (.bool (vldM D U)) ∧ Below W'.heap.size W' w') := Lib.hid fun W' h => rvalid_any D U b d W' (by omega) (fun l hl => by have := hr2 l hl; omega) (wf_lo hD) (hU.later h)
  rw [hs, show sI true = 1 from rfl] at HS1
  rw [hs2, show sI true = 1 from rfl] at HS2
  have HH0 : Hid (∀ W', Below w.heap.size w W' → Calls Try.prog 23 #[.agg #[.int .i64 C, .slice a T.length c], .agg #[.int .i64 D, .slice b U.length d]] W' fun e w' => e = .returned (.tuple #[.agg #[.int .i64 0, .slice none 0 0], .int .i64 1]) ∧ Below W'.heap.size W' w') := Lib.hid fun W' h => mul_bad C D T U a b c d W' (by omega) (fun l hl => by have := hr l hl; omega) (by omega) (fun l hl => by have := hr2 l hl; omega) (wf_lo hC) (wf_lo hD) (hT.later h) (hU.later h) (by rw [hv]; simp)
  rw [hv] at HV1
  clear hs hs2 hT hU hr hr2 hC hD hl hl2
  go_enter Try.func8, Try.ntmps8
  go_wp2_with fail
  refine (awake_any w).mono ?_
  rintro e w1 ⟨rfl, hb⟩
  have H1 := Lib.hid ((HH.start w).call hb)
  clear hb
  go_wp2_with fail
  refine (HS1.out w1 H1.out.below).mono ?_
  rintro e w2 ⟨rfl, hb⟩
  have H2 := Lib.hid (H1.out.call hb)
  clear hb H1
  go_wp2_with fail
  refine (HS2.out w2 H2.out.below).mono ?_
  rintro e w3 ⟨rfl, hb⟩
  have H3 := Lib.hid (H2.out.call hb)
  clear hb H2
  go_wp2_with fail
  refine (matrix_any C T.length a c w3).mono ?_
  rintro e w4 ⟨rfl, hb⟩
  have H4 := Lib.hid (H3.out.call hb)
  clear hb H3
  go_wp2_with fail
  refine (matrix_any D U.length b d w4).mono ?_
  rintro e w5 ⟨rfl, hb⟩
  have H5 := Lib.hid (H4.out.call hb)
  clear hb H4
  go_wp2_with fail
  obtain ⟨v5, hv5⟩ : ∃ x, x = (w5.alloc (.cells #[.int .i64 C, .slice a T.length c] 26)).alloc (.cells #[.int .i64 D, .slice b U.length d] 26) := ⟨_, rfl⟩
  rw [← hv5]
  have h6 : HH w v5 [(w5.heap.size, rowO 26 [.int .i64 C, .slice a T.length c]), (w5.heap.size + 1, rowO 26 [.int .i64 D, .slice b U.length d])] [] := by rw [hv5]; exact (H5.out.alloc #[.int .i64 C, .slice a T.length c] 26 rfl rfl).alloc #[.int .i64 D, .slice b U.length d] 26 (by simp) rfl
  have H6 := Lib.hid h6
  generalize w5.heap.size = q at *
  clear hv5 h6 H5
  refine (HH0.out v5 H6.out.below).mono ?_
  rintro e w6 ⟨rfl, hb⟩
  have H7 := Lib.hid ((H6.out.call hb).alloc #[.int .i64 0, .slice none 0 0] 26 rfl rfl)
  obtain ⟨v6, hv6⟩ : ∃ x, x = w6.alloc (.cells #[.int .i64 0, .slice none 0 0] 26) := ⟨_, rfl⟩
  clear hb H6 HH0
  go_wp2_with fail
  rw [← hv6]
  rw [← hv6] at H7
  generalize w6.heap.size = q2 at *
  clear hv6
  refine (HV1.out v6 H7.out.below).mono ?_
  rintro e w7 ⟨rfl, hb⟩
  have H8 := Lib.hid (H7.out.call hb)
  clear hb H7
  have hc2_0 := H8.out.cell (k := 2) (i := 0) rfl rfl
  have hc2_1 := H8.out.cell (k := 2) (i := 1) rfl rfl
  go_wp2_with fail
  go_ret
  exact ⟨rfl, H8.out.below⟩
set_option maxRecDepth 100000 in
set_option maxHeartbeats 4000000 in
theorem lmul_b2 (C : Int) (T : List (List Int)) (a : Option Addr) (c : Nat) (D : Int) (U : List (List Int)) (b : Option Addr) (d : Nat) (w : World) (hs : smallB C T = true) (hs2 : smallB D U = true) (hC : (Lit.int .i64 C).wf = true) (hD : (Lit.int .i64 D).wf = true) (hv : vldM C T = true) (hv2 : vldM D U = false) (hT : TabAt w a T) (hU : TabAt w b U) :
    Calls Try.prog 8 #[.int .i64 C, .slice a T.length c, .int .i64 D, .slice b U.length d] w fun e w' => e = .returned (.bool true) ∧ Below w.heap.size w w' := by
  have HS1 : Hid (∀ W', Below w.heap.size w W' → Calls Try.prog 12 #[.int .i64 C, .slice a T.length c] W' fun e w' => e = .returned (.int .i64 (sI (smallB C T))) ∧ Below W'.heap.size W' w') := Lib.hid fun W' h => small_any C T a c W' (hT.later h)
  have HS2 : Hid (∀ W', Below w.heap.size w W' → Calls Try.prog 12 #[.int .i64 D, .slice b U.length d] W' fun e w' => e = .returned (.int .i64 (sI (smallB D U))) ∧ Below W'.heap.size W' w') := Lib.hid fun W' h => small_any D U b d W' (hU.later h)
  have hl := (smallB_iff.1 hs).1.1
  have hr := (smallB_iff.1 hs).2
  have hl2 := (smallB_iff.1 hs2).1.1
  have hr2 := (smallB_iff.1 hs2).2
  have HV1 : Hid (∀ W', Below w.heap.size w W' → Calls Try.prog 15 #[.int .i64 C, .slice a T.length c] W' fun e w' => e = .returned (.bool (vldM C T)) ∧ Below W'.heap.size W' w') := Lib.hid fun W' h => rvalid_any C T a c W' (by omega) (fun l hl => by have := hr l hl; omega) (wf_lo hC) (hT.later h)
  have HV2 : Hid (∀ W', Below w.heap.size w W' → Calls Try.prog 15 #[.int .i64 D, .slice b U.length d] W' fun e w' => e = .returned (.bool (vldM D U)) ∧ Below W'.heap.size W' w') := Lib.hid fun W' h => rvalid_any D U b d W' (by omega) (fun l hl => by have := hr2 l hl; omega) (wf_lo hD) (hU.later h)
  rw [hs, show sI true = 1 from rfl] at HS1
  rw [hs2, show sI true = 1 from rfl] at HS2
  have HH0 : Hid (∀ W', Below w.heap.size w W' → Calls Try.prog 23 #[.agg #[.int .i64 C, .slice a T.length c], .agg #[.int .i64 D, .slice b U.length d]] W' fun e w' => e = .returned (.tuple #[.agg #[.int .i64 0, .slice none 0 0], .int .i64 1]) ∧ Below W'.heap.size W' w') := Lib.hid fun W' h => mul_bad C D T U a b c d W' (by omega) (fun l hl => by have := hr l hl; omega) (by omega) (fun l hl => by have := hr2 l hl; omega) (wf_lo hC) (wf_lo hD) (hT.later h) (hU.later h) (by rw [hv2]; simp)
  rw [hv] at HV1
  rw [hv2] at HV2
  clear hs hs2 hT hU hr hr2 hC hD hl hl2
  go_enter Try.func8, Try.ntmps8
  go_wp2_with fail
  refine (awake_any w).mono ?_
  rintro e w1 ⟨rfl, hb⟩
  have H1 := Lib.hid ((HH.start w).call hb)
  clear hb
  go_wp2_with fail
  refine (HS1.out w1 H1.out.below).mono ?_
  rintro e w2 ⟨rfl, hb⟩
  have H2 := Lib.hid (H1.out.call hb)
  clear hb H1
  go_wp2_with fail
  refine (HS2.out w2 H2.out.below).mono ?_
  rintro e w3 ⟨rfl, hb⟩
  have H3 := Lib.hid (H2.out.call hb)
  clear hb H2
  go_wp2_with fail
  refine (matrix_any C T.length a c w3).mono ?_
  rintro e w4 ⟨rfl, hb⟩
  have H4 := Lib.hid (H3.out.call hb)
  clear hb H3
  go_wp2_with fail
  refine (matrix_any D U.length b d w4).mono ?_
  rintro e w5 ⟨rfl, hb⟩
  have H5 := Lib.hid (H4.out.call hb)
  clear hb H4
  go_wp2_with fail
  obtain ⟨v5, hv5⟩ : ∃ x, x = (w5.alloc (.cells #[.int .i64 C, .slice a T.length c] 26)).alloc (.cells #[.int .i64 D, .slice b U.length d] 26) := ⟨_, rfl⟩
  rw [← hv5]
  have h6 : HH w v5 [(w5.heap.size, rowO 26 [.int .i64 C, .slice a T.length c]), (w5.heap.size + 1, rowO 26 [.int .i64 D, .slice b U.length d])] [] := by rw [hv5]; exact (H5.out.alloc #[.int .i64 C, .slice a T.length c] 26 rfl rfl).alloc #[.int .i64 D, .slice b U.length d] 26 (by simp) rfl
  have H6 := Lib.hid h6
  generalize w5.heap.size = q at *
  clear hv5 h6 H5
  refine (HH0.out v5 H6.out.below).mono ?_
  rintro e w6 ⟨rfl, hb⟩
  have H7 := Lib.hid ((H6.out.call hb).alloc #[.int .i64 0, .slice none 0 0] 26 rfl rfl)
  obtain ⟨v6, hv6⟩ : ∃ x, x = w6.alloc (.cells #[.int .i64 0, .slice none 0 0] 26) := ⟨_, rfl⟩
  clear hb H6 HH0
  go_wp2_with fail
  rw [← hv6]
  rw [← hv6] at H7
  generalize w6.heap.size = q2 at *
  clear hv6
  refine (HV1.out v6 H7.out.below).mono ?_
  rintro e w7 ⟨rfl, hb⟩
  have H8 := Lib.hid (H7.out.call hb)
  clear hb H7
  go_wp2_with fail
  refine (HV2.out w7 H8.out.below).mono ?_
  rintro e w8 ⟨rfl, hb⟩
  have H9 := Lib.hid (H8.out.call hb)
  clear hb H8
  have hc2_0 := H9.out.cell (k := 2) (i := 0) rfl rfl
  have hc2_1 := H9.out.cell (k := 2) (i := 1) rfl rfl
  go_wp2_with fail
  go_ret
  exact ⟨rfl, H9.out.below⟩
set_option maxRecDepth 100000 in
set_option maxHeartbeats 4000000 in
theorem lmul_n (C : Int) (T : List (List Int)) (a : Option Addr) (c : Nat) (D : Int) (U : List (List Int)) (b : Option Addr) (d : Nat) (w : World) (hs : smallB C T = true) (hs2 : smallB D U = true) (hC : (Lit.int .i64 C).wf = true) (hD : (Lit.int .i64 D).wf = true) (hv : vldM C T = true) (hv2 : vldM D U = true) (n m : Nat) (xs ys : List Nat) (hn : C = (n : Int)) (hx : T = tabN n xs) (hxl : ∀ x ∈ xs, x < 2 ^ n) (hm : D = (m : Int)) (hy : U = tabN m ys) (hyl : ∀ y ∈ ys, y < 2 ^ m) (hne : n ≠ ys.length) (hT : TabAt w a T) (hU : TabAt w b U) :
    Calls Try.prog 8 #[.int .i64 C, .slice a T.length c, .int .i64 D, .slice b U.length d] w fun e w' => e = .returned (.bool true) ∧ Below w.heap.size w w' := by
  have HS1 : Hid (∀ W', Below w.heap.size w W' → Calls Try.prog 12 #[.int .i64 C, .slice a T.length c] W' fun e w' => e = .returned (.int .i64 (sI (smallB C T))) ∧ Below W'.heap.size W' w') := Lib.hid fun W' h => small_any C T a c W' (hT.later h)
  have HS2 : Hid (∀ W', Below w.heap.size w W' → Calls Try.prog 12 #[.int .i64 D, .slice b U.length d] W' fun e w' => e = .returned (.int .i64 (sI (smallB D U))) ∧ Below W'.heap.size W' w') := Lib.hid fun W' h => small_any D U b d W' (hU.later h)
  have hl := (smallB_iff.1 hs).1.1
  have hr := (smallB_iff.1 hs).2
  have hl2 := (smallB_iff.1 hs2).1.1
  have hr2 := (smallB_iff.1 hs2).2
  have HV1 : Hid (∀ W', Below w.heap.size w W' → Calls Try.prog 15 #[.int .i64 C, .slice a T.length c] W' fun e w' => e = .returned (.bool (vldM C T)) ∧ Below W'.heap.size W' w') := Lib.hid fun W' h => rvalid_any C T a c W' (by omega) (fun l hl => by have := hr l hl; omega) (wf_lo hC) (hT.later h)
  have HV2 : Hid (∀ W', Below w.heap.size w W' → Calls Try.prog 15 #[.int .i64 D, .slice b U.length d] W' fun e w' => e = .returned (.bool (vldM D U)) ∧ Below W'.heap.size W' w') := Lib.hid fun W' h => rvalid_any D U b d W' (by omega) (fun l hl => by have := hr2 l hl; omega) (wf_lo hD) (hU.later h)
  rw [hs, show sI true = 1 from rfl] at HS1
  rw [hs2, show sI true = 1 from rfl] at HS2
  rw [hv] at HV1
  rw [hv2] at HV2
  have hn4 : n ≤ 65536 := by have := (vldM_iff.1 hv).1; omega
  have hm4 : m ≤ 65536 := by have := (vldM_iff.1 hv2).1; omega
  subst hn
  subst hm
  subst hx
  subst hy
  rw [tabN_len n xs] at *
  rw [tabN_len m ys] at *
  have HH0 : Hid (∀ W', Below w.heap.size w W' → Calls Try.prog 23 #[.agg #[.int .i64 (n : Int), .slice a xs.length c], .agg #[.int .i64 (m : Int), .slice b ys.length d]] W' fun e w' => e = .returned (.tuple #[.agg #[.int .i64 0, .slice none 0 0], .int .i64 2]) ∧ Below W'.heap.size W' w') := Lib.hid fun W' h => mul_no n m xs ys hn4 hm4 (by omega) (by omega) a b c d W' (hT.later h) (hU.later h) hne
  have e1 : ((n : Int) != (ys.length : Nat)) = true := by rw [bne, Bool.not_eq_true', beq_eq_false_iff_ne]; omega
  clear hv hv2 hxl hyl
  clear hs hs2 hT hU hr hr2 hC hD hl hl2
  go_enter Try.func8, Try.ntmps8
  go_wp2_with fail
  refine (awake_any w).mono ?_
  rintro e w1 ⟨rfl, hb⟩
  have H1 := Lib.hid ((HH.start w).call hb)
  clear hb
  go_wp2_with fail
  refine (HS1.out w1 H1.out.below).mono ?_
  rintro e w2 ⟨rfl, hb⟩
  have H2 := Lib.hid (H1.out.call hb)
  clear hb H1
  go_wp2_with fail
  refine (HS2.out w2 H2.out.below).mono ?_
  rintro e w3 ⟨rfl, hb⟩
  have H3 := Lib.hid (H2.out.call hb)
  clear hb H2
  go_wp2_with fail
  refine (matrix_any n xs.length a c w3).mono ?_
  rintro e w4 ⟨rfl, hb⟩
  have H4 := Lib.hid (H3.out.call hb)
  clear hb H3
  go_wp2_with fail
  refine (matrix_any m ys.length b d w4).mono ?_
  rintro e w5 ⟨rfl, hb⟩
  have H5 := Lib.hid (H4.out.call hb)
  clear hb H4
  go_wp2_with fail
  obtain ⟨v5, hv5⟩ : ∃ x, x = (w5.alloc (.cells #[.int .i64 (n : Int), .slice a xs.length c] 26)).alloc (.cells #[.int .i64 (m : Int), .slice b ys.length d] 26) := ⟨_, rfl⟩
  rw [← hv5]
  have h6 : HH w v5 [(w5.heap.size, rowO 26 [.int .i64 (n : Int), .slice a xs.length c]), (w5.heap.size + 1, rowO 26 [.int .i64 (m : Int), .slice b ys.length d])] [] := by rw [hv5]; exact (H5.out.alloc #[.int .i64 (n : Int), .slice a xs.length c] 26 rfl rfl).alloc #[.int .i64 (m : Int), .slice b ys.length d] 26 (by simp) rfl
  have H6 := Lib.hid h6
  generalize w5.heap.size = q at *
  clear hv5 h6 H5
  refine (HH0.out v5 H6.out.below).mono ?_
  rintro e w6 ⟨rfl, hb⟩
  have H7 := Lib.hid ((H6.out.call hb).alloc #[.int .i64 0, .slice none 0 0] 26 rfl rfl)
  obtain ⟨v6, hv6⟩ : ∃ x, x = w6.alloc (.cells #[.int .i64 0, .slice none 0 0] 26) := ⟨_, rfl⟩
  clear hb H6 HH0
  go_wp2_with fail
  rw [← hv6]
  rw [← hv6] at H7
  generalize w6.heap.size = q2 at *
  clear hv6
  refine (HV1.out v6 H7.out.below).mono ?_
  rintro e w7 ⟨rfl, hb⟩
  have H8 := Lib.hid (H7.out.call hb)
  clear hb H7
  go_wp2_with fail
  refine (HV2.out w7 H8.out.below).mono ?_
  rintro e w8 ⟨rfl, hb⟩
  have H9 := Lib.hid (H8.out.call hb)
  clear hb H8
  have hc2_0 := H9.out.cell (k := 2) (i := 0) rfl rfl
  have hc2_1 := H9.out.cell (k := 2) (i := 1) rfl rfl
  go_wp2_with fail
  go_ret
  exact ⟨rfl, H9.out.below⟩
end Go.Proofs.Ytlgiponfcmeiiaa
