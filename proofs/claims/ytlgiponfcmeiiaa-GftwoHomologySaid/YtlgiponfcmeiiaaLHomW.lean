/- The walk of the law GftwoHomology. -/
import Derived.Test.YtlgiponfcmeiiaaRmW
import Derived.Test.YtlgiponfcmeiiaaRrW
import Derived.Test.YtlgiponfcmeiiaaNulP
namespace Go.Proofs.Ytlgiponfcmeiiaa
open Go Go.RowKit
set_option maxRecDepth 100000 in
set_option maxHeartbeats 4000000 in
theorem lhom_s1 (C : Int) (T : List (List Int)) (a : Option Addr) (c : Nat) (D : Int) (U : List (List Int)) (b : Option Addr) (d : Nat) (w : World) (hs : smallB C T = false) (hT : TabAt w a T) (hU : TabAt w b U) :
    Calls Try.prog 6 #[.int .i64 C, .slice a T.length c, .int .i64 D, .slice b U.length d] w fun e w' => e = .returned (.bool true) ∧ Below w.heap.size w w' := by
  have HS1 : Hid (∀ W', Below w.heap.size w W' → Calls Try.prog 12 #[.int .i64 C, .slice a T.length c] W' fun e w' => e = .returned (.int .i64 (sI (smallB C T))) ∧ Below W'.heap.size W' w') := Lib.hid fun W' h => small_any C T a c W' (hT.later h)
  have HS2 : Hid (∀ W', Below w.heap.size w W' → Calls Try.prog 12 #[.int .i64 D, .slice b U.length d] W' fun e w' => e = .returned (.int .i64 (sI (smallB D U))) ∧ Below W'.heap.size W' w') := Lib.hid fun W' h => small_any D U b d W' (hU.later h)
  rw [hs, show sI false = 0 from rfl] at HS1
  clear hs hT hU HS2
  go_enter Try.func6, Try.ntmps6
  go_wp2_with fail
  refine (awake_any w).mono ?_
  rintro e w1 ⟨rfl, hb⟩
  have H1 := Lib.hid ((HH.start w).call hb)
  clear hb
  go_wp2_with fail
  refine (HS1.out w1 H1.out.below).mono ?_
  rintro e w2 ⟨rfl, hb⟩
  have H2 := Lib.hid (H1.out.call hb)
  clear hb H1
  go_wp2_with fail
  go_ret
  exact ⟨rfl, H2.out.below⟩
set_option maxRecDepth 100000 in
set_option maxHeartbeats 4000000 in
theorem lhom_s2 (C : Int) (T : List (List Int)) (a : Option Addr) (c : Nat) (D : Int) (U : List (List Int)) (b : Option Addr) (d : Nat) (w : World) (hs : smallB C T = true) (hs2 : smallB D U = false) (hT : TabAt w a T) (hU : TabAt w b U) :
    Calls Try.prog 6 #[.int .i64 C, .slice a T.length c, .int .i64 D, .slice b U.length d] w fun e w' => e = .returned (.bool true) ∧ Below w.heap.size w w' := by
  have HS1 : Hid (∀ W', Below w.heap.size w W' → Calls Try.prog 12 #[.int .i64 C, .slice a T.length c] W' fun e w' => e = .returned (.int .i64 (sI (smallB C T))) ∧ Below W'.heap.size W' w') := Lib.hid fun W' h => small_any C T a c W' (hT.later h)
  have HS2 : Hid (∀ W', Below w.heap.size w W' → Calls Try.prog 12 #[.int .i64 D, .slice b U.length d] W' fun e w' => e = .returned (.int .i64 (sI (smallB D U))) ∧ Below W'.heap.size W' w') := Lib.hid fun W' h => small_any D U b d W' (hU.later h)
  rw [hs, show sI true = 1 from rfl] at HS1
  rw [hs2, show sI false = 0 from rfl] at HS2
  clear hs hs2 hT hU
  go_enter Try.func6, Try.ntmps6
  go_wp2_with fail
  refine (awake_any w).mono ?_
  rintro e w1 ⟨rfl, hb⟩
  have H1 := Lib.hid ((HH.start w).call hb)
  clear hb
  go_wp2_with fail
  refine (HS1.out w1 H1.out.below).mono ?_
  rintro e w2 ⟨rfl, hb⟩
  have H2 := Lib.hid (H1.out.call hb)
  clear hb H1
  go_wp2_with fail
  refine (HS2.out w2 H2.out.below).mono ?_
  rintro e w3 ⟨rfl, hb⟩
  have H3 := Lib.hid (H2.out.call hb)
  clear hb H2
  go_wp2_with fail
  go_ret
  exact ⟨rfl, H3.out.below⟩
set_option maxRecDepth 100000 in
set_option maxHeartbeats 4000000 in
theorem lhom_b1 (C : Int) (T : List (List Int)) (a : Option Addr) (c : Nat) (D : Int) (U : List (List Int)) (b : Option Addr) (d : Nat) (w : World) (hs : smallB C T = true) (hs2 : smallB D U = true) (hC : (Lit.int .i64 C).wf = true) (hD : (Lit.int .i64 D).wf = true) (hv : vldM C T = false) (hT : TabAt w a T) (hU : TabAt w b U) :
    Calls Try.prog 6 #[.int .i64 C, .slice a T.length c, .int .i64 D, .slice b U.length d] w fun e w' => e = .returned (.bool true) ∧ Below w.heap.size w w' := by
  have HS1 : Hid (∀ W', Below w.heap.size w W' → Calls Try.prog 12 #[.int .i64 C, .slice a T.length c] W' fun e w' => e = .returned (.int .i64 (sI (smallB C T))) ∧ Below W'.heap.size W' w') := Lib.hid fun W' h => small_any C T a c W' (hT.later h)
  have HS2 : Hid (∀ W', Below w.heap.size w W' → Calls Try.prog 12 #[.int .i64 D, .slice b U.length d] W' fun e w' => e = .returned (.int .i64 (sI (smallB D U))) ∧ Below W'.heap.size W' w') := Lib.hid fun W' h => small_any D U b d W' (hU.later h)
  have hl := (smallB_iff.1 hs).1.1
  have hr := (smallB_iff.1 hs).2
  have hl2 := (smallB_iff.1 hs2).1.1
  have hr2 := (smallB_iff.1 hs2).2
  have HV1 : Hid (∀ W', Below w.heap.size w W' → Calls Try.prog 15 #[.int .i64 C, .slice a T.length c] W' fun e w' => e = .returned (.bool (vldM C T)) ∧ Below W'.heap.size W' w') := Lib.hid fun W' h => rvalid_any C T a c W' (by omega) (fun l hl => by have := hr l hl; omega) (wf_lo hC) (hT.later h)
  have HV2 : Hid (∀ W', Below w.heap.size w W' → Calls Try.prog 15 #[.int .i64 D, .slice b U.length d] W' fun e w' => e = .returned (.bool (vldM D U)) ∧ Below W'.heap.size W' w') := Lib.hid fun W' h => rvalid_any D U b d W' (by omega) (fun l hl => by have := hr2 l hl; omega) (wf_lo hD) (hU.later h)
  rw [hs, show sI true = 1 from rfl] at HS1
  rw [hs2, show sI true = 1 from rfl] at HS2
  have HH0 : Hid (∀ W', Below w.heap.size w W' → Calls Try.prog 20 #[.agg #[.int .i64 C, .slice a T.length c], .agg #[.int .i64 D, .slice b U.length d]] W' fun e w' => e = .returned (.tuple #[.int .i64 0, .int .i64 1]) ∧ Below W'.heap.size W' w') := Lib.hid fun W' h => hom_bad C D T U a b c d W' (by omega) (fun l hl => by have := hr l hl; omega) (by omega) (fun l hl => by have := hr2 l hl; omega) (wf_lo hC) (wf_lo hD) (hT.later h) (hU.later h) (by rw [hv]; simp)
  rw [hv] at HV1
  clear hs hs2 hT hU hr hr2 hC hD hl hl2
  go_enter Try.func6, Try.ntmps6
  go_wp2_with fail
  refine (awake_any w).mono ?_
  rintro e w1 ⟨rfl, hb⟩
  have H1 := Lib.hid ((HH.start w).call hb)
  clear hb
  go_wp2_with fail
  refine (HS1.out w1 H1.out.below).mono ?_
  rintro e w2 ⟨rfl, hb⟩
  have H2 := Lib.hid (H1.out.call hb)
  clear hb H1
  go_wp2_with fail
  refine (HS2.out w2 H2.out.below).mono ?_
  rintro e w3 ⟨rfl, hb⟩
  have H3 := Lib.hid (H2.out.call hb)
  clear hb H2
  go_wp2_with fail
  refine (matrix_any C T.length a c w3).mono ?_
  rintro e w4 ⟨rfl, hb⟩
  have H4 := Lib.hid (H3.out.call hb)
  clear hb H3
  go_wp2_with fail
  refine (matrix_any D U.length b d w4).mono ?_
  rintro e w5 ⟨rfl, hb⟩
  have H5 := Lib.hid (H4.out.call hb)
  clear hb H4
  go_wp2_with fail
  refine (HH0.out w5 H5.out.below).mono ?_
  rintro e w6 ⟨rfl, hb⟩
  have H6 := Lib.hid (H5.out.call hb)
  clear hb H5
  go_wp2_with fail
  refine (HV1.out w6 H6.out.below).mono ?_
  rintro e w7 ⟨rfl, hb⟩
  have H7 := Lib.hid (H6.out.call hb)
  clear hb H6
  go_wp2_with fail
  go_ret
  exact ⟨rfl, H7.out.below⟩
set_option maxRecDepth 100000 in
set_option maxHeartbeats 4000000 in
theorem lhom_b2 (C : Int) (T : List (List Int)) (a : Option Addr) (c : Nat) (D : Int) (U : List (List Int)) (b : Option Addr) (d : Nat) (w : World) (hs : smallB C T = true) (hs2 : smallB D U = true) (hC : (Lit.int .i64 C).wf = true) (hD : (Lit.int .i64 D).wf = true) (hv : vldM C T = true) (hv2 : vldM D U = false) (hT : TabAt w a T) (hU : TabAt w b U) :
    Calls Try.prog 6 #[.int .i64 C, .slice a T.length c, .int .i64 D, .slice b U.length d] w fun e w' => e = .returned (.bool true) ∧ Below w.heap.size w w' := by
  have HS1 : Hid (∀ W', Below w.heap.size w W' → Calls Try.prog 12 #[.int .i64 C, .slice a T.length c] W' fun e w' => e = .returned (.int .i64 (sI (smallB C T))) ∧ Below W'.heap.size W' w') := Lib.hid fun W' h => small_any C T a c W' (hT.later h)
  have HS2 : Hid (∀ W', Below w.heap.size w W' → Calls Try.prog 12 #[.int .i64 D, .slice b U.length d] W' fun e w' => e = .returned (.int .i64 (sI (smallB D U))) ∧ Below W'.heap.size W' w') := Lib.hid fun W' h => small_any D U b d W' (hU.later h)
  have hl := (smallB_iff.1 hs).1.1
  have hr := (smallB_iff.1 hs).2
  have hl2 := (smallB_iff.1 hs2).1.1
  have hr2 := (smallB_iff.1 hs2).2
  have HV1 : Hid (∀ W', Below w.heap.size w W' → Calls Try.prog 15 #[.int .i64 C, .slice a T.length c] W' fun e w' => e = .returned (.bool (vldM C T)) ∧ Below W'.heap.size W' w') := Lib.hid fun W' h => rvalid_any C T a c W' (by omega) (fun l hl => by have := hr l hl; omega) (wf_lo hC) (hT.later h)
  have HV2 : Hid (∀ W', Below w.heap.size w W' → Calls Try.prog 15 #[.int .i64 D, .slice b U.length d] W' fun e w' => e = .returned (.bool (vldM D U)) ∧ Below W'.heap.size W' w') := Lib.hid fun W' h => rvalid_any D U b d W' (by omega) (fun l hl => by have := hr2 l hl; omega) (wf_lo hD) (hU.later h)
  rw [hs, show sI true = 1 from rfl] at HS1
  rw [hs2, show sI true = 1 from rfl] at HS2
  have HH0 : Hid (∀ W', Below w.heap.size w W' → Calls Try.prog 20 #[.agg #[.int .i64 C, .slice a T.length c], .agg #[.int .i64 D, .slice b U.length d]] W' fun e w' => e = .returned (.tuple #[.int .i64 0, .int .i64 1]) ∧ Below W'.heap.size W' w') := Lib.hid fun W' h => hom_bad C D T U a b c d W' (by omega) (fun l hl => by have := hr l hl; omega) (by omega) (fun l hl => by have := hr2 l hl; omega) (wf_lo hC) (wf_lo hD) (hT.later h) (hU.later h) (by rw [hv2]; simp)
  rw [hv] at HV1
  rw [hv2] at HV2
  clear hs hs2 hT hU hr hr2 hC hD hl hl2
  go_enter Try.func6, Try.ntmps6
  go_wp2_with fail
  refine (awake_any w).mono ?_
  rintro e w1 ⟨rfl, hb⟩
  have H1 := Lib.hid ((HH.start w).call hb)
  clear hb
  go_wp2_with fail
  refine (HS1.out w1 H1.out.below).mono ?_
  rintro e w2 ⟨rfl, hb⟩
  have H2 := Lib.hid (H1.out.call hb)
  clear hb H1
  go_wp2_with fail
  refine (HS2.out w2 H2.out.below).mono ?_
  rintro e w3 ⟨rfl, hb⟩
  have H3 := Lib.hid (H2.out.call hb)
  clear hb H2
  go_wp2_with fail
  refine (matrix_any C T.length a c w3).mono ?_
  rintro e w4 ⟨rfl, hb⟩
  have H4 := Lib.hid (H3.out.call hb)
  clear hb H3
  go_wp2_with fail
  refine (matrix_any D U.length b d w4).mono ?_
  rintro e w5 ⟨rfl, hb⟩
  have H5 := Lib.hid (H4.out.call hb)
  clear hb H4
  go_wp2_with fail
  refine (HH0.out w5 H5.out.below).mono ?_
  rintro e w6 ⟨rfl, hb⟩
  have H6 := Lib.hid (H5.out.call hb)
  clear hb H5
  go_wp2_with fail
  refine (HV1.out w6 H6.out.below).mono ?_
  rintro e w7 ⟨rfl, hb⟩
  have H7 := Lib.hid (H6.out.call hb)
  clear hb H6
  go_wp2_with fail
  refine (HV2.out w7 H7.out.below).mono ?_
  rintro e w8 ⟨rfl, hb⟩
  have H8 := Lib.hid (H7.out.call hb)
  clear hb H7
  go_wp2_with fail
  go_ret
  exact ⟨rfl, H8.out.below⟩
set_option maxRecDepth 100000 in
set_option maxHeartbeats 4000000 in
theorem lhom_n (C : Int) (T : List (List Int)) (a : Option Addr) (c : Nat) (D : Int) (U : List (List Int)) (b : Option Addr) (d : Nat) (w : World) (hs : smallB C T = true) (hs2 : smallB D U = true) (hC : (Lit.int .i64 C).wf = true) (hD : (Lit.int .i64 D).wf = true) (hv : vldM C T = true) (hv2 : vldM D U = true) (n m : Nat) (xs ys : List Nat) (hn : C = (n : Int)) (hx : T = tabN n xs) (hxl : ∀ x ∈ xs, x < 2 ^ n) (hm : D = (m : Int)) (hy : U = tabN m ys) (hyl : ∀ y ∈ ys, y < 2 ^ m) (hne : n ≠ ys.length) (hT : TabAt w a T) (hU : TabAt w b U) :
    Calls Try.prog 6 #[.int .i64 C, .slice a T.length c, .int .i64 D, .slice b U.length d] w fun e w' => e = .returned (.bool true) ∧ Below w.heap.size w w' := by
  have HS1 : Hid (∀ W', Below w.heap.size w W' → Calls Try.prog 12 #[.int .i64 C, .slice a T.length c] W' fun e w' => e = .returned (.int .i64 (sI (smallB C T))) ∧ Below W'.heap.size W' w') := Lib.hid fun W' h => small_any C T a c W' (hT.later h)
  have HS2 : Hid (∀ W', Below w.heap.size w W' → Calls Try.prog 12 #[.int .i64 D, .slice b U.length d] W' fun e w' => e = .returned (.int .i64 (sI (smallB D U))) ∧ Below W'.heap.size W' w') := Lib.hid fun W' h => small_any D U b d W' (hU.later h)
  have hl := (smallB_iff.1 hs).1.1
  have hr := (smallB_iff.1 hs).2
  have hl2 := (smallB_iff.1 hs2).1.1
  have hr2 := (smallB_iff.1 hs2).2
  have HV1 : Hid (∀ W', Below w.heap.size w W' → Calls Try.prog 15 #[.int .i64 C, .slice a T.length c] W' fun e w' => e = .returned (.bool (vldM C T)) ∧ Below W'.heap.size W' w') := Lib.hid fun W' h => rvalid_any C T a c W' (by omega) (fun l hl => by have := hr l hl; omega) (wf_lo hC) (hT.later h)
  have HV2 : Hid (∀ W', Below w.heap.size w W' → Calls Try.prog 15 #[.int .i64 D, .slice b U.length d] W' fun e w' => e = .returned (.bool (vldM D U)) ∧ Below W'.heap.size W' w') := Lib.hid fun W' h => rvalid_any D U b d W' (by omega) (fun l hl => by have := hr2 l hl; omega) (wf_lo hD) (hU.later h)
  rw [hs, show sI true = 1 from rfl] at HS1
  rw [hs2, show sI true = 1 from rfl] at HS2
  rw [hv] at HV1
  rw [hv2] at HV2
  have hn4 : n ≤ 65536 := by have := (vldM_iff.1 hv).1; omega
  have hm4 : m ≤ 65536 := by have := (vldM_iff.1 hv2).1; omega
  subst hn
  subst hm
  subst hx
  subst hy
  rw [tabN_len n xs] at *
  rw [tabN_len m ys] at *
  have HH0 : Hid (∀ W', Below w.heap.size w W' → Calls Try.prog 20 #[.agg #[.int .i64 (n : Int), .slice a xs.length c], .agg #[.int .i64 (m : Int), .slice b ys.length d]] W' fun e w' => e = .returned (.tuple #[.int .i64 0, .int .i64 2]) ∧ Below W'.heap.size W' w') := Lib.hid fun W' h => (hom_any n m xs ys hxl hyl hn4 hm4 (by omega) (by omega) a b c d W' (hT.later h) (hU.later h)).mono fun e w' h => ⟨h.1 hne, h.2.2.2⟩
  have e1 : ((n : Int) != (ys.length : Nat)) = true := by rw [bne, Bool.not_eq_true', beq_eq_false_iff_ne]; omega
  clear hv hv2 hxl hyl
  clear hs hs2 hT hU hr hr2 hC hD hl hl2
  go_enter Try.func6, Try.ntmps6
  go_wp2_with fail
  refine (awake_any w).mono ?_
  rintro e w1 ⟨rfl, hb⟩
  have H1 := Lib.hid ((HH.start w).call hb)
  clear hb
  go_wp2_with fail
  refine (HS1.out w1 H1.out.below).mono ?_
  rintro e w2 ⟨rfl, hb⟩
  have H2 := Lib.hid (H1.out.call hb)
  clear hb H1
  go_wp2_with fail
  refine (HS2.out w2 H2.out.below).mono ?_
  rintro e w3 ⟨rfl, hb⟩
  have H3 := Lib.hid (H2.out.call hb)
  clear hb H2
  go_wp2_with fail
  refine (matrix_any n xs.length a c w3).mono ?_
  rintro e w4 ⟨rfl, hb⟩
  have H4 := Lib.hid (H3.out.call hb)
  clear hb H3
  go_wp2_with fail
  refine (matrix_any m ys.length b d w4).mono ?_
  rintro e w5 ⟨rfl, hb⟩
  have H5 := Lib.hid (H4.out.call hb)
  clear hb H4
  go_wp2_with fail
  refine (HH0.out w5 H5.out.below).mono ?_
  rintro e w6 ⟨rfl, hb⟩
  have H6 := Lib.hid (H5.out.call hb)
  clear hb H5
  go_wp2_with fail
  refine (HV1.out w6 H6.out.below).mono ?_
  rintro e w7 ⟨rfl, hb⟩
  have H7 := Lib.hid (H6.out.call hb)
  clear hb H6
  go_wp2_with fail
  refine (HV2.out w7 H7.out.below).mono ?_
  rintro e w8 ⟨rfl, hb⟩
  have H8 := Lib.hid (H7.out.call hb)
  clear hb H7
  go_wp2_with fail
  go_ret
  exact ⟨rfl, H8.out.below⟩
set_option maxRecDepth 100000 in
set_option maxHeartbeats 4000000 in
theorem lhom_x (C : Int) (T : List (List Int)) (a : Option Addr) (c : Nat) (D : Int) (U : List (List Int)) (b : Option Addr) (d : Nat) (w : World) (hs : smallB C T = true) (hs2 : smallB D U = true) (hC : (Lit.int .i64 C).wf = true) (hD : (Lit.int .i64 D).wf = true) (hv : vldM C T = true) (hv2 : vldM D U = true) (n m : Nat) (xs ys : List Nat) (hn : C = (n : Int)) (hx : T = tabN n xs) (hxl : ∀ x ∈ xs, x < 2 ^ n) (hm : D = (m : Int)) (hy : U = tabN m ys) (hyl : ∀ y ∈ ys, y < 2 ^ m) (heq : n = ys.length) (hz : ∃ x ∈ xs, mulN ys n x ≠ 0) (hT : TabAt w a T) (hU : TabAt w b U) :
    Calls Try.prog 6 #[.int .i64 C, .slice a T.length c, .int .i64 D, .slice b U.length d] w fun e w' => e = .returned (.bool true) ∧ Below w.heap.size w w' := by
  have HS1 : Hid (∀ W', Below w.heap.size w W' → Calls Try.prog 12 #[.int .i64 C, .slice a T.length c] W' fun e w' => e = .returned (.int .i64 (sI (smallB C T))) ∧ Below W'.heap.size W' w') := Lib.hid fun W' h => small_any C T a c W' (hT.later h)
  have HS2 : Hid (∀ W', Below w.heap.size w W' → Calls Try.prog 12 #[.int .i64 D, .slice b U.length d] W' fun e w' => e = .returned (.int .i64 (sI (smallB D U))) ∧ Below W'.heap.size W' w') := Lib.hid fun W' h => small_any D U b d W' (hU.later h)
  have hl := (smallB_iff.1 hs).1.1
  have hr := (smallB_iff.1 hs).2
  have hl2 := (smallB_iff.1 hs2).1.1
  have hr2 := (smallB_iff.1 hs2).2
  have HV1 : Hid (∀ W', Below w.heap.size w W' → Calls Try.prog 15 #[.int .i64 C, .slice a T.length c] W' fun e w' => e = .returned (.bool (vldM C T)) ∧ Below W'.heap.size W' w') := Lib.hid fun W' h => rvalid_any C T a c W' (by omega) (fun l hl => by have := hr l hl; omega) (wf_lo hC) (hT.later h)
  have HV2 : Hid (∀ W', Below w.heap.size w W' → Calls Try.prog 15 #[.int .i64 D, .slice b U.length d] W' fun e w' => e = .returned (.bool (vldM D U)) ∧ Below W'.heap.size W' w') := Lib.hid fun W' h => rvalid_any D U b d W' (by omega) (fun l hl => by have := hr2 l hl; omega) (wf_lo hD) (hU.later h)
  rw [hs, show sI true = 1 from rfl] at HS1
  rw [hs2, show sI true = 1 from rfl] at HS2
  rw [hv] at HV1
  rw [hv2] at HV2
  have hn4 : n ≤ 65536 := by have := (vldM_iff.1 hv).1; omega
  have hm4 : m ≤ 65536 := by have := (vldM_iff.1 hv2).1; omega
  subst hn
  subst hm
  subst hx
  subst hy
  rw [tabN_len n xs] at *
  rw [tabN_len m ys] at *
  have HH0 : Hid (∀ W', Below w.heap.size w W' → Calls Try.prog 20 #[.agg #[.int .i64 (n : Int), .slice a xs.length c], .agg #[.int .i64 (m : Int), .slice b ys.length d]] W' fun e w' => e = .returned (.tuple #[.int .i64 0, .int .i64 10]) ∧ Below W'.heap.size W' w') := Lib.hid fun W' h => (hom_any n m xs ys hxl hyl hn4 hm4 (by omega) (by omega) a b c d W' (hT.later h) (hU.later h)).mono fun e w' h => ⟨h.2.1 heq hz, h.2.2.2⟩
  have HD1 : Hid (∀ W', Below w.heap.size w W' → Calls Try.prog 18 #[.int .i64 (n : Int), .slice a xs.length c] W' fun e w' => ∃ A E, e = .returned (.slice A xs.length E) ∧ BTabAt w' A n xs ∧ Below W'.heap.size W' w') := Lib.hid fun W' h => dense_any n xs hxl hn4 (by omega) a c W' (hT.later h)
  have HD2 : Hid (∀ W', Below w.heap.size w W' → Calls Try.prog 18 #[.int .i64 (m : Int), .slice b ys.length d] W' fun e w' => ∃ A E, e = .returned (.slice A ys.length E) ∧ BTabAt w' A m ys ∧ Below W'.heap.size W' w') := Lib.hid fun W' h => dense_any m ys hyl hm4 (by omega) b d W' (hU.later h)
  have HM : Hid (∀ (A B : Option Addr) (E G : Nat) W', BTabAt W' A n xs → BTabAt W' B m ys → Calls Try.prog 22 #[.slice A xs.length E, .slice B ys.length G, .int .i64 (m : Int)] W' fun e w' => ∃ A E, e = .returned (.slice A (xs.map (mulN ys n)).length E) ∧ BTabAt w' A m (xs.map (mulN ys n)) ∧ Below W'.heap.size W' w') := Lib.hid fun A B E G W' h1 h2 => by
    rw [List.length_map, heq]
    exact rmul_any ys.length m xs ys rfl hm4 (by omega) (by omega) A B E G W' (by rw [← heq]; exact h1) h2
  have HZS : Hid (∀ (A : Option Addr) (E : Nat) W', BTabAt W' A m (xs.map (mulN ys n)) → Calls Try.prog 21 #[.slice A (xs.map (mulN ys n)).length E] W' fun e w' => ∃ A E, e = .returned (.slice A (xs.map (mulN ys n)).length E) ∧ TabAt w' A (tabN m (xs.map (mulN ys n))) ∧ Below W'.heap.size W' w') := Lib.hid fun A E W' h => sparse_any m (xs.map (mulN ys n)) hm4 (by rw [List.length_map]; omega) A E W' h
  have HZL : Hid (∀ i, (xs.map (mulN ys n)).getD i 0 < 2 ^ m) := Lib.hid fun i => getD_lt (fun z hz => by
    obtain ⟨x, _, rfl⟩ := List.mem_map.1 hz
    exact mulN_lt hyl n x) i
  have hzl : (xs.map (mulN ys n)).length ≤ 30 := by rw [List.length_map]; exact hl
  have HNALL : Hid (¬ ∀ j, j < (xs.map (mulN ys n)).length → (xs.map (mulN ys n)).getD j 0 = 0) := Lib.hid fun h => by
    obtain ⟨x, hx, hne⟩ := hz
    obtain ⟨j, hj, he⟩ := mem_getD (List.mem_map.2 ⟨x, hx, rfl⟩ : mulN ys n x ∈ xs.map (mulN ys n))
    exact hne (he ▸ h j hj)
  have e1 : ((n : Int) != (ys.length : Nat)) = false := by rw [heq]; simp
  clear hv hv2 hxl hyl hz heq
  clear hs hs2 hT hU hr hr2 hC hD hl2
  generalize xs.map (mulN ys n) = zs at *
  go_enter Try.func6, Try.ntmps6
  go_wp2_with fail
  refine (awake_any w).mono ?_
  rintro e w1 ⟨rfl, hb⟩
  have H1 := Lib.hid ((HH.start w).call hb)
  clear hb
  go_wp2_with fail
  refine (HS1.out w1 H1.out.below).mono ?_
  rintro e w2 ⟨rfl, hb⟩
  have H2 := Lib.hid (H1.out.call hb)
  clear hb H1
  go_wp2_with fail
  refine (HS2.out w2 H2.out.below).mono ?_
  rintro e w3 ⟨rfl, hb⟩
  have H3 := Lib.hid (H2.out.call hb)
  clear hb H2
  go_wp2_with fail
  refine (matrix_any n xs.length a c w3).mono ?_
  rintro e w4 ⟨rfl, hb⟩
  have H4 := Lib.hid (H3.out.call hb)
  clear hb H3
  go_wp2_with fail
  refine (matrix_any m ys.length b d w4).mono ?_
  rintro e w5 ⟨rfl, hb⟩
  have H5 := Lib.hid (H4.out.call hb)
  clear hb H4
  go_wp2_with fail
  refine (HH0.out w5 H5.out.below).mono ?_
  rintro e w6 ⟨rfl, hb⟩
  have H6 := Lib.hid (H5.out.call hb)
  clear hb H5
  go_wp2_with fail
  refine (HV1.out w6 H6.out.below).mono ?_
  rintro e w7 ⟨rfl, hb⟩
  have H7 := Lib.hid (H6.out.call hb)
  clear hb H6
  go_wp2_with fail
  refine (HV2.out w7 H7.out.below).mono ?_
  rintro e w8 ⟨rfl, hb⟩
  have H8 := Lib.hid (H7.out.call hb)
  clear hb H7
  go_wp2_with fail
  refine (HD1.out w8 H8.out.below).mono ?_
  rintro e w9 ⟨A, E, rfl, hbt, hb⟩
  have H9 := Lib.hid (H8.out.call hb)
  have Hbt1 := Lib.hid hbt
  clear hb hbt H8 HD1
  go_wp2_with fail
  refine (HD2.out w9 H9.out.below).mono ?_
  rintro e w10 ⟨B, G, rfl, hbt, hb⟩
  have H10 := Lib.hid (H9.out.call hb)
  have Hbt2 := Lib.hid hbt
  replace Hbt1 := Lib.hid (Hbt1.out.later hb)
  clear hb hbt H9 HD2
  go_wp2_with fail
  refine (HM.out A B E G w10 Hbt1.out Hbt2.out).mono ?_
  rintro e w11 ⟨A3, E3, rfl, hbt, hb⟩
  have H11 := Lib.hid (H10.out.call hb)
  have Hbt3 := Lib.hid hbt
  replace Hbt1 := Lib.hid (Hbt1.out.later hb)
  replace Hbt2 := Lib.hid (Hbt2.out.later hb)
  clear hb hbt H10 HM
  go_wp2_with fail
  refine (HZS.out A3 E3 w11 Hbt3.out).mono ?_
  rintro e w12 ⟨A4, E4, rfl, hbt, hb⟩
  have H12 := Lib.hid (H11.out.call hb)
  have Hbt4 := Lib.hid hbt
  replace Hbt1 := Lib.hid (Hbt1.out.later hb)
  replace Hbt2 := Lib.hid (Hbt2.out.later hb)
  clear hb hbt H11 HZS Hbt3
  go_wp2_with fail
  go_loopg [78] zs.length (fun g v wr => ∃ i : Nat, i ≤ zs.length ∧ g = zs.length - i ∧ v = .int .i64 i ∧ wr = w12 ∧ ∀ j, j < i → zs.getD j 0 = 0)
  case atStart => exact ⟨0, Nat.zero_le _, rfl, rfl, rfl, fun j h => absurd h (Nat.not_lt_zero j)⟩
  case round =>
    obtain ⟨i, hi, rfl, rfl, rfl, hz⟩ := hrel
    have Hz := Lib.hid hz
    clear hz
    by_cases hil : i < zs.length
    · obtain ⟨b1, o1, a', c', rfl, _, hrow⟩ := Hbt4.out.rowAt (tabN_get hil)
      have hc1 := (hrow wr (Below.refl _ _)).1
      clear hrow
      by_cases hz0 : zs.getD i 0 = 0
      · rw [hz0, rowOf_zero] at hc1
        have Hz2 : Hid (∀ j, j < i + 1 → zs.getD j 0 = 0) := Lib.hid fun j hj => by
          by_cases e : j = i
          · rw [e]; exact hz0
          · exact Hz.out j (by omega)
        have hc2 : wr.cell? ⟨b1, o1 + i, none⟩ = some (.slice a' 0 c') := hc1
        clear hz0 hc1
        go_wp2_with fail
        go_roundg (zs.length - (i + 1))
        case measure => omega
        case rel => exact ⟨i + 1, by omega, rfl, by go_num, rfl, Hz2.out⟩
      · have hpos : 0 < (rowOf m (zs.getD i 0)).length := List.length_pos_iff.2 fun e => hz0 ((rowOf_nil (HZL.out i)).1 e)
        have hle : (rowOf m (zs.getD i 0)).length ≤ 65536 := Nat.le_trans (rowOf_len _ _) hm4
        clear hz0
        generalize (rowOf m (zs.getD i 0)).length = rl at *
        go_wp2_with fail
        go_ret
        exact ⟨rfl, H12.out.below⟩
    · obtain rfl : i = zs.length := by omega
      exact absurd Hz.out HNALL.out
set_option maxRecDepth 100000 in
set_option maxHeartbeats 4000000 in
theorem lhom_z (C : Int) (T : List (List Int)) (a : Option Addr) (c : Nat) (D : Int) (U : List (List Int)) (b : Option Addr) (d : Nat) (w : World) (hs : smallB C T = true) (hs2 : smallB D U = true) (hC : (Lit.int .i64 C).wf = true) (hD : (Lit.int .i64 D).wf = true) (hv : vldM C T = true) (hv2 : vldM D U = true) (n m : Nat) (xs ys : List Nat) (hn : C = (n : Int)) (hx : T = tabN n xs) (hxl : ∀ x ∈ xs, x < 2 ^ n) (hm : D = (m : Int)) (hy : U = tabN m ys) (hyl : ∀ y ∈ ys, y < 2 ^ m) (heq : n = ys.length) (hz : ∀ x ∈ xs, mulN ys n x = 0) (hT : TabAt w a T) (hU : TabAt w b U) :
    Calls Try.prog 6 #[.int .i64 C, .slice a T.length c, .int .i64 D, .slice b U.length d] w fun e w' => e = .returned (.bool true) ∧ Below w.heap.size w w' := by
  have HS1 : Hid (∀ W', Below w.heap.size w W' → Calls Try.prog 12 #[.int .i64 C, .slice a T.length c] W' fun e w' => e = .returned (.int .i64 (sI (smallB C T))) ∧ Below W'.heap.size W' w') := Lib.hid fun W' h => small_any C T a c W' (hT.later h)
  have HS2 : Hid (∀ W', Below w.heap.size w W' → Calls Try.prog 12 #[.int .i64 D, .slice b U.length d] W' fun e w' => e = .returned (.int .i64 (sI (smallB D U))) ∧ Below W'.heap.size W' w') := Lib.hid fun W' h => small_any D U b d W' (hU.later h)
  have hl := (smallB_iff.1 hs).1.1
  have hr := (smallB_iff.1 hs).2
  have hl2 := (smallB_iff.1 hs2).1.1
  have hr2 := (smallB_iff.1 hs2).2
  have HV1 : Hid (∀ W', Below w.heap.size w W' → Calls Try.prog 15 #[.int .i64 C, .slice a T.length c] W' fun e w' => e = .returned (.bool (vldM C T)) ∧ Below W'.heap.size W' w') := Lib.hid fun W' h => rvalid_any C T a c W' (by omega) (fun l hl => by have := hr l hl; omega) (wf_lo hC) (hT.later h)
  have HV2 : Hid (∀ W', Below w.heap.size w W' → Calls Try.prog 15 #[.int .i64 D, .slice b U.length d] W' fun e w' => e = .returned (.bool (vldM D U)) ∧ Below W'.heap.size W' w') := Lib.hid fun W' h => rvalid_any D U b d W' (by omega) (fun l hl => by have := hr2 l hl; omega) (wf_lo hD) (hU.later h)
  rw [hs, show sI true = 1 from rfl] at HS1
  rw [hs2, show sI true = 1 from rfl] at HS2
  rw [hv] at HV1
  rw [hv2] at HV2
  have hn4 : n ≤ 65536 := by have := (vldM_iff.1 hv).1; omega
  have hm4 : m ≤ 65536 := by have := (vldM_iff.1 hv2).1; omega
  subst hn
  subst hm
  subst hx
  subst hy
  rw [tabN_len n xs] at *
  rw [tabN_len m ys] at *
  have HH0 : Hid (∀ W', Below w.heap.size w W' → Calls Try.prog 20 #[.agg #[.int .i64 (n : Int), .slice a xs.length c], .agg #[.int .i64 (m : Int), .slice b ys.length d]] W' fun e w' => e = .returned (.tuple #[.int .i64 ((n : Int) - (rk xs : Nat) - (rk ys : Nat)), .int .i64 0]) ∧ Below W'.heap.size W' w') := Lib.hid fun W' h => (hom_any n m xs ys hxl hyl hn4 hm4 (by omega) (by omega) a b c d W' (hT.later h) (hU.later h)).mono fun e w' h => ⟨h.2.2.1 heq hz, h.2.2.2⟩
  have HD1 : Hid (∀ W', Below w.heap.size w W' → Calls Try.prog 18 #[.int .i64 (n : Int), .slice a xs.length c] W' fun e w' => ∃ A E, e = .returned (.slice A xs.length E) ∧ BTabAt w' A n xs ∧ Below W'.heap.size W' w') := Lib.hid fun W' h => dense_any n xs hxl hn4 (by omega) a c W' (hT.later h)
  have HD2 : Hid (∀ W', Below w.heap.size w W' → Calls Try.prog 18 #[.int .i64 (m : Int), .slice b ys.length d] W' fun e w' => ∃ A E, e = .returned (.slice A ys.length E) ∧ BTabAt w' A m ys ∧ Below W'.heap.size W' w') := Lib.hid fun W' h => dense_any m ys hyl hm4 (by omega) b d W' (hU.later h)
  have HM : Hid (∀ (A B : Option Addr) (E G : Nat) W', BTabAt W' A n xs → BTabAt W' B m ys → Calls Try.prog 22 #[.slice A xs.length E, .slice B ys.length G, .int .i64 (m : Int)] W' fun e w' => ∃ A E, e = .returned (.slice A (xs.map (mulN ys n)).length E) ∧ BTabAt w' A m (xs.map (mulN ys n)) ∧ Below W'.heap.size W' w') := Lib.hid fun A B E G W' h1 h2 => by
    rw [List.length_map, heq]
    exact rmul_any ys.length m xs ys rfl hm4 (by omega) (by omega) A B E G W' (by rw [← heq]; exact h1) h2
  have HZS : Hid (∀ (A : Option Addr) (E : Nat) W', BTabAt W' A m (xs.map (mulN ys n)) → Calls Try.prog 21 #[.slice A (xs.map (mulN ys n)).length E] W' fun e w' => ∃ A E, e = .returned (.slice A (xs.map (mulN ys n)).length E) ∧ TabAt w' A (tabN m (xs.map (mulN ys n))) ∧ Below W'.heap.size W' w') := Lib.hid fun A E W' h => sparse_any m (xs.map (mulN ys n)) hm4 (by rw [List.length_map]; omega) A E W' h
  have HZL : Hid (∀ i, (xs.map (mulN ys n)).getD i 0 < 2 ^ m) := Lib.hid fun i => getD_lt (fun z hz => by
    obtain ⟨x, _, rfl⟩ := List.mem_map.1 hz
    exact mulN_lt hyl n x) i
  have hzl : (xs.map (mulN ys n)).length ≤ 30 := by rw [List.length_map]; exact hl
  have HALL : Hid (∀ j, j < (xs.map (mulN ys n)).length → (xs.map (mulN ys n)).getD j 0 = 0) := Lib.hid fun j hj => by
    obtain ⟨x, hx, he⟩ := List.mem_map.1 (getD_mem hj)
    rw [← he]; exact hz x hx
  have HR1 : Hid (∀ (A : Option Addr) (E : Nat) W', BTabAt W' A n xs → Calls Try.prog 17 #[.int .i64 (n : Int), .slice A xs.length E] W' fun e w' => e = .returned (.int .i64 (rk xs : Nat)) ∧ Below W'.heap.size W' w') := Lib.hid fun A E W' h => rrank_any n xs hxl hn4 (by omega) A E W' h
  have HR2 : Hid (∀ (A : Option Addr) (E : Nat) W', BTabAt W' A m ys → Calls Try.prog 17 #[.int .i64 (m : Int), .slice A ys.length E] W' fun e w' => e = .returned (.int .i64 (rk ys : Nat)) ∧ Below W'.heap.size W' w') := Lib.hid fun A E W' h => rrank_any m ys hyl hm4 (by omega) A E W' h
  have hrk : rk xs + rk ys ≤ n := rk_ker_le heq hxl hz
  generalize rk xs = r1 at *
  generalize rk ys = r2 at *
  have d1 : decide ((r2 : Int) ≤ (n : Int) - (r1 : Int)) = true := decide_eq_true (by omega)
  have e1 : ((n : Int) != (ys.length : Nat)) = false := by rw [heq]; simp
  clear hv hv2 hxl hyl hz heq
  clear hs hs2 hT hU hr hr2 hC hD hl2
  generalize xs.map (mulN ys n) = zs at *
  go_enter Try.func6, Try.ntmps6
  go_wp2_with fail
  refine (awake_any w).mono ?_
  rintro e w1 ⟨rfl, hb⟩
  have H1 := Lib.hid ((HH.start w).call hb)
  clear hb
  go_wp2_with fail
  refine (HS1.out w1 H1.out.below).mono ?_
  rintro e w2 ⟨rfl, hb⟩
  have H2 := Lib.hid (H1.out.call hb)
  clear hb H1
  go_wp2_with fail
  refine (HS2.out w2 H2.out.below).mono ?_
  rintro e w3 ⟨rfl, hb⟩
  have H3 := Lib.hid (H2.out.call hb)
  clear hb H2
  go_wp2_with fail
  refine (matrix_any n xs.length a c w3).mono ?_
  rintro e w4 ⟨rfl, hb⟩
  have H4 := Lib.hid (H3.out.call hb)
  clear hb H3
  go_wp2_with fail
  refine (matrix_any m ys.length b d w4).mono ?_
  rintro e w5 ⟨rfl, hb⟩
  have H5 := Lib.hid (H4.out.call hb)
  clear hb H4
  go_wp2_with fail
  refine (HH0.out w5 H5.out.below).mono ?_
  rintro e w6 ⟨rfl, hb⟩
  have H6 := Lib.hid (H5.out.call hb)
  clear hb H5
  go_wp2_with fail
  refine (HV1.out w6 H6.out.below).mono ?_
  rintro e w7 ⟨rfl, hb⟩
  have H7 := Lib.hid (H6.out.call hb)
  clear hb H6
  go_wp2_with fail
  refine (HV2.out w7 H7.out.below).mono ?_
  rintro e w8 ⟨rfl, hb⟩
  have H8 := Lib.hid (H7.out.call hb)
  clear hb H7
  go_wp2_with fail
  refine (HD1.out w8 H8.out.below).mono ?_
  rintro e w9 ⟨A, E, rfl, hbt, hb⟩
  have H9 := Lib.hid (H8.out.call hb)
  have Hbt1 := Lib.hid hbt
  clear hb hbt H8 HD1
  go_wp2_with fail
  refine (HD2.out w9 H9.out.below).mono ?_
  rintro e w10 ⟨B, G, rfl, hbt, hb⟩
  have H10 := Lib.hid (H9.out.call hb)
  have Hbt2 := Lib.hid hbt
  replace Hbt1 := Lib.hid (Hbt1.out.later hb)
  clear hb hbt H9 HD2
  go_wp2_with fail
  refine (HM.out A B E G w10 Hbt1.out Hbt2.out).mono ?_
  rintro e w11 ⟨A3, E3, rfl, hbt, hb⟩
  have H11 := Lib.hid (H10.out.call hb)
  have Hbt3 := Lib.hid hbt
  replace Hbt1 := Lib.hid (Hbt1.out.later hb)
  replace Hbt2 := Lib.hid (Hbt2.out.later hb)
  clear hb hbt H10 HM
  go_wp2_with fail
  refine (HZS.out A3 E3 w11 Hbt3.out).mono ?_
  rintro e w12 ⟨A4, E4, rfl, hbt, hb⟩
  have H12 := Lib.hid (H11.out.call hb)
  have Hbt4 := Lib.hid hbt
  replace Hbt1 := Lib.hid (Hbt1.out.later hb)
  replace Hbt2 := Lib.hid (Hbt2.out.later hb)
  clear hb hbt H11 HZS Hbt3
  go_wp2_with fail
  go_loopg [78] zs.length (fun g v wr => ∃ i : Nat, i ≤ zs.length ∧ g = zs.length - i ∧ v = .int .i64 i ∧ wr = w12 ∧ ∀ j, j < i → zs.getD j 0 = 0)
  case atStart => exact ⟨0, Nat.zero_le _, rfl, rfl, rfl, fun j h => absurd h (Nat.not_lt_zero j)⟩
  case round =>
    obtain ⟨i, hi, rfl, rfl, rfl, hz⟩ := hrel
    have Hz := Lib.hid hz
    clear hz
    by_cases hil : i < zs.length
    · obtain ⟨b1, o1, a', c', rfl, _, hrow⟩ := Hbt4.out.rowAt (tabN_get hil)
      have hc1 := (hrow wr (Below.refl _ _)).1
      clear hrow
      by_cases hz0 : zs.getD i 0 = 0
      · rw [hz0, rowOf_zero] at hc1
        have Hz2 : Hid (∀ j, j < i + 1 → zs.getD j 0 = 0) := Lib.hid fun j hj => by
          by_cases e : j = i
          · rw [e]; exact hz0
          · exact Hz.out j (by omega)
        have hc2 : wr.cell? ⟨b1, o1 + i, none⟩ = some (.slice a' 0 c') := hc1
        clear hz0 hc1
        go_wp2_with fail
        go_roundg (zs.length - (i + 1))
        case measure => omega
        case rel => exact ⟨i + 1, by omega, rfl, by go_num, rfl, Hz2.out⟩
      · exact absurd (HALL.out i hil) hz0
    · obtain rfl : i = zs.length := by omega
      go_wp2_with fail
      refine (HR1.out A E wr Hbt1.out).mono ?_
      rintro e w13 ⟨rfl, hb⟩
      have H13 := Lib.hid (H12.out.call hb)
      replace Hbt2 := Lib.hid (Hbt2.out.later hb)
      clear hb H12 HR1
      go_wp2_with fail
      refine (HR2.out B G w13 Hbt2.out).mono ?_
      rintro e w14 ⟨rfl, hb⟩
      have H14 := Lib.hid (H13.out.call hb)
      clear hb H13 HR2
      go_wp2_with fail
      go_ret
      exact ⟨rfl, H14.out.below⟩
theorem lhom_any (C : Int) (T : List (List Int)) (a : Option Addr) (c : Nat) (D : Int) (U : List (List Int)) (b : Option Addr) (d : Nat) (w : World) (hC : (Lit.int .i64 C).wf = true) (hT : TabAt w a T) (hD : (Lit.int .i64 D).wf = true) (hU : TabAt w b U) :
    Calls Try.prog 6 #[.int .i64 C, .slice a T.length c, .int .i64 D, .slice b U.length d] w fun e w' => e = .returned (.bool true) ∧ Below w.heap.size w w' := by
  by_cases hs : smallB C T = true
  · by_cases hs2 : smallB D U = true
    · by_cases hv : vldM C T = true
      · by_cases hv2 : vldM D U = true
        · obtain ⟨n, xs, h1, h2, _, _, h3⟩ := vld_tab hv
          obtain ⟨m, ys, k1, k2, _, _, k3⟩ := vld_tab hv2
          by_cases heq : n = ys.length
          · by_cases hz : ∃ x ∈ xs, mulN ys n x ≠ 0
            · exact lhom_x C T a c D U b d w hs hs2 hC hD hv hv2 n m xs ys h1 h2 h3 k1 k2 k3 heq hz hT hU
            · exact lhom_z C T a c D U b d w hs hs2 hC hD hv hv2 n m xs ys h1 h2 h3 k1 k2 k3 heq (fun x hx => Decidable.byContradiction fun h => hz ⟨x, hx, h⟩) hT hU
          · exact lhom_n C T a c D U b d w hs hs2 hC hD hv hv2 n m xs ys h1 h2 h3 k1 k2 k3 heq hT hU
        · exact lhom_b2 C T a c D U b d w hs hs2 hC hD hv (Bool.eq_false_iff.2 hv2) hT hU
      · exact lhom_b1 C T a c D U b d w hs hs2 hC hD (Bool.eq_false_iff.2 hv) hT hU
    · exact lhom_s2 C T a c D U b d w hs (Bool.eq_false_iff.2 hs2) hT hU
  · exact lhom_s1 C T a c D U b d w (Bool.eq_false_iff.2 hs) hT hU
end Go.Proofs.Ytlgiponfcmeiiaa
