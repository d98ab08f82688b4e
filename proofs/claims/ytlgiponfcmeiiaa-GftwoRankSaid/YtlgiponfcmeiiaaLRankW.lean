/- The walk of the law GftwoRank. -/
import Derived.Test.YtlgiponfcmeiiaaRrW
import Derived.Test.YtlgiponfcmeiiaaRankW
import Derived.Test.YtlgiponfcmeiiaaSpanW
namespace Go.Proofs.Ytlgiponfcmeiiaa
open Go Go.RowKit
set_option maxRecDepth 100000 in
set_option maxHeartbeats 4000000 in
theorem grank_small (C : Int) (T : List (List Int)) (a : Option Addr) (c : Nat) (w : World) (hs : smallB C T = false) (hT : TabAt w a T) :
    Calls Try.prog 3 #[.int .i64 C, .slice a T.length c] w fun e w' => e = .returned (.bool true) ∧ Below w.heap.size w w' := by
  have HSm : Hid (∀ W', Below w.heap.size w W' → Calls Try.prog 12 #[.int .i64 C, .slice a T.length c] W' fun e w' => e = .returned (.int .i64 (sI (smallB C T))) ∧ Below W'.heap.size W' w') := Lib.hid fun W' h => small_any C T a c W' (hT.later h)
  rw [hs, show sI false = 0 from rfl] at HSm
  clear hs hT
  go_enter Try.func3, Try.ntmps3
  go_wp2_with fail
  refine (awake_any w).mono ?_
  rintro e w1 ⟨rfl, hb⟩
  have H1 := Lib.hid ((HH.start w).call hb)
  clear hb
  go_wp2_with fail
  refine (HSm.out w1 H1.out.below).mono ?_
  rintro e w2 ⟨rfl, hb⟩
  have H2 := Lib.hid (H1.out.call hb)
  clear hb H1 HSm
  go_wp2_with fail
  go_ret
  exact ⟨rfl, H2.out.below⟩
set_option maxRecDepth 100000 in
set_option maxHeartbeats 4000000 in
theorem grank_bad (C : Int) (T : List (List Int)) (a : Option Addr) (c : Nat) (w : World) (hs : smallB C T = true) (hC : (Lit.int .i64 C).wf = true) (hv : vldM C T = false) (hT : TabAt w a T) :
    Calls Try.prog 3 #[.int .i64 C, .slice a T.length c] w fun e w' => e = .returned (.bool true) ∧ Below w.heap.size w w' := by
  have HSm : Hid (∀ W', Below w.heap.size w W' → Calls Try.prog 12 #[.int .i64 C, .slice a T.length c] W' fun e w' => e = .returned (.int .i64 (sI (smallB C T))) ∧ Below W'.heap.size W' w') := Lib.hid fun W' h => small_any C T a c W' (hT.later h)
  have hl := (smallB_iff.1 hs).1.1
  have hr := (smallB_iff.1 hs).2
  have HV : Hid (∀ W', Below w.heap.size w W' → Calls Try.prog 16 #[.agg #[.int .i64 C, .slice a T.length c]] W' fun e w' => e = .returned (.bool (vldM C T)) ∧ Below W'.heap.size W' w') := Lib.hid fun W' h => valid_any C T a c W' (by omega) (fun l hl => by have := hr l hl; omega) (wf_lo hC) (hT.later h)
  have HRv : Hid (∀ W', Below w.heap.size w W' → Calls Try.prog 15 #[.int .i64 C, .slice a T.length c] W' fun e w' => e = .returned (.bool (vldM C T)) ∧ Below W'.heap.size W' w') := Lib.hid fun W' h => (rvalid_any C T a c W' (by omega) (fun l hl => by have := hr l hl; omega) (wf_lo hC) (hT.later h)).mono fun e w' he => he
  rw [hs, show sI true = 1 from rfl] at HSm
  rw [hv] at HV HRv
  have HRk : Hid (∀ W', Below w.heap.size w W' → Calls Try.prog 14 #[.agg #[.int .i64 C, .slice a T.length c]] W' fun e w' => e = .returned (.tuple #[.int .i64 0, .int .i64 1]) ∧ Below W'.heap.size W' w') := Lib.hid fun W' h => rank_no C T a c W' (by omega) (fun l hl => by have := hr l hl; omega) (wf_lo hC) (hT.later h) hv
  clear hs hT hr hC hv hl
  go_enter Try.func3, Try.ntmps3
  go_wp2_with fail
  refine (awake_any w).mono ?_
  rintro e w1 ⟨rfl, hb⟩
  have H1 := Lib.hid ((HH.start w).call hb)
  clear hb
  go_wp2_with fail
  refine (HSm.out w1 H1.out.below).mono ?_
  rintro e w2 ⟨rfl, hb⟩
  have H2 := Lib.hid (H1.out.call hb)
  clear hb H1 HSm
  go_wp2_with fail
  refine (matrix_any C T.length a c w2).mono ?_
  rintro e w3 ⟨rfl, hb⟩
  have H3 := Lib.hid (H2.out.call hb)
  clear hb H2
  go_wp2_with fail
  obtain ⟨v3, hv3⟩ : ∃ x, x = w3.alloc (.cells #[.int .i64 C, .slice a T.length c] 26) := ⟨_, rfl⟩
  rw [← hv3]
  have h4 : HH w v3 [(w3.heap.size, rowO 26 [.int .i64 C, .slice a T.length c])] [] := by rw [hv3]; exact H3.out.alloc #[.int .i64 C, .slice a T.length c] 26 rfl rfl
  have H4 := Lib.hid h4
  generalize w3.heap.size = q at *
  clear hv3 h4 H3
  refine (HRk.out v3 H4.out.below).mono ?_
  rintro e w4 ⟨rfl, hb⟩
  have H5 := Lib.hid (H4.out.call hb)
  clear hb H4 HRk
  go_wp2_with fail
  refine (HRv.out w4 H5.out.below).mono ?_
  rintro e w5 ⟨rfl, hb⟩
  have H6 := Lib.hid (H5.out.call hb)
  clear hb H5 HRv
  have hc0_0 := H6.out.cell (k := 0) (i := 0) rfl rfl
  have hc0_1 := H6.out.cell (k := 0) (i := 1) rfl rfl
  go_wp2_with fail
  refine (HV.out w5 H6.out.below).mono ?_
  rintro e w6 ⟨rfl, hb⟩
  have H7 := Lib.hid (H6.out.call hb)
  clear hb H6 HV hc0_0 hc0_1
  go_wp2_with fail
  go_ret
  exact ⟨rfl, H7.out.below⟩
set_option maxRecDepth 100000 in
set_option maxHeartbeats 4000000 in
theorem grank_good (C : Int) (T : List (List Int)) (a : Option Addr) (c : Nat) (w : World) (xs : List Nat) (n : Nat) (hs : smallB C T = true) (hC : (Lit.int .i64 C).wf = true) (hv : vldM C T = true) (hn : C = (n : Int)) (hx : T = tabN n xs) (hlt : ∀ x ∈ xs, x < 2 ^ n) (hT : TabAt w a T) :
    Calls Try.prog 3 #[.int .i64 C, .slice a T.length c] w fun e w' => e = .returned (.bool true) ∧ Below w.heap.size w w' := by
  have HSm : Hid (∀ W', Below w.heap.size w W' → Calls Try.prog 12 #[.int .i64 C, .slice a T.length c] W' fun e w' => e = .returned (.int .i64 (sI (smallB C T))) ∧ Below W'.heap.size W' w') := Lib.hid fun W' h => small_any C T a c W' (hT.later h)
  have hl := (smallB_iff.1 hs).1.1
  have hr := (smallB_iff.1 hs).2
  have HV : Hid (∀ W', Below w.heap.size w W' → Calls Try.prog 16 #[.agg #[.int .i64 C, .slice a T.length c]] W' fun e w' => e = .returned (.bool (vldM C T)) ∧ Below W'.heap.size W' w') := Lib.hid fun W' h => valid_any C T a c W' (by omega) (fun l hl => by have := hr l hl; omega) (wf_lo hC) (hT.later h)
  have HRv : Hid (∀ W', Below w.heap.size w W' → Calls Try.prog 15 #[.int .i64 C, .slice a T.length c] W' fun e w' => e = .returned (.bool (vldM C T)) ∧ Below W'.heap.size W' w') := Lib.hid fun W' h => (rvalid_any C T a c W' (by omega) (fun l hl => by have := hr l hl; omega) (wf_lo hC) (hT.later h)).mono fun e w' he => he
  rw [hs, show sI true = 1 from rfl] at HSm
  rw [hv] at HV HRv
  have hn40 : n ≤ 65536 := by have := (vldM_iff.1 hv).1; omega
  subst hn
  subst hx
  rw [tabN_len] at *
  have HRk : Hid (∀ W', Below w.heap.size w W' → Calls Try.prog 14 #[.agg #[.int .i64 (n : Int), .slice a xs.length c]] W' fun e w' => e = .returned (.tuple #[.int .i64 (rk xs : Nat), .int .i64 0]) ∧ Below W'.heap.size W' w') := Lib.hid fun W' h => rank_yes n xs hlt hn40 (by omega) a c W' (hT.later h)
  have HD : Hid (∀ W', Below w.heap.size w W' → Calls Try.prog 18 #[.int .i64 (n : Int), .slice a xs.length c] W' fun e w' => ∃ A E, e = .returned (.slice A xs.length E) ∧ BTabAt w' A n xs ∧ Below W'.heap.size W' w') := Lib.hid fun W' h => dense_any n xs hlt hn40 (by omega) a c W' (hT.later h)
  have HRR : Hid (∀ (A : Option Addr) (E : Nat) W', BTabAt W' A n xs → Calls Try.prog 17 #[.int .i64 (n : Int), .slice A xs.length E] W' fun e w' => e = .returned (.int .i64 (rk xs : Nat)) ∧ Below W'.heap.size W' w') := Lib.hid fun A E W' h => rrank_any n xs hlt hn40 (by omega) A E W' h
  clear hs hT hr hC hv hl
  go_enter Try.func3, Try.ntmps3
  go_wp2_with fail
  refine (awake_any w).mono ?_
  rintro e w1 ⟨rfl, hb⟩
  have H1 := Lib.hid ((HH.start w).call hb)
  clear hb
  go_wp2_with fail
  refine (HSm.out w1 H1.out.below).mono ?_
  rintro e w2 ⟨rfl, hb⟩
  have H2 := Lib.hid (H1.out.call hb)
  clear hb H1 HSm
  go_wp2_with fail
  refine (matrix_any n xs.length a c w2).mono ?_
  rintro e w3 ⟨rfl, hb⟩
  have H3 := Lib.hid (H2.out.call hb)
  clear hb H2
  go_wp2_with fail
  obtain ⟨v3, hv3⟩ : ∃ x, x = w3.alloc (.cells #[.int .i64 (n : Int), .slice a xs.length c] 26) := ⟨_, rfl⟩
  rw [← hv3]
  have h4 : HH w v3 [(w3.heap.size, rowO 26 [.int .i64 (n : Int), .slice a xs.length c])] [] := by rw [hv3]; exact H3.out.alloc #[.int .i64 (n : Int), .slice a xs.length c] 26 rfl rfl
  have H4 := Lib.hid h4
  generalize w3.heap.size = q at *
  clear hv3 h4 H3
  refine (HRk.out v3 H4.out.below).mono ?_
  rintro e w4 ⟨rfl, hb⟩
  have H5 := Lib.hid (H4.out.call hb)
  clear hb H4 HRk
  go_wp2_with fail
  refine (HRv.out w4 H5.out.below).mono ?_
  rintro e w5 ⟨rfl, hb⟩
  have H6 := Lib.hid (H5.out.call hb)
  clear hb H5 HRv
  have hc0_0 := H6.out.cell (k := 0) (i := 0) rfl rfl
  have hc0_1 := H6.out.cell (k := 0) (i := 1) rfl rfl
  go_wp2_with fail
  refine (HV.out w5 H6.out.below).mono ?_
  rintro e w6 ⟨rfl, hb⟩
  have H7 := Lib.hid (H6.out.call hb)
  clear hb H6 HV hc0_0 hc0_1
  go_wp2_with fail
  refine (HD.out w6 H7.out.below).mono ?_
  rintro e w7 ⟨A, E, rfl, hbt, hb⟩
  have H8 := Lib.hid (H7.out.call hb)
  have Hbt := Lib.hid hbt
  clear hb hbt H7 HD
  go_wp2_with fail
  refine (HRR.out A E w7 Hbt.out).mono ?_
  rintro e w8 ⟨rfl, hb⟩
  have H9 := Lib.hid (H8.out.call hb)
  clear hb Hbt H8 HRR
  go_wp2_with fail
  go_ret
  exact ⟨rfl, H9.out.below⟩
theorem grank_any (C : Int) (T : List (List Int)) (a : Option Addr) (c : Nat) (w : World) (hC : (Lit.int .i64 C).wf = true) (hT : TabAt w a T) :
    Calls Try.prog 3 #[.int .i64 C, .slice a T.length c] w fun e w' => e = .returned (.bool true) ∧ Below w.heap.size w w' := by
  by_cases hs : smallB C T = true
  · by_cases hv : vldM C T = true
    · obtain ⟨n, xs, h1, h2, _, _, h3⟩ := vld_tab hv
      exact grank_good C T a c w xs n hs hC hv h1 h2 h3 hT
    · exact grank_bad C T a c w hs hC (Bool.eq_false_iff.2 hv) hT
  · exact grank_small C T a c w (Bool.eq_false_iff.2 hs) hT
end Go.Proofs.Ytlgiponfcmeiiaa
