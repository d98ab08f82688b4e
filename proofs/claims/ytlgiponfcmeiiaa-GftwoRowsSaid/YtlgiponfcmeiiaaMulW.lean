/- The walk of gftwo.Mul. -/
import Derived.Test.YtlgiponfcmeiiaaSparW
namespace Go.Proofs.Ytlgiponfcmeiiaa
open Go Go.RowKit
set_option maxRecDepth 100000 in
set_option maxHeartbeats 4000000 in
theorem mul_bad (C D : Int) (T U : List (List Int)) (a b : Option Addr) (c d : Nat) (w : World) (hTl : T.length ≤ 1000000) (hRl : ∀ l ∈ T, l.length ≤ 1000000) (hUl : U.length ≤ 1000000) (hSl : ∀ l ∈ U, l.length ≤ 1000000) (hC : -9223372036854775808 ≤ C ∧ C ≤ 9223372036854775807) (hD : -9223372036854775808 ≤ D ∧ D ≤ 9223372036854775807)
    (hT : TabAt w a T) (hU : TabAt w b U) (hv : ¬ (vldM C T = true ∧ vldM D U = true)) :
    Calls Try.prog 23 #[.agg #[.int .i64 C, .slice a T.length c], .agg #[.int .i64 D, .slice b U.length d]] w fun e w' => e = .returned (.tuple #[.agg #[.int .i64 0, .slice none 0 0], .int .i64 1]) ∧ Below w.heap.size w w' := by
  obtain ⟨W, hW⟩ : ∃ W, W = ((w.alloc (.cells #[.int .i64 C, .slice a T.length c] 26)).alloc (.cells #[.int .i64 D, .slice b U.length d] 26)).alloc (.cells #[.int .i64 0, .slice none 0 0] 26) := ⟨_, rfl⟩
  have h0 : HH w W [(w.heap.size, rowO 26 [.int .i64 C, .slice a T.length c]), (w.heap.size + 1, rowO 26 [.int .i64 D, .slice b U.length d]), (w.heap.size + 1 + 1, rowO 26 [.int .i64 0, .slice none 0 0])] [] := by rw [hW]; exact (((HH.start w).alloc #[.int .i64 C, .slice a T.length c] 26 rfl rfl).alloc #[.int .i64 D, .slice b U.length d] 26 (by simp) rfl).alloc #[.int .i64 0, .slice none 0 0] 26 (by simp) rfl
  have H0 := Lib.hid h0
  have HV : Hid (∀ W', Below w.heap.size w W' → Calls Try.prog 16 #[.agg #[.int .i64 C, .slice a T.length c]] W' fun e w' => e = .returned (.bool (vldM C T)) ∧ Below W'.heap.size W' w') := Lib.hid fun W' h => valid_any C T a c W' hTl hRl hC (hT.later h)
  have HU : Hid (∀ W', Below w.heap.size w W' → Calls Try.prog 16 #[.agg #[.int .i64 D, .slice b U.length d]] W' fun e w' => e = .returned (.bool (vldM D U)) ∧ Below W'.heap.size W' w') := Lib.hid fun W' h => valid_any D U b d W' hUl hSl hD (hU.later h)
  clear h0 hT hU hRl hTl hUl hSl
  by_cases h1 : vldM C T = true
  · have h2 : vldM D U = false := by
      rw [← Bool.not_eq_true]; exact fun e => hv ⟨h1, e⟩
    rw [h1] at HV
    rw [h2] at HU
    clear h1 h2 hv
    go_enter Try.func23, Try.ntmps23
    have hc0_0 := H0.out.cell (k := 0) (i := 0) rfl rfl
    have hc0_1 := H0.out.cell (k := 0) (i := 1) rfl rfl
    have hc1_0 := H0.out.cell (k := 1) (i := 0) rfl rfl
    have hc1_1 := H0.out.cell (k := 1) (i := 1) rfl rfl
    have hc2_0 := H0.out.cell (k := 2) (i := 0) rfl rfl
    have hc2_1 := H0.out.cell (k := 2) (i := 1) rfl rfl
    have hf2_0 := H0.out.frozen (k := 2) rfl 0
    have hf2_1 := H0.out.frozen (k := 2) rfl 1
    rw [hW] at hc0_0 hc0_1 hc1_0 hc1_1 hc2_0 hc2_1 hf2_0 hf2_1
    go_wp2_with fail
    rw [← hW]
    clear hc0_0 hc0_1 hc1_0 hc1_1 hc2_0 hc2_1 hf2_0 hf2_1
    clear hW
    refine (HV.out W H0.out.below).mono ?_
    rintro e w1 ⟨rfl, hb⟩
    have H1 := Lib.hid (H0.out.call hb)
    clear hb H0 HV
    have hc0_0 := H1.out.cell (k := 0) (i := 0) rfl rfl
    have hc0_1 := H1.out.cell (k := 0) (i := 1) rfl rfl
    have hc1_0 := H1.out.cell (k := 1) (i := 0) rfl rfl
    have hc1_1 := H1.out.cell (k := 1) (i := 1) rfl rfl
    have hc2_0 := H1.out.cell (k := 2) (i := 0) rfl rfl
    have hc2_1 := H1.out.cell (k := 2) (i := 1) rfl rfl
    have hf2_0 := H1.out.frozen (k := 2) rfl 0
    have hf2_1 := H1.out.frozen (k := 2) rfl 1
    go_wp2_with fail
    clear hc0_0 hc0_1 hc1_0 hc1_1 hc2_0 hc2_1 hf2_0 hf2_1
    refine (HU.out w1 H1.out.below).mono ?_
    rintro e w2 ⟨rfl, hb⟩
    have H2 := Lib.hid (H1.out.call hb)
    clear hb H1 HU
    have hc0_0 := H2.out.cell (k := 0) (i := 0) rfl rfl
    have hc0_1 := H2.out.cell (k := 0) (i := 1) rfl rfl
    have hc1_0 := H2.out.cell (k := 1) (i := 0) rfl rfl
    have hc1_1 := H2.out.cell (k := 1) (i := 1) rfl rfl
    have hc2_0 := H2.out.cell (k := 2) (i := 0) rfl rfl
    have hc2_1 := H2.out.cell (k := 2) (i := 1) rfl rfl
    have hf2_0 := H2.out.frozen (k := 2) rfl 0
    have hf2_1 := H2.out.frozen (k := 2) rfl 1
    have H9 := (H2.out.set (k := 2) rfl 0 (.int .i64 0)).set (k := 2) rfl 1 (.slice none 0 0)
    have hF0 := H9.cell (k := 2) (i := 0) rfl rfl
    have hF1 := H9.cell (k := 2) (i := 1) rfl rfl
    have Hfin := Lib.hid H9.below
    clear H9
    go_wp2_with fail
    refine bodyPost_ret (v := .tuple #[.agg #[.int .i64 0, .slice none 0 0], .int .i64 1]) (by simp [results, Try.results23, go_sem, hF0, hF1]) rfl ?_
    exact ⟨rfl, Hfin.out⟩
  · have h1 : vldM C T = false := Bool.eq_false_iff.2 h1
    rw [h1] at HV
    clear h1 hv HU
    go_enter Try.func23, Try.ntmps23
    have hc0_0 := H0.out.cell (k := 0) (i := 0) rfl rfl
    have hc0_1 := H0.out.cell (k := 0) (i := 1) rfl rfl
    have hc1_0 := H0.out.cell (k := 1) (i := 0) rfl rfl
    have hc1_1 := H0.out.cell (k := 1) (i := 1) rfl rfl
    have hc2_0 := H0.out.cell (k := 2) (i := 0) rfl rfl
    have hc2_1 := H0.out.cell (k := 2) (i := 1) rfl rfl
    have hf2_0 := H0.out.frozen (k := 2) rfl 0
    have hf2_1 := H0.out.frozen (k := 2) rfl 1
    rw [hW] at hc0_0 hc0_1 hc1_0 hc1_1 hc2_0 hc2_1 hf2_0 hf2_1
    go_wp2_with fail
    rw [← hW]
    clear hc0_0 hc0_1 hc1_0 hc1_1 hc2_0 hc2_1 hf2_0 hf2_1
    clear hW
    refine (HV.out W H0.out.below).mono ?_
    rintro e w1 ⟨rfl, hb⟩
    have H1 := Lib.hid (H0.out.call hb)
    clear hb H0 HV
    have hc0_0 := H1.out.cell (k := 0) (i := 0) rfl rfl
    have hc0_1 := H1.out.cell (k := 0) (i := 1) rfl rfl
    have hc1_0 := H1.out.cell (k := 1) (i := 0) rfl rfl
    have hc1_1 := H1.out.cell (k := 1) (i := 1) rfl rfl
    have hc2_0 := H1.out.cell (k := 2) (i := 0) rfl rfl
    have hc2_1 := H1.out.cell (k := 2) (i := 1) rfl rfl
    have hf2_0 := H1.out.frozen (k := 2) rfl 0
    have hf2_1 := H1.out.frozen (k := 2) rfl 1
    have H9 := (H1.out.set (k := 2) rfl 0 (.int .i64 0)).set (k := 2) rfl 1 (.slice none 0 0)
    have hF0 := H9.cell (k := 2) (i := 0) rfl rfl
    have hF1 := H9.cell (k := 2) (i := 1) rfl rfl
    have Hfin := Lib.hid H9.below
    clear H9
    go_wp2_with fail
    refine bodyPost_ret (v := .tuple #[.agg #[.int .i64 0, .slice none 0 0], .int .i64 1]) (by simp [results, Try.results23, go_sem, hF0, hF1]) rfl ?_
    exact ⟨rfl, Hfin.out⟩
set_option maxRecDepth 100000 in
set_option maxHeartbeats 4000000 in
theorem mul_no (C D : Nat) (xs ys : List Nat) (hC : C ≤ 65536) (hD : D ≤ 65536) (hR : xs.length ≤ 65536) (hS : ys.length ≤ 65536) (a b : Option Addr) (c d : Nat) (w : World) (hT : TabAt w a (tabN C xs)) (hU : TabAt w b (tabN D ys)) (hne : C ≠ ys.length) :
    Calls Try.prog 23 #[.agg #[.int .i64 (C : Int), .slice a xs.length c], .agg #[.int .i64 (D : Int), .slice b ys.length d]] w fun e w' => e = .returned (.tuple #[.agg #[.int .i64 0, .slice none 0 0], .int .i64 2]) ∧ Below w.heap.size w w' := by
  obtain ⟨W, hW⟩ : ∃ W, W = ((w.alloc (.cells #[.int .i64 (C : Int), .slice a xs.length c] 26)).alloc (.cells #[.int .i64 (D : Int), .slice b ys.length d] 26)).alloc (.cells #[.int .i64 0, .slice none 0 0] 26) := ⟨_, rfl⟩
  have h0 : HH w W [(w.heap.size, rowO 26 [.int .i64 (C : Int), .slice a xs.length c]), (w.heap.size + 1, rowO 26 [.int .i64 (D : Int), .slice b ys.length d]), (w.heap.size + 1 + 1, rowO 26 [.int .i64 0, .slice none 0 0])] [] := by rw [hW]; exact (((HH.start w).alloc #[.int .i64 (C : Int), .slice a xs.length c] 26 rfl rfl).alloc #[.int .i64 (D : Int), .slice b ys.length d] 26 (by simp) rfl).alloc #[.int .i64 0, .slice none 0 0] 26 (by simp) rfl
  have H0 := Lib.hid h0
  have HV : Hid (∀ W', Below w.heap.size w W' → Calls Try.prog 16 #[.agg #[.int .i64 (C : Int), .slice a xs.length c]] W' fun e w' => e = .returned (.bool true) ∧ Below W'.heap.size W' w') := Lib.hid fun W' h => valid_tab C xs hC hR a c W' (hT.later h)
  have HU : Hid (∀ W', Below w.heap.size w W' → Calls Try.prog 16 #[.agg #[.int .i64 (D : Int), .slice b ys.length d]] W' fun e w' => e = .returned (.bool true) ∧ Below W'.heap.size W' w') := Lib.hid fun W' h => valid_tab D ys hD hS b d W' (hU.later h)
  have d1 : ((C : Int) != (ys.length : Int)) = true := by rw [bne, Bool.not_eq_true', beq_eq_false_iff_ne]; omega
  clear h0 hT hU hne
  go_enter Try.func23, Try.ntmps23
  have hc0_0 := H0.out.cell (k := 0) (i := 0) rfl rfl
  have hc0_1 := H0.out.cell (k := 0) (i := 1) rfl rfl
  have hc1_0 := H0.out.cell (k := 1) (i := 0) rfl rfl
  have hc1_1 := H0.out.cell (k := 1) (i := 1) rfl rfl
  have hc2_0 := H0.out.cell (k := 2) (i := 0) rfl rfl
  have hc2_1 := H0.out.cell (k := 2) (i := 1) rfl rfl
  have hf2_0 := H0.out.frozen (k := 2) rfl 0
  have hf2_1 := H0.out.frozen (k := 2) rfl 1
  rw [hW] at hc0_0 hc0_1 hc1_0 hc1_1 hc2_0 hc2_1 hf2_0 hf2_1
  go_wp2_with fail
  rw [← hW]
  clear hc0_0 hc0_1 hc1_0 hc1_1 hc2_0 hc2_1 hf2_0 hf2_1
  clear hW
  refine (HV.out W H0.out.below).mono ?_
  rintro e w1 ⟨rfl, hb⟩
  have H1 := Lib.hid (H0.out.call hb)
  clear hb H0 HV
  have hc0_0 := H1.out.cell (k := 0) (i := 0) rfl rfl
  have hc0_1 := H1.out.cell (k := 0) (i := 1) rfl rfl
  have hc1_0 := H1.out.cell (k := 1) (i := 0) rfl rfl
  have hc1_1 := H1.out.cell (k := 1) (i := 1) rfl rfl
  have hc2_0 := H1.out.cell (k := 2) (i := 0) rfl rfl
  have hc2_1 := H1.out.cell (k := 2) (i := 1) rfl rfl
  have hf2_0 := H1.out.frozen (k := 2) rfl 0
  have hf2_1 := H1.out.frozen (k := 2) rfl 1
  go_wp2_with fail
  clear hc0_0 hc0_1 hc1_0 hc1_1 hc2_0 hc2_1 hf2_0 hf2_1
  refine (HU.out w1 H1.out.below).mono ?_
  rintro e w2 ⟨rfl, hb⟩
  have H2 := Lib.hid (H1.out.call hb)
  clear hb H1 HU
  have hc0_0 := H2.out.cell (k := 0) (i := 0) rfl rfl
  have hc0_1 := H2.out.cell (k := 0) (i := 1) rfl rfl
  have hc1_0 := H2.out.cell (k := 1) (i := 0) rfl rfl
  have hc1_1 := H2.out.cell (k := 1) (i := 1) rfl rfl
  have hc2_0 := H2.out.cell (k := 2) (i := 0) rfl rfl
  have hc2_1 := H2.out.cell (k := 2) (i := 1) rfl rfl
  have hf2_0 := H2.out.frozen (k := 2) rfl 0
  have hf2_1 := H2.out.frozen (k := 2) rfl 1
  have H9 := (H2.out.set (k := 2) rfl 0 (.int .i64 0)).set (k := 2) rfl 1 (.slice none 0 0)
  have hF0 := H9.cell (k := 2) (i := 0) rfl rfl
  have hF1 := H9.cell (k := 2) (i := 1) rfl rfl
  have Hfin := Lib.hid H9.below
  clear H9
  go_wp2_with fail
  refine bodyPost_ret (v := .tuple #[.agg #[.int .i64 0, .slice none 0 0], .int .i64 2]) (by simp [results, Try.results23, go_sem, hF0, hF1]) rfl ?_
  exact ⟨rfl, Hfin.out⟩
end Go.Proofs.Ytlgiponfcmeiiaa
