/- The walk of the law LinkingSmooths. -/
import Derived.Test.YtkopbcehfbmnmaaTellsW
import Derived.Test.YtkopbcehfbmnmaaSmoW
import Derived.Test.YtkopbcehfbmnmaaSmoothD
namespace Go.Proofs.Ytkopbcehfbmnmaa
open Go Go.RowKit
set_option maxRecDepth 100000 in
set_option maxHeartbeats 4000000 in
theorem lsm_large (S M : List Int) (L : Int) (aS aM : Option Addr) (cS cM : Nat) (k : Int) (w : World) (hSl : S.length ≤ maxLen) (hMl : M.length ≤ maxLen) (hf : fewB S M L = false) :
    Calls Try.prog 12 #[.agg #[.slice aS S.length cS, .slice aM M.length cM, .int .i64 L], .int .u8 k] w fun e w' => e = .returned (.bool true) ∧ Below w.heap.size w w' := by
  obtain ⟨W, hW⟩ : ∃ W, W = w.alloc (.cells #[.slice aS S.length cS, .slice aM M.length cM, .int .i64 L] 24) := ⟨_, rfl⟩
  have HB : Hid (Below w.heap.size w W) := Lib.hid (by rw [hW]; exact (Below.refl _ _).alloc (Nat.le_refl _) _)
  have Hbox : Hid (Row W w.heap.size 24 [.slice aS S.length cS, .slice aM M.length cM, .int .i64 L]) := Lib.hid (by rw [hW]; exact Row.new w #[.slice aS S.length cS, .slice aM M.length cM, .int .i64 L] 24)
  have Hcell : Hid (∀ W', Below W.heap.size W W' → ∀ i, W'.cell? ⟨w.heap.size, i, none⟩ = ([.slice aS S.length cS, .slice aM M.length cM, .int .i64 L] : List Value)[i]?) := Lib.hid fun W' h i => (Hbox.out.later h Hbox.out.lt).cell i
  have HF : Hid (∀ W', Calls Try.prog 29 #[.agg #[.slice aS S.length cS, .slice aM M.length cM, .int .i64 L]] W' fun e w' => e = .returned (.bool false) ∧ Below W'.heap.size W' w') := Lib.hid fun W' => by rw [← hf]; exact few_any S M L aS aM cS cM W' hSl hMl
  clear hf hSl hMl
  go_enter Try.func12, Try.ntmps12
  go_wp2_with fail
  rw [← hW]
  clear hW
  refine (awake_any W).mono ?_
  rintro e w1 ⟨rfl, hb1⟩
  have Hb1 := Lib.hid (hb1)
  clear hb1
  have hc := Hcell.out w1 Hb1.out
  have hc0 := hc 0
  have hc1 := hc 1
  have hc2 := hc 2
  simp only [List.getElem?_cons_succ, List.getElem?_cons_zero] at hc0 hc1 hc2
  clear hc
  go_wp2_with fail
  refine (HF.out w1).mono ?_
  rintro e w2 ⟨rfl, hb2⟩
  have Hb2 := Lib.hid (below_step Hb1.out hb2)
  clear hb2
  clear hc0 hc1 hc2
  have hc := Hcell.out w2 Hb2.out
  have hc0 := hc 0
  have hc1 := hc 1
  have hc2 := hc 2
  simp only [List.getElem?_cons_succ, List.getElem?_cons_zero] at hc0 hc1 hc2
  clear hc
  go_wp2_with fail
  refine (awake_any w2).mono ?_
  rintro e w3 ⟨rfl, hb3⟩
  have Hb3 := Lib.hid (below_step Hb2.out hb3)
  clear hb3
  clear hc0 hc1 hc2
  have hc := Hcell.out w3 Hb3.out
  have hc0 := hc 0
  have hc1 := hc 1
  have hc2 := hc 2
  simp only [List.getElem?_cons_succ, List.getElem?_cons_zero] at hc0 hc1 hc2
  clear hc
  go_wp2_with fail
  go_ret
  exact ⟨rfl, below_step HB.out Hb3.out⟩
set_option maxRecDepth 100000 in
set_option maxHeartbeats 4000000 in
theorem lsm_no (S M : List Int) (L : Int) (aS aM : Option Addr) (cS cM : Nat) (k : Int) (w : World) (hf : fewB S M L = true) (hv : vldB S M L = false) (hS : IntsAt w aS S) (hM : IntsAt w aM M) :
    Calls Try.prog 12 #[.agg #[.slice aS S.length cS, .slice aM M.length cM, .int .i64 L], .int .u8 k] w fun e w' => e = .returned (.bool true) ∧ Below w.heap.size w w' := by
  have hl : S.length ≤ 12 ∧ M.length ≤ 60 := by
    have := of_decide_eq_true hf
    exact ⟨this.1, this.2.1⟩
  have hSl : S.length ≤ 1000000000 := by omega
  have hMl : M.length ≤ 1000000000 := by omega
  obtain ⟨W, hW⟩ : ∃ W, W = w.alloc (.cells #[.slice aS S.length cS, .slice aM M.length cM, .int .i64 L] 24) := ⟨_, rfl⟩
  have HB : Hid (Below w.heap.size w W) := Lib.hid (by rw [hW]; exact (Below.refl _ _).alloc (Nat.le_refl _) _)
  have Hbox : Hid (Row W w.heap.size 24 [.slice aS S.length cS, .slice aM M.length cM, .int .i64 L]) := Lib.hid (by rw [hW]; exact Row.new w #[.slice aS S.length cS, .slice aM M.length cM, .int .i64 L] 24)
  have Hcell : Hid (∀ W', Below W.heap.size W W' → ∀ i, W'.cell? ⟨w.heap.size, i, none⟩ = ([.slice aS S.length cS, .slice aM M.length cM, .int .i64 L] : List Value)[i]?) := Lib.hid fun W' h i => (Hbox.out.later h Hbox.out.lt).cell i
  have HS := Lib.hid hS
  have HM := Lib.hid hM
  have H29 : Hid (∀ W', Below W.heap.size W W' → Calls Try.prog 29 #[.agg #[.slice aS S.length cS, .slice aM M.length cM, .int .i64 L]] W' fun e w' => e = .returned (.bool true) ∧ Below W'.heap.size W' w') := Lib.hid fun W' hW' => by
    rw [← hf]; exact few_any S M L aS aM cS cM W' (by unfold maxLen; omega) (by unfold maxLen; omega)
  have H39 : Hid (∀ W', Below W.heap.size W W' → Calls Try.prog 39 #[.agg #[.slice aS S.length cS, .slice aM M.length cM, .int .i64 L]] W' fun e w' => e = .returned (.bool false) ∧ Below W'.heap.size W' w') := Lib.hid fun W' hW' => by
    have hS' := HS.out.later (below_step HB.out hW')
    have hM' := HM.out.later (below_step HB.out hW')
    rw [← hv]; exact valid_any S M L aS aM cS cM W' hSl hMl hS' hM'
  clear hf hv hSl hMl hS hM hl
  go_enter Try.func12, Try.ntmps12
  go_wp2_with fail
  rw [← hW]
  clear hW
  refine (awake_any W).mono ?_
  rintro e w1 ⟨rfl, hb1⟩
  have Hb1 := Lib.hid (hb1)
  clear hb1
  have hc := Hcell.out w1 Hb1.out
  have hc0 := hc 0
  have hc1 := hc 1
  have hc2 := hc 2
  simp only [List.getElem?_cons_succ, List.getElem?_cons_zero] at hc0 hc1 hc2
  clear hc
  go_wp2_with fail
  refine (H29.out w1 Hb1.out).mono ?_
  rintro e w2 ⟨rfl, hb2⟩
  have Hb2 := Lib.hid (below_step Hb1.out hb2)
  clear hb2
  clear hc0 hc1 hc2
  have hc := Hcell.out w2 Hb2.out
  have hc0 := hc 0
  have hc1 := hc 1
  have hc2 := hc 2
  simp only [List.getElem?_cons_succ, List.getElem?_cons_zero] at hc0 hc1 hc2
  clear hc
  go_wp2_with fail
  refine (H39.out w2 Hb2.out).mono ?_
  rintro e w3 ⟨rfl, hb3⟩
  have Hb3 := Lib.hid (below_step Hb2.out hb3)
  clear hb3
  clear hc0 hc1 hc2
  have hc := Hcell.out w3 Hb3.out
  have hc0 := hc 0
  have hc1 := hc 1
  have hc2 := hc 2
  simp only [List.getElem?_cons_succ, List.getElem?_cons_zero] at hc0 hc1 hc2
  clear hc
  go_wp2_with fail
  refine (awake_any w3).mono ?_
  rintro e w4 ⟨rfl, hb4⟩
  have Hb4 := Lib.hid (below_step Hb3.out hb4)
  clear hb4
  clear hc0 hc1 hc2
  have hc := Hcell.out w4 Hb4.out
  have hc0 := hc 0
  have hc1 := hc 1
  have hc2 := hc 2
  simp only [List.getElem?_cons_succ, List.getElem?_cons_zero] at hc0 hc1 hc2
  clear hc
  go_wp2_with fail
  go_ret
  exact ⟨rfl, below_step HB.out Hb4.out⟩
set_option maxRecDepth 100000 in
set_option maxHeartbeats 16000000 in
theorem lsm_zero (S M : List Int) (L : Int) (aS aM : Option Addr) (cS cM : Nat) (k : Int) (w : World) (hf : fewB S M L = true) (hv : vldB S M L = true) (hn : S.length = 0) (hS : IntsAt w aS S) (hM : IntsAt w aM M) :
    Calls Try.prog 12 #[.agg #[.slice aS S.length cS, .slice aM M.length cM, .int .i64 L], .int .u8 k] w fun e w' => e = .returned (.bool true) ∧ Below w.heap.size w w' := by
  have hl : S.length ≤ 12 ∧ M.length ≤ 60 := by
    have := of_decide_eq_true hf
    exact ⟨this.1, this.2.1⟩
  have hSl : S.length ≤ 1000000000 := by omega
  have hMl : M.length ≤ 1000000000 := by omega
  obtain ⟨W, hW⟩ : ∃ W, W = (w.alloc (.cells #[.slice aS S.length cS, .slice aM M.length cM, .int .i64 L] 24)) := ⟨_, rfl⟩
  have h0 : HH w W [(w.heap.size, rowO 24 [.slice aS S.length cS, .slice aM M.length cM, .int .i64 L])] [] := by rw [hW]; exact ((HH.start w).alloc #[.slice aS S.length cS, .slice aM M.length cM, .int .i64 L] 24 rfl rfl)
  have H0 := Lib.hid h0
  have H29 : Hid (∀ W', Below w.heap.size w W' → Calls Try.prog 29 #[.agg #[.slice aS S.length cS, .slice aM M.length cM, .int .i64 L]] W' fun e w' => e = .returned (.bool true) ∧ Below W'.heap.size W' w') := Lib.hid fun W' hW' => by rw [← hf]; exact few_any S M L aS aM cS cM W' (by unfold maxLen; omega) (by unfold maxLen; omega)
  have H39 : Hid (∀ W', Below w.heap.size w W' → Calls Try.prog 39 #[.agg #[.slice aS S.length cS, .slice aM M.length cM, .int .i64 L]] W' fun e w' => e = .returned (.bool true) ∧ Below W'.heap.size W' w') := Lib.hid fun W' hW' => by rw [← hv]; exact valid_any S M L aS aM cS cM W' hSl hMl (hS.later hW') (hM.later hW')
  have Hn := Lib.hid hn
  clear hf hv hSl hMl hS hM hl h0 hn
  go_enter Try.func12, Try.ntmps12
  go_wp2_with fail
  rw [← hW]
  clear hW
  refine (awake_any W).mono ?_
  rintro e w1 ⟨rfl, hb1⟩
  have H1 := Lib.hid (H0.out.call hb1)
  clear hb1 H0
  have hc0_0 := H1.out.cell (k := 0) (i := 0) rfl rfl
  have hc0_1 := H1.out.cell (k := 0) (i := 1) rfl rfl
  have hc0_2 := H1.out.cell (k := 0) (i := 2) rfl rfl
  go_wp2_with fail
  refine (H29.out w1 H1.out.below).mono ?_
  rintro e w2 ⟨rfl, hb2⟩
  have H2 := Lib.hid (H1.out.call hb2)
  clear hb2 H1
  clear hc0_0 hc0_1 hc0_2
  have hc0_0 := H2.out.cell (k := 0) (i := 0) rfl rfl
  have hc0_1 := H2.out.cell (k := 0) (i := 1) rfl rfl
  have hc0_2 := H2.out.cell (k := 0) (i := 2) rfl rfl
  go_wp2_with fail
  refine (H39.out w2 H2.out.below).mono ?_
  rintro e w3 ⟨rfl, hb3⟩
  have H3 := Lib.hid (H2.out.call hb3)
  clear hb3 H2
  clear hc0_0 hc0_1 hc0_2
  have hc0_0 := H3.out.cell (k := 0) (i := 0) rfl rfl
  have hc0_1 := H3.out.cell (k := 0) (i := 1) rfl rfl
  have hc0_2 := H3.out.cell (k := 0) (i := 2) rfl rfl
  have hn := Hn.out
  go_wp2_with fail
  clear hn
  refine (awake_any w3).mono ?_
  rintro e w4 ⟨rfl, hb4⟩
  have H4 := Lib.hid (H3.out.call hb4)
  clear hb4 H3
  clear hc0_0 hc0_1 hc0_2
  have hc0_0 := H4.out.cell (k := 0) (i := 0) rfl rfl
  have hc0_1 := H4.out.cell (k := 0) (i := 1) rfl rfl
  have hc0_2 := H4.out.cell (k := 0) (i := 2) rfl rfl
  go_wp2_with fail
  go_ret
  exact ⟨rfl, H4.out.below⟩
set_option maxRecDepth 100000 in
set_option maxHeartbeats 16000000 in
theorem lsm_other (S M : List Int) (L : Int) (aS aM : Option Addr) (cS cM : Nat) (k : Int) (w : World) (hf : fewB S M L = true) (hv : vldB S M L = true) (hn : 0 < S.length) (h1 : compsN S M L ≠ 1) (hS : IntsAt w aS S) (hM : IntsAt w aM M) :
    Calls Try.prog 12 #[.agg #[.slice aS S.length cS, .slice aM M.length cM, .int .i64 L], .int .u8 k] w fun e w' => e = .returned (.bool true) ∧ Below w.heap.size w w' := by
  have hl : S.length ≤ 12 ∧ M.length ≤ 60 := by
    have := of_decide_eq_true hf
    exact ⟨this.1, this.2.1⟩
  have hSl : S.length ≤ 1000000000 := by omega
  have hMl : M.length ≤ 1000000000 := by omega
  obtain ⟨N, hN, hNl, hNs⟩ := compsN_nat hv
  have hN1 : ¬ (N : Int) = 1 := fun e => h1 (hN.trans e)
  have hN2 : ((N : Int) == 1) = false := by rw [beq_eq_false_iff_ne]; exact hN1
  have hN3 : ((N : Int) != 1) = true := by rw [bne, hN2]; rfl
  have hn2 : ¬ S.length = 0 := by omega
  obtain ⟨W, hW⟩ : ∃ W, W = (w.alloc (.cells #[.slice aS S.length cS, .slice aM M.length cM, .int .i64 L] 24)) := ⟨_, rfl⟩
  have h0 : HH w W [(w.heap.size, rowO 24 [.slice aS S.length cS, .slice aM M.length cM, .int .i64 L])] [] := by rw [hW]; exact ((HH.start w).alloc #[.slice aS S.length cS, .slice aM M.length cM, .int .i64 L] 24 rfl rfl)
  have H0 := Lib.hid h0
  have H29 : Hid (∀ W', Below w.heap.size w W' → Calls Try.prog 29 #[.agg #[.slice aS S.length cS, .slice aM M.length cM, .int .i64 L]] W' fun e w' => e = .returned (.bool true) ∧ Below W'.heap.size W' w') := Lib.hid fun W' hW' => by rw [← hf]; exact few_any S M L aS aM cS cM W' (by unfold maxLen; omega) (by unfold maxLen; omega)
  have H39 : Hid (∀ W', Below w.heap.size w W' → Calls Try.prog 39 #[.agg #[.slice aS S.length cS, .slice aM M.length cM, .int .i64 L]] W' fun e w' => e = .returned (.bool true) ∧ Below W'.heap.size W' w') := Lib.hid fun W' hW' => by rw [← hv]; exact valid_any S M L aS aM cS cM W' hSl hMl (hS.later hW') (hM.later hW')
  have H40 : Hid (∀ W', Below w.heap.size w W' → Calls Try.prog 40 #[.agg #[.slice aS S.length cS, .slice aM M.length cM, .int .i64 L]] W' fun e w' => e = .returned (.int .i64 (N : Int)) ∧ Below W'.heap.size W' w') := Lib.hid fun W' hW' => by rw [← hN]; exact components_any S M L aS aM cS cM W' hSl hMl (hS.later hW') (hM.later hW')
  clear hf hv hSl hMl hS hM hl h0 hn h1 hN hNl hNs
  go_enter Try.func12, Try.ntmps12
  go_wp2_with fail
  rw [← hW]
  clear hW
  refine (awake_any W).mono ?_
  rintro e w1 ⟨rfl, hb1⟩
  have H1 := Lib.hid (H0.out.call hb1)
  clear hb1 H0
  have hc0_0 := H1.out.cell (k := 0) (i := 0) rfl rfl
  have hc0_1 := H1.out.cell (k := 0) (i := 1) rfl rfl
  have hc0_2 := H1.out.cell (k := 0) (i := 2) rfl rfl
  go_wp2_with fail
  refine (H29.out w1 H1.out.below).mono ?_
  rintro e w2 ⟨rfl, hb2⟩
  have H2 := Lib.hid (H1.out.call hb2)
  clear hb2 H1
  clear hc0_0 hc0_1 hc0_2
  have hc0_0 := H2.out.cell (k := 0) (i := 0) rfl rfl
  have hc0_1 := H2.out.cell (k := 0) (i := 1) rfl rfl
  have hc0_2 := H2.out.cell (k := 0) (i := 2) rfl rfl
  go_wp2_with fail
  refine (H39.out w2 H2.out.below).mono ?_
  rintro e w3 ⟨rfl, hb3⟩
  have H3 := Lib.hid (H2.out.call hb3)
  clear hb3 H2
  clear hc0_0 hc0_1 hc0_2
  have hc0_0 := H3.out.cell (k := 0) (i := 0) rfl rfl
  have hc0_1 := H3.out.cell (k := 0) (i := 1) rfl rfl
  have hc0_2 := H3.out.cell (k := 0) (i := 2) rfl rfl
  go_wp2_with fail
  refine (H40.out w3 H3.out.below).mono ?_
  rintro e w4 ⟨rfl, hb4⟩
  have H4 := Lib.hid (H3.out.call hb4)
  clear hb4 H3
  clear hc0_0 hc0_1 hc0_2
  have hc0_0 := H4.out.cell (k := 0) (i := 0) rfl rfl
  have hc0_1 := H4.out.cell (k := 0) (i := 1) rfl rfl
  have hc0_2 := H4.out.cell (k := 0) (i := 2) rfl rfl
  go_wp2_with fail
  refine (awake_any w4).mono ?_
  rintro e w5 ⟨rfl, hb5⟩
  have H5 := Lib.hid (H4.out.call hb5)
  clear hb5 H4
  clear hc0_0 hc0_1 hc0_2
  have hc0_0 := H5.out.cell (k := 0) (i := 0) rfl rfl
  have hc0_1 := H5.out.cell (k := 0) (i := 1) rfl rfl
  have hc0_2 := H5.out.cell (k := 0) (i := 2) rfl rfl
  go_wp2_with fail
  go_ret
  exact ⟨rfl, H5.out.below⟩
set_option maxRecDepth 100000 in
set_option maxHeartbeats 16000000 in
theorem lsm_yes (S M : List Int) (L : Int) (aS aM : Option Addr) (cS cM : Nat) (k : Int) (w : World) (hf : fewB S M L = true) (hv : vldB S M L = true) (hn : 0 < S.length) (h1 : compsN S M L = 1) (hk0 : 0 ≤ k) (hk1 : k ≤ 255) (hS : IntsAt w aS S) (hM : IntsAt w aM M) :
    Calls Try.prog 12 #[.agg #[.slice aS S.length cS, .slice aM M.length cM, .int .i64 L], .int .u8 k] w fun e w' => e = .returned (.bool true) ∧ Below w.heap.size w w' := by
  have hl : S.length ≤ 12 ∧ M.length ≤ 60 := by
    have := of_decide_eq_true hf
    exact ⟨this.1, this.2.1⟩
  have hSl : S.length ≤ 1000000000 := by omega
  have hMl : M.length ≤ 1000000000 := by omega
  obtain ⟨q, hq⟩ : ∃ q : Nat, k.tmod (S.length : Int) = (q : Int) := ⟨(k.tmod S.length).toNat, by have := Int.tmod_nonneg (S.length : Int) hk0; omega⟩
  have hqN : q < S.length := by have := Int.tmod_lt_of_pos k (show (0 : Int) < S.length by omega); omega
  have hwb := sumTo_bd S (ownF (strandsL S M L)) (fun _ _ => true) (vldB_shape hv).signBd S.length
  rw [writhe_wr] at hwb
  have hsb := (vldB_shape hv).signBd q
  obtain ⟨hvX, hcX, hLX, hmX⟩ := knot_smooth hv hqN h1
  have hl1 : (smS S q).length ≤ 1000000000 := by rw [smS_len S q hqN]; omega
  have hl2 : (smM S M q).length ≤ 1000000000 := by rw [smM_len]; omega
  have hb0 := sumTo_bd (smS S q) (ownF (strandsL (smS S q) (smM S M q) (L + (newL M (pS S q) q : Nat)))) (fun u o => u == ((0 : Nat) : Int) && o == ((0 : Nat) : Int)) (vldB_shape hvX).signBd (smS S q).length
  have hb1 := sumTo_bd (smS S q) (ownF (strandsL (smS S q) (smM S M q) (L + (newL M (pS S q) q : Nat)))) (fun u o => u == ((1 : Nat) : Int) && o == ((1 : Nat) : Int)) (vldB_shape hvX).signBd (smS S q).length
  rw [self_mat] at hb0 hb1
  rw [smS_len S q hqN] at hb0 hb1
  obtain ⟨SX, hSX⟩ : ∃ x, x = smS S q := ⟨_, rfl⟩
  obtain ⟨MX, hMX⟩ : ∃ x, x = smM S M q := ⟨_, rfl⟩
  obtain ⟨LX, hLXe⟩ : ∃ x : Int, x = L + (newL M (pS S q) q : Nat) := ⟨_, rfl⟩
  rw [← hSX, ← hMX, ← hLXe] at hvX hcX hmX
  rw [← hSX, ← hMX, ← hLXe] at hb0 hb1
  rw [← hSX] at hl1
  rw [← hMX] at hl2
  rw [← hLXe] at hLX
  obtain ⟨bS, oS, rfl, hbS, hcS⟩ := hS.open hn
  have HcS : Hid (∀ W', Below w.heap.size w W' → W'.cell? ⟨bS, oS + q, none⟩ = some (.int .i64 (nth S q))) := Lib.hid fun W' h => (h.cell (p := ⟨bS, oS + q, none⟩) hbS).trans (hcS q hqN)
  have hn2 : ¬ S.length = 0 := by omega
  obtain ⟨W, hW⟩ : ∃ W, W = (w.alloc (.cells #[.slice (some ⟨bS, oS, none⟩) S.length cS, .slice aM M.length cM, .int .i64 L] 24)) := ⟨_, rfl⟩
  have h0 : HH w W [(w.heap.size, rowO 24 [.slice (some ⟨bS, oS, none⟩) S.length cS, .slice aM M.length cM, .int .i64 L])] [] := by rw [hW]; exact ((HH.start w).alloc #[.slice (some ⟨bS, oS, none⟩) S.length cS, .slice aM M.length cM, .int .i64 L] 24 rfl rfl)
  have H0 := Lib.hid h0
  have H29 : Hid (∀ W', Below w.heap.size w W' → Calls Try.prog 29 #[.agg #[.slice (some ⟨bS, oS, none⟩) S.length cS, .slice aM M.length cM, .int .i64 L]] W' fun e w' => e = .returned (.bool true) ∧ Below W'.heap.size W' w') := Lib.hid fun W' hW' => by rw [← hf]; exact few_any S M L (some ⟨bS, oS, none⟩) aM cS cM W' (by unfold maxLen; omega) (by unfold maxLen; omega)
  have H39 : Hid (∀ W', Below w.heap.size w W' → Calls Try.prog 39 #[.agg #[.slice (some ⟨bS, oS, none⟩) S.length cS, .slice aM M.length cM, .int .i64 L]] W' fun e w' => e = .returned (.bool true) ∧ Below W'.heap.size W' w') := Lib.hid fun W' hW' => by rw [← hv]; exact valid_any S M L (some ⟨bS, oS, none⟩) aM cS cM W' hSl hMl (hS.later hW') (hM.later hW')
  have H40 : Hid (∀ W', Below w.heap.size w W' → Calls Try.prog 40 #[.agg #[.slice (some ⟨bS, oS, none⟩) S.length cS, .slice aM M.length cM, .int .i64 L]] W' fun e w' => e = .returned (.int .i64 1) ∧ Below W'.heap.size W' w') := Lib.hid fun W' hW' => by rw [← h1]; exact components_any S M L (some ⟨bS, oS, none⟩) aM cS cM W' hSl hMl (hS.later hW') (hM.later hW')
  have H57 : Hid (∀ W', Below w.heap.size w W' → Calls Try.prog 57 #[.agg #[.slice (some ⟨bS, oS, none⟩) S.length cS, .slice aM M.length cM, .int .i64 L], .int .i64 (q : Int)] W' (DgR W' SX MX LX 0)) := Lib.hid fun W' hW' => by
    refine smooth_yes S M L (some ⟨bS, oS, none⟩) aM cS cM q W' _ (fun _ e w' h => ?_) (fun g => absurd (by rw [← hLXe]; exact hLX) g) hv hqN (hS.later hW') (hM.later hW')
    rw [hSX, hMX, hLXe]; exact h
  have H33 : Hid (∀ W', Below w.heap.size w W' → Calls Try.prog 33 #[.agg #[.slice (some ⟨bS, oS, none⟩) S.length cS, .slice aM M.length cM, .int .i64 L]] W' fun e w' => e = .returned (.int .i64 (wr S)) ∧ Below W'.heap.size W' w') := Lib.hid fun W' hW' => by
    refine (writhe_any S M L (some ⟨bS, oS, none⟩) aM cS cM W' hSl hMl (hS.later hW') (hM.later hW')).mono ?_
    rintro e w' ⟨he, hb⟩
    rw [if_pos hv, writhe_wr] at he
    exact ⟨he, hb⟩
  have H30 : Hid (∀ (a b : Option Addr) (c d : Nat) (W' : World), IntsAt W' a SX → IntsAt W' b MX → Calls Try.prog 30 #[.agg #[.slice a SX.length c, .slice b MX.length d, .int .i64 LX], .int .i64 0, .int .i64 1] W' fun e w' => e = .returned (.tuple #[.int .i64 (matE SX (ownF (strandsL SX MX LX)) 0 1), .int .i64 0]) ∧ Below W'.heap.size W' w') := Lib.hid fun a b c d W' i1 i2 => by
    have h := number_any SX MX LX a b c d 0 1 W' hl1 hl2 i1 i2
    have e : numberR SX MX LX 0 1 = (matE SX (ownF (strandsL SX MX LX)) 0 1, 0) := by
      unfold numberR
      rw [if_pos hvX, if_neg (by omega)]
      rfl
    rw [e] at h
    exact h
  have HS0 : Hid (∀ (a b : Option Addr) (c d : Nat) (W' : World), IntsAt W' a SX → IntsAt W' b MX → Calls Try.prog 34 #[.agg #[.slice a SX.length c, .slice b MX.length d, .int .i64 LX], .int .i64 0] W' fun e w' => e = .returned (.int .i64 (matE SX (ownF (strandsL SX MX LX)) 0 0)) ∧ Below W'.heap.size W' w') := Lib.hid fun a b c d W' i1 i2 => by
    refine (self_any SX MX LX a b c d 0 W' hl1 hl2 i1 i2).mono ?_
    rintro e w' ⟨he, hb⟩
    rw [if_pos ⟨hvX, by decide⟩] at he
    have := self_mat SX (ownF (strandsL SX MX LX)) 0
    exact ⟨he.trans (congrArg (fun z => Ending.returned (.int .i64 z)) this), hb⟩
  have HS1 : Hid (∀ (a b : Option Addr) (c d : Nat) (W' : World), IntsAt W' a SX → IntsAt W' b MX → Calls Try.prog 34 #[.agg #[.slice a SX.length c, .slice b MX.length d, .int .i64 LX], .int .i64 1] W' fun e w' => e = .returned (.int .i64 (matE SX (ownF (strandsL SX MX LX)) 1 1)) ∧ Below W'.heap.size W' w') := Lib.hid fun a b c d W' i1 i2 => by
    refine (self_any SX MX LX a b c d 1 W' hl1 hl2 i1 i2).mono ?_
    rintro e w' ⟨he, hb⟩
    rw [if_pos ⟨hvX, by decide⟩] at he
    have := self_mat SX (ownF (strandsL SX MX LX)) 1
    exact ⟨he.trans (congrArg (fun z => Ending.returned (.int .i64 z)) this), hb⟩
  have hwb1 : -64 ≤ wr S := by omega
  have hwb2 : wr S ≤ 64 := by omega
  have Hm := Lib.hid hmX
  obtain ⟨hb00, hb01⟩ := hb0
  obtain ⟨hb10, hb11⟩ := hb1
  obtain ⟨hsb1, hsb2⟩ := hsb
  have hS64 : S.length ≤ 64 := by omega
  clear hf hv hSl hMl hS hM hl h0 hwb hvX hcX hLX hmX hSX hMX hLXe hcS hbS hl1 hl2 h1
  generalize wr S = wv at *
  generalize matE SX (ownF (strandsL SX MX LX)) 0 0 = m00 at *
  generalize matE SX (ownF (strandsL SX MX LX)) 1 1 = m11 at *
  generalize matE SX (ownF (strandsL SX MX LX)) 0 1 = m01 at *
  generalize nth S q = sq at *
  have hm1 : -200 ≤ m01 := by have := Hm.out; omega
  have hm2 : m01 ≤ 200 := by have := Hm.out; omega
  have hm3 : -64 ≤ m00 := by omega
  have hm4 : m00 ≤ 64 := by omega
  have hm5 : -64 ≤ m11 := by omega
  have hm6 : m11 ≤ 64 := by omega
  clear hb00 hb01 hb10 hb11
  go_enter Try.func12, Try.ntmps12
  go_wp2_with fail
  rw [← hW]
  clear hW
  refine (awake_any W).mono ?_
  rintro e w1 ⟨rfl, hb1⟩
  have H1 := Lib.hid (H0.out.call hb1)
  clear hb1 H0
  have hc0_0 := H1.out.cell (k := 0) (i := 0) rfl rfl
  have hc0_1 := H1.out.cell (k := 0) (i := 1) rfl rfl
  have hc0_2 := H1.out.cell (k := 0) (i := 2) rfl rfl
  go_wp2_with fail
  refine (H29.out w1 H1.out.below).mono ?_
  rintro e w2 ⟨rfl, hb2⟩
  have H2 := Lib.hid (H1.out.call hb2)
  clear hb2 H1
  clear hc0_0 hc0_1 hc0_2
  have hc0_0 := H2.out.cell (k := 0) (i := 0) rfl rfl
  have hc0_1 := H2.out.cell (k := 0) (i := 1) rfl rfl
  have hc0_2 := H2.out.cell (k := 0) (i := 2) rfl rfl
  go_wp2_with fail
  refine (H39.out w2 H2.out.below).mono ?_
  rintro e w3 ⟨rfl, hb3⟩
  have H3 := Lib.hid (H2.out.call hb3)
  clear hb3 H2
  clear hc0_0 hc0_1 hc0_2
  have hc0_0 := H3.out.cell (k := 0) (i := 0) rfl rfl
  have hc0_1 := H3.out.cell (k := 0) (i := 1) rfl rfl
  have hc0_2 := H3.out.cell (k := 0) (i := 2) rfl rfl
  go_wp2_with fail
  refine (H40.out w3 H3.out.below).mono ?_
  rintro e w4 ⟨rfl, hb4⟩
  have H4 := Lib.hid (H3.out.call hb4)
  clear hb4 H3
  clear hc0_0 hc0_1 hc0_2
  have hc0_0 := H4.out.cell (k := 0) (i := 0) rfl rfl
  have hc0_1 := H4.out.cell (k := 0) (i := 1) rfl rfl
  have hc0_2 := H4.out.cell (k := 0) (i := 2) rfl rfl
  go_wp2_with fail
  refine (H57.out w4 H4.out.below).mono ?_
  rintro e w5 ⟨aX, bX, cX, dX, rfl, hiX, hjX, hb5⟩
  have H5 := Lib.hid (H4.out.call hb5)
  have HIX := Lib.hid (And.intro hiX hjX)
  clear hb5 hiX hjX hc0_0 hc0_1 hc0_2 H4
  go_upto_region 5 with fail
  obtain ⟨v, hv6⟩ : ∃ x, x = w5.alloc (.cells #[.slice aX SX.length cX, .slice bX MX.length dX, .int .i64 LX] 24) := ⟨_, rfl⟩
  rw [← hv6]
  have h6 : HH w v [(w.heap.size, rowO 24 [.slice (some ⟨bS, oS, none⟩) S.length cS, .slice aM M.length cM, .int .i64 L]), (w5.heap.size, rowO 24 [.slice aX SX.length cX, .slice bX MX.length dX, .int .i64 LX])] [] := by
    rw [hv6]; exact H5.out.alloc #[.slice aX SX.length cX, .slice bX MX.length dX, .int .i64 LX] 24 rfl rfl
  have hb56 : Below w5.heap.size w5 v := by rw [hv6]; exact (Below.refl _ _).alloc (Nat.le_refl _) _
  have H6 := Lib.hid h6
  have HIv : Hid (∀ W', Below v.heap.size v W' → IntsAt W' aX SX ∧ IntsAt W' bX MX) := Lib.hid fun W' h => ⟨(HIX.out.1.later hb56).later h, (HIX.out.2.later hb56).later h⟩
  generalize w5.heap.size = bx at *
  clear hv6 h6 hb56 H5 HIX
  have hc1_0 := H6.out.cell (k := 1) (i := 0) rfl rfl
  have hc1_1 := H6.out.cell (k := 1) (i := 1) rfl rfl
  have hc1_2 := H6.out.cell (k := 1) (i := 2) rfl rfl
  go_wp2_with fail
  refine (H30.out aX bX cX dX v (HIv.out v (Below.refl _ _)).1 (HIv.out v (Below.refl _ _)).2).mono ?_
  rintro e w7 ⟨rfl, hb7⟩
  have Hb := Lib.hid hb7
  have Hh := Lib.hid (H6.out.call hb7)
  clear hb7 hc1_0 hc1_1 hc1_2
  have HQ2 : Hid (∀ W', Below w7.heap.size w7 W' → Row W' w.heap.size 24 [.slice (some ⟨bS, oS, none⟩) S.length cS, .slice aM M.length cM, .int .i64 L]) := Lib.hid fun W' h => (Hh.out.call h).row (k := 0) rfl
  have HQ6 : Hid (∀ W', Below w7.heap.size w7 W' → Row W' bx 24 [.slice aX SX.length cX, .slice bX MX.length dX, .int .i64 LX]) := Lib.hid fun W' h => (Hh.out.call h).row (k := 1) rfl
  have HC0 : Hid (∀ W', Below w7.heap.size w7 W' → W'.cell? ⟨w.heap.size, 0, none⟩ = some (.slice (some ⟨bS, oS, none⟩) S.length cS)) := Lib.hid fun W' h => (Hh.out.call h).cell (k := 0) (i := 0) rfl rfl
  have HCq : Hid (∀ W', Below w7.heap.size w7 W' → W'.cell? ⟨bS, oS + q, none⟩ = some (.int .i64 sq)) := Lib.hid fun W' h => HcS.out W' (Hh.out.call h).below
  have HSx0 : Hid (∀ W', Below w7.heap.size w7 W' → Calls Try.prog 34 #[.agg #[.slice aX SX.length cX, .slice bX MX.length dX, .int .i64 LX], .int .i64 0] W' fun e w' => e = .returned (.int .i64 m00) ∧ Below w7.heap.size w7 w') := Lib.hid fun W' h => (HS0.out aX bX cX dX W' (HIv.out _ (below_step Hb.out h)).1 (HIv.out _ (below_step Hb.out h)).2).mono fun e w' ⟨he, hb⟩ => ⟨he, below_step h hb⟩
  have HSx1 : Hid (∀ W', Below w7.heap.size w7 W' → Calls Try.prog 34 #[.agg #[.slice aX SX.length cX, .slice bX MX.length dX, .int .i64 LX], .int .i64 1] W' fun e w' => e = .returned (.int .i64 m11) ∧ Below w7.heap.size w7 w') := Lib.hid fun W' h => (HS1.out aX bX cX dX W' (HIv.out _ (below_step Hb.out h)).1 (HIv.out _ (below_step Hb.out h)).2).mono fun e w' ⟨he, hb⟩ => ⟨he, below_step h hb⟩
  have HW0 : Hid (∀ W', Below w7.heap.size w7 W' → Calls Try.prog 33 #[.agg #[.slice (some ⟨bS, oS, none⟩) S.length cS, .slice aM M.length cM, .int .i64 L]] W' fun e w' => e = .returned (.int .i64 wv) ∧ Below w7.heap.size w7 w') := Lib.hid fun W' h => (H33.out W' (Hh.out.call h).below).mono fun e w' ⟨he, hb⟩ => ⟨he, below_step h hb⟩
  have He := Lib.hid (show (m00 + m11 + 2 * m01 == wv - sq) = true from by rw [Hm.out]; exact beq_self_eq_true _)
  go_wp2_with fail
  refine wp_region_class (fun W' => Below w7.heap.size w7 W') (by kernel_rfl) (by kernel_rfl) ((Below.refl _ _).drew) ?_
  refine wpQuiet_move (.tmp 7) (.int .i64 0) rfl rfl rfl ?_
  simp only [Act.put, List.setIfInBounds_toArray, List.set_cons_succ, List.set_cons_zero]
  refine wpQuiet_val (.bool true) rfl (fun W' hW' => ?_) ?_
  · go_simp
  simp only [Act.put, List.setIfInBounds_toArray, List.set_cons_succ, List.set_cons_zero]
  refine wpQuiet_move (.tmp 52) (.bool true) rfl rfl rfl ?_
  simp only [Act.put, List.setIfInBounds_toArray, List.set_cons_succ, List.set_cons_zero]
  refine wpQuietW_move (.tmp 9) (.int .i64 0) (by rfl) rfl rfl ?_
  simp only [Act.put, List.setIfInBounds_toArray, List.set_cons_succ, List.set_cons_zero]
  refine wpQuietW_val (.bool true) (by rfl) (fun W' hW' => ?_) ?_
  · go_simp
  simp only [Act.put, List.setIfInBounds_toArray, List.set_cons_succ, List.set_cons_zero]
  refine wpQuiet_val (.bool true) rfl (fun W' hW' => ?_) ?_
  · go_simp
  simp only [Act.put, List.setIfInBounds_toArray, List.set_cons_succ, List.set_cons_zero]
  refine wpQuiet_move (.tmp 56) (.bool true) rfl rfl rfl ?_
  simp only [Act.put, List.setIfInBounds_toArray, List.set_cons_succ, List.set_cons_zero]
  refine wpQuietW_loadRow (.tmp 6) 24 (bx) 24 [.slice aX SX.length cX, .slice bX MX.length dX, .int .i64 LX] (by rfl) rfl rfl Try.isAgg24 Try.sizeOf24 HQ6.out ?_
  simp only [Act.put, List.setIfInBounds_toArray, List.set_cons_succ, List.set_cons_zero]
  refine wpQuietW_call (.int .i64 m00) 34 _ _ [.agg #[.slice aX SX.length cX, .slice bX MX.length dX, .int .i64 LX], .int .i64 0] (by rfl) rfl rfl Try.call34 (HSx0.out) ?_
  simp only [Act.put, List.setIfInBounds_toArray, List.set_cons_succ, List.set_cons_zero]
  refine wpQuietW_loadRow (.tmp 6) 24 (bx) 24 [.slice aX SX.length cX, .slice bX MX.length dX, .int .i64 LX] (by rfl) rfl rfl Try.isAgg24 Try.sizeOf24 HQ6.out ?_
  simp only [Act.put, List.setIfInBounds_toArray, List.set_cons_succ, List.set_cons_zero]
  refine wpQuietW_call (.int .i64 m11) 34 _ _ [.agg #[.slice aX SX.length cX, .slice bX MX.length dX, .int .i64 LX], .int .i64 1] (by rfl) rfl rfl Try.call34 (HSx1.out) ?_
  simp only [Act.put, List.setIfInBounds_toArray, List.set_cons_succ, List.set_cons_zero]
  refine wpQuietW_val (.int .i64 (m00 + m11)) (by rfl) (fun W' hW' => ?_) ?_
  · go_simp
    rw [IntKind.wrap_i64]; omega
  simp only [Act.put, List.setIfInBounds_toArray, List.set_cons_succ, List.set_cons_zero]
  refine wpQuietW_move (.tmp 8) (.int .i64 m01) (by rfl) rfl rfl ?_
  simp only [Act.put, List.setIfInBounds_toArray, List.set_cons_succ, List.set_cons_zero]
  refine wpQuietW_val (.int .i64 (2 * m01)) (by rfl) (fun W' hW' => ?_) ?_
  · go_simp
    rw [IntKind.wrap_i64]; omega
  simp only [Act.put, List.setIfInBounds_toArray, List.set_cons_succ, List.set_cons_zero]
  refine wpQuietW_val (.int .i64 (m00 + m11 + 2 * m01)) (by rfl) (fun W' hW' => ?_) ?_
  · go_simp
    rw [IntKind.wrap_i64]; omega
  simp only [Act.put, List.setIfInBounds_toArray, List.set_cons_succ, List.set_cons_zero]
  refine wpQuietW_loadRow (.tmp 2) 24 (w.heap.size) 24 [.slice (some ⟨bS, oS, none⟩) S.length cS, .slice aM M.length cM, .int .i64 L] (by rfl) rfl rfl Try.isAgg24 Try.sizeOf24 HQ2.out ?_
  simp only [Act.put, List.setIfInBounds_toArray, List.set_cons_succ, List.set_cons_zero]
  refine wpQuietW_call (.int .i64 wv) 33 _ _ [.agg #[.slice (some ⟨bS, oS, none⟩) S.length cS, .slice aM M.length cM, .int .i64 L]] (by rfl) rfl rfl Try.call33 (HW0.out) ?_
  simp only [Act.put, List.setIfInBounds_toArray, List.set_cons_succ, List.set_cons_zero]
  refine wpQuietW_val (.pointer (some ⟨w.heap.size, 0, none⟩)) (by rfl) (fun W' hW' => ?_) ?_
  · go_simp
  simp only [Act.put, List.setIfInBounds_toArray, List.set_cons_succ, List.set_cons_zero]
  refine wpQuietW_val (.slice (some ⟨bS, oS, none⟩) S.length cS) (by rfl) (fun W' hW' => ?_) ?_
  · have hh := HC0.out W' hW'; go_simp
  simp only [Act.put, List.setIfInBounds_toArray, List.set_cons_succ, List.set_cons_zero]
  refine wpQuietW_move (.tmp 5) (.int .i64 (q : Int)) (by rfl) rfl rfl ?_
  simp only [Act.put, List.setIfInBounds_toArray, List.set_cons_succ, List.set_cons_zero]
  refine wpQuietW_val (.pointer (some ⟨bS, oS + q, none⟩)) (by rfl) (fun W' hW' => ?_) ?_
  · go_simp
  simp only [Act.put, List.setIfInBounds_toArray, List.set_cons_succ, List.set_cons_zero]
  refine wpQuietW_val (.int .i64 sq) (by rfl) (fun W' hW' => ?_) ?_
  · have hh := HCq.out W' hW'; go_simp
  simp only [Act.put, List.setIfInBounds_toArray, List.set_cons_succ, List.set_cons_zero]
  refine wpQuietW_val (.int .i64 (wv - sq)) (by rfl) (fun W' hW' => ?_) ?_
  · go_simp
    rw [IntKind.wrap_i64]; omega
  simp only [Act.put, List.setIfInBounds_toArray, List.set_cons_succ, List.set_cons_zero]
  refine wpQuietW_val (.bool true) (by rfl) (fun W' hW' => ?_) ?_
  · have he := He.out; go_simp
  simp only [Act.put, List.setIfInBounds_toArray, List.set_cons_succ, List.set_cons_zero]
  refine wpQuiet_val (.bool true) rfl (fun W' hW' => ?_) ?_
  · go_simp
  simp only [Act.put, List.setIfInBounds_toArray, List.set_cons_succ, List.set_cons_zero]
  refine wpQuiet_assign (.tmp 75) (.bool true) rfl rfl rfl ?_
  simp only [Act.put, List.setIfInBounds_toArray, List.set_cons_succ, List.set_cons_zero]
  refine wpQuiet_end ?_
  intro w8 hb8
  have Hb8 := Lib.hid ((Hh.out.call hb8).below)
  clear hb8
  go_wp2_with fail
  go_ret
  exact ⟨rfl, Hb8.out⟩
theorem lsm_any (S M : List Int) (L : Int) (aS aM : Option Addr) (cS cM : Nat) (k : Int) (w : World) (hSl : S.length ≤ maxLen) (hMl : M.length ≤ maxLen) (_ : (Lit.int .i64 L).wf = true) (hS : IntsAt w aS S) (hM : IntsAt w aM M) (hk : (Lit.int .u8 k).wf = true) :
    Calls Try.prog 12 #[.agg #[.slice aS S.length cS, .slice aM M.length cM, .int .i64 L], .int .u8 k] w fun e w' => e = .returned (.bool true) ∧ Below w.heap.size w w' := by
  by_cases hf : fewB S M L = true
  · by_cases hv : vldB S M L = true
    · by_cases hn : S.length = 0
      · exact lsm_zero S M L aS aM cS cM k w hf hv hn hS hM
      · by_cases h1 : compsN S M L = 1
        · simp only [Lit.wf, Bool.and_eq_true, decide_eq_true_eq] at hk
          have e1 : IntKind.u8.min = 0 := rfl
          have e2 : IntKind.u8.max = 255 := rfl
          rw [e1, e2] at hk
          exact lsm_yes S M L aS aM cS cM k w hf hv (by omega) h1 hk.1 hk.2 hS hM
        · exact lsm_other S M L aS aM cS cM k w hf hv (by omega) h1 hS hM
    · exact lsm_no S M L aS aM cS cM k w hf (by simpa using hv) hS hM
  · exact lsm_large S M L aS aM cS cM k w hSl hMl (by simpa using hf)
end Go.Proofs.Ytkopbcehfbmnmaa
