/- The walk of the law LinkingReverses. -/
import Derived.Test.YtkopbcehfbmnmaaTellsW
import Derived.Test.YtkopbcehfbmnmaaROneW
namespace Go.Proofs.Ytkopbcehfbmnmaa
open Go Go.RowKit
set_option maxRecDepth 100000 in
set_option maxHeartbeats 4000000 in
theorem lre_large (S M : List Int) (L : Int) (aS aM : Option Addr) (cS cM : Nat) (k : Int) (w : World) (hSl : S.length ≤ maxLen) (hMl : M.length ≤ maxLen) (hf : fewB S M L = false) :
    Calls Try.prog 10 #[.agg #[.slice aS S.length cS, .slice aM M.length cM, .int .i64 L], .int .u8 k] w fun e w' => e = .returned (.bool true) ∧ Below w.heap.size w w' := by
  obtain ⟨W, hW⟩ : ∃ W, W = w.alloc (.cells #[.slice aS S.length cS, .slice aM M.length cM, .int .i64 L] 24) := ⟨_, rfl⟩
  have HB : Hid (Below w.heap.size w W) := Lib.hid (by rw [hW]; exact (Below.refl _ _).alloc (Nat.le_refl _) _)
  have Hbox : Hid (Row W w.heap.size 24 [.slice aS S.length cS, .slice aM M.length cM, .int .i64 L]) := Lib.hid (by rw [hW]; exact Row.new w #[.slice aS S.length cS, .slice aM M.length cM, .int .i64 L] 24)
  have Hcell : Hid (∀ W', Below W.heap.size W W' → ∀ i, W'.cell? ⟨w.heap.size, i, none⟩ = ([.slice aS S.length cS, .slice aM M.length cM, .int .i64 L] : List Value)[i]?) := Lib.hid fun W' h i => (Hbox.out.later h Hbox.out.lt).cell i
  have HF : Hid (∀ W', Calls Try.prog 29 #[.agg #[.slice aS S.length cS, .slice aM M.length cM, .int .i64 L]] W' fun e w' => e = .returned (.bool false) ∧ Below W'.heap.size W' w') := Lib.hid fun W' => by rw [← hf]; exact few_any S M L aS aM cS cM W' hSl hMl
  clear hf hSl hMl
  go_enter Try.func10, Try.ntmps10
  go_wp2_with fail
  rw [← hW]
  clear hW
  refine (awake_any W).mono ?_
  rintro e w1 ⟨rfl, hb1⟩
  have Hb1 := Lib.hid (hb1)
  clear hb1
  have hc := Hcell.out w1 Hb1.out
  have hc0 := hc 0
  have hc1 := hc 1
  have hc2 := hc 2
  simp only [List.getElem?_cons_succ, List.getElem?_cons_zero] at hc0 hc1 hc2
  clear hc
  go_wp2_with fail
  refine (HF.out w1).mono ?_
  rintro e w2 ⟨rfl, hb2⟩
  have Hb2 := Lib.hid (below_step Hb1.out hb2)
  clear hb2
  clear hc0 hc1 hc2
  have hc := Hcell.out w2 Hb2.out
  have hc0 := hc 0
  have hc1 := hc 1
  have hc2 := hc 2
  simp only [List.getElem?_cons_succ, List.getElem?_cons_zero] at hc0 hc1 hc2
  clear hc
  go_wp2_with fail
  refine (awake_any w2).mono ?_
  rintro e w3 ⟨rfl, hb3⟩
  have Hb3 := Lib.hid (below_step Hb2.out hb3)
  clear hb3
  clear hc0 hc1 hc2
  have hc := Hcell.out w3 Hb3.out
  have hc0 := hc 0
  have hc1 := hc 1
  have hc2 := hc 2
  simp only [List.getElem?_cons_succ, List.getElem?_cons_zero] at hc0 hc1 hc2
  clear hc
  go_wp2_with fail
  go_ret
  exact ⟨rfl, below_step HB.out Hb3.out⟩
set_option maxRecDepth 100000 in
set_option maxHeartbeats 4000000 in
theorem lre_no (S M : List Int) (L : Int) (aS aM : Option Addr) (cS cM : Nat) (k : Int) (w : World) (hf : fewB S M L = true) (hv : vldB S M L = false) (hS : IntsAt w aS S) (hM : IntsAt w aM M) :
    Calls Try.prog 10 #[.agg #[.slice aS S.length cS, .slice aM M.length cM, .int .i64 L], .int .u8 k] w fun e w' => e = .returned (.bool true) ∧ Below w.heap.size w w' := by
  have hl : S.length ≤ 12 ∧ M.length ≤ 60 := by
    have := of_decide_eq_true hf
    exact ⟨this.1, this.2.1⟩
  have hSl : S.length ≤ 1000000000 := by omega
  have hMl : M.length ≤ 1000000000 := by omega
  obtain ⟨W, hW⟩ : ∃ W, W = w.alloc (.cells #[.slice aS S.length cS, .slice aM M.length cM, .int .i64 L] 24) := ⟨_, rfl⟩
  have HB : Hid (Below w.heap.size w W) := Lib.hid (by rw [hW]; exact (Below.refl _ _).alloc (Nat.le_refl _) _)
  have Hbox : Hid (Row W w.heap.size 24 [.slice aS S.length cS, .slice aM M.length cM, .int .i64 L]) := Lib.hid (by rw [hW]; exact Row.new w #[.slice aS S.length cS, .slice aM M.length cM, .int .i64 L] 24)
  have Hcell : Hid (∀ W', Below W.heap.size W W' → ∀ i, W'.cell? ⟨w.heap.size, i, none⟩ = ([.slice aS S.length cS, .slice aM M.length cM, .int .i64 L] : List Value)[i]?) := Lib.hid fun W' h i => (Hbox.out.later h Hbox.out.lt).cell i
  have HS := Lib.hid hS
  have HM := Lib.hid hM
  have H29 : Hid (∀ W', Below W.heap.size W W' → Calls Try.prog 29 #[.agg #[.slice aS S.length cS, .slice aM M.length cM, .int .i64 L]] W' fun e w' => e = .returned (.bool true) ∧ Below W'.heap.size W' w') := Lib.hid fun W' hW' => by
    rw [← hf]; exact few_any S M L aS aM cS cM W' (by unfold maxLen; omega) (by unfold maxLen; omega)
  have H39 : Hid (∀ W', Below W.heap.size W W' → Calls Try.prog 39 #[.agg #[.slice aS S.length cS, .slice aM M.length cM, .int .i64 L]] W' fun e w' => e = .returned (.bool false) ∧ Below W'.heap.size W' w') := Lib.hid fun W' hW' => by
    have hS' := HS.out.later (below_step HB.out hW')
    have hM' := HM.out.later (below_step HB.out hW')
    rw [← hv]; exact valid_any S M L aS aM cS cM W' hSl hMl hS' hM'
  clear hf hv hSl hMl hS hM hl
  go_enter Try.func10, Try.ntmps10
  go_wp2_with fail
  rw [← hW]
  clear hW
  refine (awake_any W).mono ?_
  rintro e w1 ⟨rfl, hb1⟩
  have Hb1 := Lib.hid (hb1)
  clear hb1
  have hc := Hcell.out w1 Hb1.out
  have hc0 := hc 0
  have hc1 := hc 1
  have hc2 := hc 2
  simp only [List.getElem?_cons_succ, List.getElem?_cons_zero] at hc0 hc1 hc2
  clear hc
  go_wp2_with fail
  refine (H29.out w1 Hb1.out).mono ?_
  rintro e w2 ⟨rfl, hb2⟩
  have Hb2 := Lib.hid (below_step Hb1.out hb2)
  clear hb2
  clear hc0 hc1 hc2
  have hc := Hcell.out w2 Hb2.out
  have hc0 := hc 0
  have hc1 := hc 1
  have hc2 := hc 2
  simp only [List.getElem?_cons_succ, List.getElem?_cons_zero] at hc0 hc1 hc2
  clear hc
  go_wp2_with fail
  refine (H39.out w2 Hb2.out).mono ?_
  rintro e w3 ⟨rfl, hb3⟩
  have Hb3 := Lib.hid (below_step Hb2.out hb3)
  clear hb3
  clear hc0 hc1 hc2
  have hc := Hcell.out w3 Hb3.out
  have hc0 := hc 0
  have hc1 := hc 1
  have hc2 := hc 2
  simp only [List.getElem?_cons_succ, List.getElem?_cons_zero] at hc0 hc1 hc2
  clear hc
  go_wp2_with fail
  refine (awake_any w3).mono ?_
  rintro e w4 ⟨rfl, hb4⟩
  have Hb4 := Lib.hid (below_step Hb3.out hb4)
  clear hb4
  clear hc0 hc1 hc2
  have hc := Hcell.out w4 Hb4.out
  have hc0 := hc 0
  have hc1 := hc 1
  have hc2 := hc 2
  simp only [List.getElem?_cons_succ, List.getElem?_cons_zero] at hc0 hc1 hc2
  clear hc
  go_wp2_with fail
  go_ret
  exact ⟨rfl, below_step HB.out Hb4.out⟩
set_option maxRecDepth 100000 in
set_option maxHeartbeats 4000000 in
theorem lre_zero (S M : List Int) (L : Int) (aS aM : Option Addr) (cS cM : Nat) (k : Int) (w : World) (hf : fewB S M L = true) (hv : vldB S M L = true) (hN : compsN S M L = 0) (hS : IntsAt w aS S) (hM : IntsAt w aM M) :
    Calls Try.prog 10 #[.agg #[.slice aS S.length cS, .slice aM M.length cM, .int .i64 L], .int .u8 k] w fun e w' => e = .returned (.bool true) ∧ Below w.heap.size w w' := by
  have hl : S.length ≤ 12 ∧ M.length ≤ 60 := by
    have := of_decide_eq_true hf
    exact ⟨this.1, this.2.1⟩
  have hSl : S.length ≤ 1000000000 := by omega
  have hMl : M.length ≤ 1000000000 := by omega
  obtain ⟨W, hW⟩ : ∃ W, W = w.alloc (.cells #[.slice aS S.length cS, .slice aM M.length cM, .int .i64 L] 24) := ⟨_, rfl⟩
  have h0 : HH w W [(w.heap.size, rowO 24 [.slice aS S.length cS, .slice aM M.length cM, .int .i64 L])] [] := by rw [hW]; exact ((HH.start w).alloc #[.slice aS S.length cS, .slice aM M.length cM, .int .i64 L] 24 rfl rfl)
  have H0 := Lib.hid h0
  have H29 : Hid (∀ W', Below w.heap.size w W' → Calls Try.prog 29 #[.agg #[.slice aS S.length cS, .slice aM M.length cM, .int .i64 L]] W' fun e w' => e = .returned (.bool true) ∧ Below W'.heap.size W' w') := Lib.hid fun W' hW' => by rw [← hf]; exact few_any S M L aS aM cS cM W' (by unfold maxLen; omega) (by unfold maxLen; omega)
  have H39 : Hid (∀ W', Below w.heap.size w W' → Calls Try.prog 39 #[.agg #[.slice aS S.length cS, .slice aM M.length cM, .int .i64 L]] W' fun e w' => e = .returned (.bool true) ∧ Below W'.heap.size W' w') := Lib.hid fun W' hW' => by rw [← hv]; exact valid_any S M L aS aM cS cM W' hSl hMl (hS.later hW') (hM.later hW')
  have H40 : Hid (∀ W', Below w.heap.size w W' → Calls Try.prog 40 #[.agg #[.slice aS S.length cS, .slice aM M.length cM, .int .i64 L]] W' fun e w' => e = .returned (.int .i64 0) ∧ Below W'.heap.size W' w') := Lib.hid fun W' hW' => by rw [← hN]; exact components_any S M L aS aM cS cM W' hSl hMl (hS.later hW') (hM.later hW')
  clear hf hv hSl hMl hS hM hl h0 hN
  go_enter Try.func10, Try.ntmps10
  go_wp2_with fail
  rw [← hW]
  clear hW
  refine (awake_any W).mono ?_
  rintro e w1 ⟨rfl, hb1⟩
  have H1 := Lib.hid (H0.out.call hb1)
  clear hb1 H0
  have hc0_0 := H1.out.cell (k := 0) (i := 0) rfl rfl
  have hc0_1 := H1.out.cell (k := 0) (i := 1) rfl rfl
  have hc0_2 := H1.out.cell (k := 0) (i := 2) rfl rfl
  go_wp2_with fail
  refine (H29.out w1 H1.out.below).mono ?_
  rintro e w2 ⟨rfl, hb2⟩
  have H2 := Lib.hid (H1.out.call hb2)
  clear hb2 H1
  clear hc0_0 hc0_1 hc0_2
  have hc0_0 := H2.out.cell (k := 0) (i := 0) rfl rfl
  have hc0_1 := H2.out.cell (k := 0) (i := 1) rfl rfl
  have hc0_2 := H2.out.cell (k := 0) (i := 2) rfl rfl
  go_wp2_with fail
  refine (H39.out w2 H2.out.below).mono ?_
  rintro e w3 ⟨rfl, hb3⟩
  have H3 := Lib.hid (H2.out.call hb3)
  clear hb3 H2
  clear hc0_0 hc0_1 hc0_2
  have hc0_0 := H3.out.cell (k := 0) (i := 0) rfl rfl
  have hc0_1 := H3.out.cell (k := 0) (i := 1) rfl rfl
  have hc0_2 := H3.out.cell (k := 0) (i := 2) rfl rfl
  go_wp2_with fail
  refine (H40.out w3 H3.out.below).mono ?_
  rintro e w4 ⟨rfl, hb4⟩
  have H4 := Lib.hid (H3.out.call hb4)
  clear hb4 H3
  clear hc0_0 hc0_1 hc0_2
  have hc0_0 := H4.out.cell (k := 0) (i := 0) rfl rfl
  have hc0_1 := H4.out.cell (k := 0) (i := 1) rfl rfl
  have hc0_2 := H4.out.cell (k := 0) (i := 2) rfl rfl
  go_wp2_with fail
  go_ret
  exact ⟨rfl, H4.out.below⟩
set_option maxRecDepth 100000 in
set_option maxHeartbeats 16000000 in
theorem lre_yes (S M : List Int) (L : Int) (aS aM : Option Addr) (cS cM : Nat) (k : Int) (w : World) (hf : fewB S M L = true) (hv : vldB S M L = true) (hn : compsN S M L ≠ 0) (hk0 : 0 ≤ k) (hk1 : k ≤ 255) (hS : IntsAt w aS S) (hM : IntsAt w aM M) :
    Calls Try.prog 10 #[.agg #[.slice aS S.length cS, .slice aM M.length cM, .int .i64 L], .int .u8 k] w fun e w' => e = .returned (.bool true) ∧ Below w.heap.size w w' := by
  have hl : S.length ≤ 12 ∧ M.length ≤ 60 := by
    have := of_decide_eq_true hf
    exact ⟨this.1, this.2.1⟩
  have hSl : S.length ≤ 1000000000 := by omega
  have hMl : M.length ≤ 1000000000 := by omega
  obtain ⟨N, hN, hNl, hNs⟩ := compsN_nat hv
  have hN0 : 0 < N := by omega
  obtain ⟨q, hq⟩ : ∃ q : Nat, k.tmod (N : Int) = (q : Int) := ⟨(k.tmod N).toNat, by have := Int.tmod_nonneg (N : Int) hk0; omega⟩
  have hqN : q < N := by have := Int.tmod_lt_of_pos k (show (0 : Int) < N by omega); omega
  have hNe : ((strandsL S M L).length : Int) + L = (N : Int) := by rw [← hN, compsN, if_pos hv]
  have hwb := sumTo_bd S (ownF (strandsL S M L)) (fun _ _ => true) (vldB_shape hv).signBd S.length
  have htb := sumTo_bd S (ownF (strandsL S M L)) (fun u o => u != o) (vldB_shape hv).signBd S.length
  rw [writhe_wr] at hwb
  rw [total_tl hv] at htb
  have htb2 := tdiv2_bd (tl S M) (by omega)
  have hl1 : (mulS S (r1S S M q)).length ≤ 1000000000 := by rw [mulS_len]; exact hSl
  have hl2 : (mvL (trn (r1B S M q)) M).length ≤ 1000000000 := by rw [mvL_len]; exact hMl
  have hvX := r1_valid hv q
  have hwX := r1_wr (S := S) (M := M) (i := q)
  have htX := r1_tl hv q
  have hoA := oth_all hv q N hNs
  have hte := tl_even hv
  have hwX2 : wr (mulS S (r1S S M q)) = wr S - 4 * oth S M L q N := by omega
  have htX2 : (tl (mulS S (r1S S M q)) (mvL (trn (r1B S M q)) M)).tdiv 2 = (tl S M).tdiv 2 - 2 * oth S M L q N := by
    rw [htX, ← hoA]
    generalize tl S M = t at *
    generalize oth S M L q N = o at *
    obtain ⟨t2, rfl⟩ : ∃ t2, t = 2 * t2 := ⟨t / 2, by omega⟩
    rw [show 2 * t2 - 2 * (2 * o) = 2 * (t2 - 2 * o) from by omega, Int.mul_tdiv_cancel_left _ (by decide), Int.mul_tdiv_cancel_left _ (by decide)]
  obtain ⟨SX, hSX⟩ : ∃ x, x = mulS S (r1S S M q) := ⟨_, rfl⟩
  obtain ⟨MX, hMX⟩ : ∃ x, x = mvL (trn (r1B S M q)) M := ⟨_, rfl⟩
  rw [← hSX] at hwX2 hl1
  rw [← hSX, ← hMX] at htX2 hvX
  rw [← hMX] at hl2
  have Hob := Lib.hid (oth_bd hv q)
  have Ho0 : Hid (oth S M L q 0 = 0) := Lib.hid rfl
  have Hos : Hid (∀ j, oth S M L q (j + 1) = oth S M L q j + if j = q then 0 else matE S (ownF (strandsL S M L)) q j) := Lib.hid fun j => rfl
  obtain ⟨W, hW⟩ : ∃ W, W = w.alloc (.cells #[.slice aS S.length cS, .slice aM M.length cM, .int .i64 L] 24) := ⟨_, rfl⟩
  have h0 : HH w W [(w.heap.size, rowO 24 [.slice aS S.length cS, .slice aM M.length cM, .int .i64 L])] [] := by rw [hW]; exact ((HH.start w).alloc #[.slice aS S.length cS, .slice aM M.length cM, .int .i64 L] 24 rfl rfl)
  have H0 := Lib.hid h0
  have H29 : Hid (∀ W', Below w.heap.size w W' → Calls Try.prog 29 #[.agg #[.slice aS S.length cS, .slice aM M.length cM, .int .i64 L]] W' fun e w' => e = .returned (.bool true) ∧ Below W'.heap.size W' w') := Lib.hid fun W' hW' => by rw [← hf]; exact few_any S M L aS aM cS cM W' (by unfold maxLen; omega) (by unfold maxLen; omega)
  have H39 : Hid (∀ W', Below w.heap.size w W' → Calls Try.prog 39 #[.agg #[.slice aS S.length cS, .slice aM M.length cM, .int .i64 L]] W' fun e w' => e = .returned (.bool true) ∧ Below W'.heap.size W' w') := Lib.hid fun W' hW' => by rw [← hv]; exact valid_any S M L aS aM cS cM W' hSl hMl (hS.later hW') (hM.later hW')
  have H40 : Hid (∀ W', Below w.heap.size w W' → Calls Try.prog 40 #[.agg #[.slice aS S.length cS, .slice aM M.length cM, .int .i64 L]] W' fun e w' => e = .returned (.int .i64 (N : Int)) ∧ Below W'.heap.size W' w') := Lib.hid fun W' hW' => by rw [← hN]; exact components_any S M L aS aM cS cM W' hSl hMl (hS.later hW') (hM.later hW')
  have H56 : Hid (∀ W', Below w.heap.size w W' → Calls Try.prog 56 #[.agg #[.slice aS S.length cS, .slice aM M.length cM, .int .i64 L], .int .i64 (q : Int)] W' (DgR W' SX MX L 0)) := Lib.hid fun W' hW' => by rw [hSX, hMX]; exact rone_yes S M L aS aM cS cM q W' hv (by omega) (hS.later hW') (hM.later hW')
  have H30 : Hid (∀ (j : Nat) (_ : j < N) (_ : j ≠ q) W', Below w.heap.size w W' → Calls Try.prog 30 #[.agg #[.slice aS S.length cS, .slice aM M.length cM, .int .i64 L], .int .i64 (q : Int), .int .i64 (j : Int)] W' fun e w' => e = .returned (.tuple #[.int .i64 (matE S (ownF (strandsL S M L)) q j), .int .i64 0]) ∧ Below W'.heap.size W' w') := Lib.hid fun j hjN hjq W' hW' => by
    have h := number_any S M L aS aM cS cM (q : Int) (j : Int) W' hSl hMl (hS.later hW') (hM.later hW')
    have e : numberR S M L (q : Int) (j : Int) = (matE S (ownF (strandsL S M L)) q j, 0) := by
      unfold numberR
      rw [if_pos hv, if_neg (by omega)]
      unfold matE pr
      rw [if_neg (fun e => hjq e.symm)]
    rw [e] at h
    exact h
  have H33 : Hid (∀ W', Below w.heap.size w W' → Calls Try.prog 33 #[.agg #[.slice aS S.length cS, .slice aM M.length cM, .int .i64 L]] W' fun e w' => e = .returned (.int .i64 (wr S)) ∧ Below W'.heap.size W' w') := Lib.hid fun W' hW' => by
    refine (writhe_any S M L aS aM cS cM W' hSl hMl (hS.later hW') (hM.later hW')).mono ?_
    rintro e w' ⟨he, hb⟩
    rw [if_pos hv, writhe_wr] at he
    exact ⟨he, hb⟩
  have H35 : Hid (∀ W', Below w.heap.size w W' → Calls Try.prog 35 #[.agg #[.slice aS S.length cS, .slice aM M.length cM, .int .i64 L]] W' fun e w' => e = .returned (.int .i64 ((tl S M).tdiv 2)) ∧ Below W'.heap.size W' w') := Lib.hid fun W' hW' => by
    refine (total_any S M L aS aM cS cM W' hSl hMl (hS.later hW') (hM.later hW')).mono ?_
    rintro e w' ⟨he, hb⟩
    rw [if_pos hv, total_tl hv] at he
    exact ⟨he, hb⟩
  have HW2 : Hid (∀ (a b : Option Addr) (c d : Nat) (W' : World), IntsAt W' a SX → IntsAt W' b MX → Calls Try.prog 33 #[.agg #[.slice a SX.length c, .slice b MX.length d, .int .i64 L]] W' fun e w' => e = .returned (.int .i64 (wr S - 4 * oth S M L q N)) ∧ Below W'.heap.size W' w') := Lib.hid fun a b c d W' i1 i2 => by
    refine (writhe_any SX MX L a b c d W' hl1 hl2 i1 i2).mono ?_
    rintro e w' ⟨he, hb⟩
    rw [if_pos hvX, writhe_wr, hwX2] at he
    exact ⟨he, hb⟩
  have HT2 : Hid (∀ (a b : Option Addr) (c d : Nat) (W' : World), IntsAt W' a SX → IntsAt W' b MX → Calls Try.prog 35 #[.agg #[.slice a SX.length c, .slice b MX.length d, .int .i64 L]] W' fun e w' => e = .returned (.int .i64 ((tl S M).tdiv 2 - 2 * oth S M L q N)) ∧ Below W'.heap.size W' w') := Lib.hid fun a b c d W' i1 i2 => by
    refine (total_any SX MX L a b c d W' hl1 hl2 i1 i2).mono ?_
    rintro e w' ⟨he, hb⟩
    rw [if_pos hvX, total_tl hvX, htX2] at he
    exact ⟨he, hb⟩
  obtain ⟨htb3, htb4⟩ := htb2
  have hwb1 : -64 ≤ wr S := by omega
  have hwb2 : wr S ≤ 64 := by omega
  clear hf hv hSl hMl hS hM hl h0 hN hn hSX hMX hwb htb hwX htX hoA hte hwX2 htX2 hl1 hl2 hvX hNe hNs
  obtain ⟨o, ho⟩ : ∃ o, o = oth S M L q := ⟨_, rfl⟩
  rw [← ho] at Hob Hos HW2 HT2 Ho0
  clear ho
  generalize wr S = wv at *
  generalize (tl S M).tdiv 2 = tv at *
  generalize matE S (ownF (strandsL S M L)) q = mq at *
  have dn0 : decide ((N : Int) = 0) = false := decide_eq_false (by omega)
  have dn1 : ¬ ((N : Int) = 0) := by omega
  have dn2 : ((N : Int) == 0) = false := by rw [beq_eq_false_iff_ne]; exact dn1
  go_enter Try.func10, Try.ntmps10
  go_wp2_with fail
  rw [← hW]
  clear hW
  refine (awake_any W).mono ?_
  rintro e w1 ⟨rfl, hb1⟩
  have H1 := Lib.hid (H0.out.call hb1)
  clear hb1 H0
  have hc0_0 := H1.out.cell (k := 0) (i := 0) rfl rfl
  have hc0_1 := H1.out.cell (k := 0) (i := 1) rfl rfl
  have hc0_2 := H1.out.cell (k := 0) (i := 2) rfl rfl
  go_wp2_with fail
  refine (H29.out w1 H1.out.below).mono ?_
  rintro e w2 ⟨rfl, hb2⟩
  have H2 := Lib.hid (H1.out.call hb2)
  clear hb2 H1
  clear hc0_0 hc0_1 hc0_2
  have hc0_0 := H2.out.cell (k := 0) (i := 0) rfl rfl
  have hc0_1 := H2.out.cell (k := 0) (i := 1) rfl rfl
  have hc0_2 := H2.out.cell (k := 0) (i := 2) rfl rfl
  go_wp2_with fail
  refine (H39.out w2 H2.out.below).mono ?_
  rintro e w3 ⟨rfl, hb3⟩
  have H3 := Lib.hid (H2.out.call hb3)
  clear hb3 H2
  clear hc0_0 hc0_1 hc0_2
  have hc0_0 := H3.out.cell (k := 0) (i := 0) rfl rfl
  have hc0_1 := H3.out.cell (k := 0) (i := 1) rfl rfl
  have hc0_2 := H3.out.cell (k := 0) (i := 2) rfl rfl
  go_wp2_with fail
  refine (H40.out w3 H3.out.below).mono ?_
  rintro e w4 ⟨rfl, hb4⟩
  have H4 := Lib.hid (H3.out.call hb4)
  clear hb4 H3
  clear hc0_0 hc0_1 hc0_2
  have hc0_0 := H4.out.cell (k := 0) (i := 0) rfl rfl
  have hc0_1 := H4.out.cell (k := 0) (i := 1) rfl rfl
  have hc0_2 := H4.out.cell (k := 0) (i := 2) rfl rfl
  go_wp2_with fail
  refine (H56.out w4 H4.out.below).mono ?_
  rintro e w5 ⟨aX, bX, cX, dX, rfl, hiX, hjX, hb5⟩
  have H5 := Lib.hid (H4.out.call hb5)
  have HIX := Lib.hid (And.intro hiX hjX)
  clear hb5 hiX hjX hc0_0 hc0_1 hc0_2 H4
  go_upto_region 9 with fail
  obtain ⟨v, hv6⟩ : ∃ x, x = w5.alloc (.cells #[.slice aX SX.length cX, .slice bX MX.length dX, .int .i64 L] 24) := ⟨_, rfl⟩
  rw [← hv6]
  have h6 : HH w v [(w.heap.size, rowO 24 [.slice aS S.length cS, .slice aM M.length cM, .int .i64 L]), (w5.heap.size, rowO 24 [.slice aX SX.length cX, .slice bX MX.length dX, .int .i64 L])] [] := by
    rw [hv6]; exact H5.out.alloc #[.slice aX SX.length cX, .slice bX MX.length dX, .int .i64 L] 24 rfl rfl
  have hb56 : Below w5.heap.size w5 v := by rw [hv6]; exact (Below.refl _ _).alloc (Nat.le_refl _) _
  have H6 := Lib.hid h6
  have HIv : Hid (∀ W', Below v.heap.size v W' → IntsAt W' aX SX ∧ IntsAt W' bX MX) := Lib.hid fun W' h => ⟨(HIX.out.1.later hb56).later h, (HIX.out.2.later hb56).later h⟩
  generalize w5.heap.size = bx at *
  clear hv6 h6 hb56 H5 HIX
  have Hbv := Lib.hid (Below.refl v.heap.size v)
  go_wp2_with fail
  go_loopg [9, 41] N (fun g s i wr => ∃ j : Nat, j ≤ N ∧ g = N - j ∧ s = .int .i64 (o j) ∧ i = .int .i64 j ∧ Below v.heap.size v wr ∧ HH w wr [(w.heap.size, rowO 24 [.slice aS S.length cS, .slice aM M.length cM, .int .i64 L]), (bx, rowO 24 [.slice aX SX.length cX, .slice bX MX.length dX, .int .i64 L])] [])
  case atStart => exact ⟨0, Nat.zero_le _, rfl, by rw [Ho0.out], rfl, Hbv.out, H6.out⟩
  case round =>
    clear H6 Hbv
    obtain ⟨j, hj, rfl, rfl, rfl, hb, hh⟩ := hrel
    have Hb := Lib.hid hb
    have Hh := Lib.hid hh
    clear hb hh
    obtain ⟨hob1, hob2⟩ := Hob.out j
    by_cases hjN : j < N
    · by_cases hjq : j = q
      · subst hjq
        have Ho := Lib.hid ((Hos.out j).trans (by rw [if_pos rfl, Int.add_zero]))
        go_wp2_with fail
        go_roundg (N - (j + 1))
        case measure => omega
        case rel => exact ⟨j + 1, by omega, rfl, by rw [Ho.out], by go_num, Hb.out, Hh.out⟩
      · have hjq1 : ¬ ((j : Int) = (q : Int)) := by omega
        have hjq2 : ((j : Int) == (q : Int)) = false := by rw [beq_eq_false_iff_ne]; exact hjq1
        have Ho := Lib.hid ((Hos.out j).trans (by rw [if_neg hjq]))
        have hob3 := (Hob.out (j + 1)).1
        have hob4 := (Hob.out (j + 1)).2
        rw [Ho.out] at hob3 hob4
        have hc0_0 := Hh.out.cell (k := 0) (i := 0) rfl rfl
        have hc0_1 := Hh.out.cell (k := 0) (i := 1) rfl rfl
        have hc0_2 := Hh.out.cell (k := 0) (i := 2) rfl rfl
        go_wp2_with fail
        refine (H30.out j hjN hjq wr Hh.out.below).mono ?_
        rintro e w7 ⟨rfl, hb7⟩
        have Hb7 := Lib.hid (below_step Hb.out hb7)
        have Hh7 := Lib.hid (Hh.out.call hb7)
        clear hb7 hc0_0 hc0_1 hc0_2
        generalize mq j = mj at *
        generalize o j = oj at *
        go_wp2_with fail
        go_roundg (N - (j + 1))
        case measure => omega
        case rel => exact ⟨j + 1, by omega, rfl, by rw [Ho.out], by go_num, Hb7.out, Hh7.out⟩
    · obtain rfl : j = N := by omega
      have HQ2 : Hid (∀ W', Below wr.heap.size wr W' → Row W' w.heap.size 24 [.slice aS S.length cS, .slice aM M.length cM, .int .i64 L]) := Lib.hid fun W' h => (Hh.out.call h).row (k := 0) rfl
      have HQ7 : Hid (∀ W', Below wr.heap.size wr W' → Row W' bx 24 [.slice aX SX.length cX, .slice bX MX.length dX, .int .i64 L]) := Lib.hid fun W' h => (Hh.out.call h).row (k := 1) rfl
      have HWx : Hid (∀ W', Below wr.heap.size wr W' → Calls Try.prog 33 #[.agg #[.slice aX SX.length cX, .slice bX MX.length dX, .int .i64 L]] W' fun e w' => e = .returned (.int .i64 (wv - 4 * o j)) ∧ Below wr.heap.size wr w') := Lib.hid fun W' h => (HW2.out aX bX cX dX W' (HIv.out _ (below_step Hb.out h)).1 (HIv.out _ (below_step Hb.out h)).2).mono fun e w' ⟨he, hb⟩ => ⟨he, below_step h hb⟩
      have HTx : Hid (∀ W', Below wr.heap.size wr W' → Calls Try.prog 35 #[.agg #[.slice aX SX.length cX, .slice bX MX.length dX, .int .i64 L]] W' fun e w' => e = .returned (.int .i64 (tv - 2 * o j)) ∧ Below wr.heap.size wr w') := Lib.hid fun W' h => (HT2.out aX bX cX dX W' (HIv.out _ (below_step Hb.out h)).1 (HIv.out _ (below_step Hb.out h)).2).mono fun e w' ⟨he, hb⟩ => ⟨he, below_step h hb⟩
      have HW0 : Hid (∀ W', Below wr.heap.size wr W' → Calls Try.prog 33 #[.agg #[.slice aS S.length cS, .slice aM M.length cM, .int .i64 L]] W' fun e w' => e = .returned (.int .i64 wv) ∧ Below wr.heap.size wr w') := Lib.hid fun W' h => (H33.out W' (Hh.out.call h).below).mono fun e w' ⟨he, hb⟩ => ⟨he, below_step h hb⟩
      have HT0 : Hid (∀ W', Below wr.heap.size wr W' → Calls Try.prog 35 #[.agg #[.slice aS S.length cS, .slice aM M.length cM, .int .i64 L]] W' fun e w' => e = .returned (.int .i64 tv) ∧ Below wr.heap.size wr w') := Lib.hid fun W' h => (H35.out W' (Hh.out.call h).below).mono fun e w' ⟨he, hb⟩ => ⟨he, below_step h hb⟩
      generalize o j = oj at *
      go_wp2_with fail
      refine wp_region_class (fun W' => Below wr.heap.size wr W') (by kernel_rfl) (by kernel_rfl) ((Below.refl _ _).drew) ?_
      refine wpQuiet_move (.tmp 8) (.int .i64 0) rfl rfl rfl ?_
      simp only [Act.put, List.setIfInBounds_toArray, List.set_cons_succ, List.set_cons_zero]
      refine wpQuiet_val (.bool true) rfl (fun W' hW' => ?_) ?_
      · go_simp
      simp only [Act.put, List.setIfInBounds_toArray, List.set_cons_succ, List.set_cons_zero]
      refine wpQuiet_move (.tmp 61) (.bool true) rfl rfl rfl ?_
      simp only [Act.put, List.setIfInBounds_toArray, List.set_cons_succ, List.set_cons_zero]
      refine wpQuietW_loadRow (.tmp 7) 24 (bx) 24 [.slice aX SX.length cX, .slice bX MX.length dX, .int .i64 L] (by rfl) rfl rfl Try.isAgg24 Try.sizeOf24 HQ7.out ?_
      simp only [Act.put, List.setIfInBounds_toArray, List.set_cons_succ, List.set_cons_zero]
      refine wpQuietW_call (.int .i64 (wv - 4 * oj)) 33 _ _ [.agg #[.slice aX SX.length cX, .slice bX MX.length dX, .int .i64 L]] (by rfl) rfl rfl Try.call33 (HWx.out) ?_
      simp only [Act.put, List.setIfInBounds_toArray, List.set_cons_succ, List.set_cons_zero]
      refine wpQuietW_loadRow (.tmp 2) 24 (w.heap.size) 24 [.slice aS S.length cS, .slice aM M.length cM, .int .i64 L] (by rfl) rfl rfl Try.isAgg24 Try.sizeOf24 HQ2.out ?_
      simp only [Act.put, List.setIfInBounds_toArray, List.set_cons_succ, List.set_cons_zero]
      refine wpQuietW_call (.int .i64 wv) 33 _ _ [.agg #[.slice aS S.length cS, .slice aM M.length cM, .int .i64 L]] (by rfl) rfl rfl Try.call33 (HW0.out) ?_
      simp only [Act.put, List.setIfInBounds_toArray, List.set_cons_succ, List.set_cons_zero]
      refine wpQuietW_move (.tmp 9) (.int .i64 oj) (by rfl) rfl rfl ?_
      simp only [Act.put, List.setIfInBounds_toArray, List.set_cons_succ, List.set_cons_zero]
      refine wpQuietW_val (.int .i64 (4 * oj)) (by rfl) (fun W' hW' => ?_) ?_
      · go_simp
        rw [IntKind.wrap_i64]; omega
      simp only [Act.put, List.setIfInBounds_toArray, List.set_cons_succ, List.set_cons_zero]
      refine wpQuietW_val (.int .i64 (wv - 4 * oj)) (by rfl) (fun W' hW' => ?_) ?_
      · go_simp
        rw [IntKind.wrap_i64]; omega
      simp only [Act.put, List.setIfInBounds_toArray, List.set_cons_succ, List.set_cons_zero]
      refine wpQuietW_val (.bool true) (by rfl) (fun W' hW' => ?_) ?_
      · go_simp
      simp only [Act.put, List.setIfInBounds_toArray, List.set_cons_succ, List.set_cons_zero]
      refine wpQuiet_val (.bool true) rfl (fun W' hW' => ?_) ?_
      · go_simp
      simp only [Act.put, List.setIfInBounds_toArray, List.set_cons_succ, List.set_cons_zero]
      refine wpQuiet_move (.tmp 71) (.bool true) rfl rfl rfl ?_
      simp only [Act.put, List.setIfInBounds_toArray, List.set_cons_succ, List.set_cons_zero]
      refine wpQuietW_loadRow (.tmp 7) 24 (bx) 24 [.slice aX SX.length cX, .slice bX MX.length dX, .int .i64 L] (by rfl) rfl rfl Try.isAgg24 Try.sizeOf24 HQ7.out ?_
      simp only [Act.put, List.setIfInBounds_toArray, List.set_cons_succ, List.set_cons_zero]
      refine wpQuietW_call (.int .i64 (tv - 2 * oj)) 35 _ _ [.agg #[.slice aX SX.length cX, .slice bX MX.length dX, .int .i64 L]] (by rfl) rfl rfl Try.call35 (HTx.out) ?_
      simp only [Act.put, List.setIfInBounds_toArray, List.set_cons_succ, List.set_cons_zero]
      refine wpQuietW_loadRow (.tmp 2) 24 (w.heap.size) 24 [.slice aS S.length cS, .slice aM M.length cM, .int .i64 L] (by rfl) rfl rfl Try.isAgg24 Try.sizeOf24 HQ2.out ?_
      simp only [Act.put, List.setIfInBounds_toArray, List.set_cons_succ, List.set_cons_zero]
      refine wpQuietW_call (.int .i64 tv) 35 _ _ [.agg #[.slice aS S.length cS, .slice aM M.length cM, .int .i64 L]] (by rfl) rfl rfl Try.call35 (HT0.out) ?_
      simp only [Act.put, List.setIfInBounds_toArray, List.set_cons_succ, List.set_cons_zero]
      refine wpQuietW_move (.tmp 9) (.int .i64 oj) (by rfl) rfl rfl ?_
      simp only [Act.put, List.setIfInBounds_toArray, List.set_cons_succ, List.set_cons_zero]
      refine wpQuietW_val (.int .i64 (2 * oj)) (by rfl) (fun W' hW' => ?_) ?_
      · go_simp
        rw [IntKind.wrap_i64]; omega
      simp only [Act.put, List.setIfInBounds_toArray, List.set_cons_succ, List.set_cons_zero]
      refine wpQuietW_val (.int .i64 (tv - 2 * oj)) (by rfl) (fun W' hW' => ?_) ?_
      · go_simp
        rw [IntKind.wrap_i64]; omega
      simp only [Act.put, List.setIfInBounds_toArray, List.set_cons_succ, List.set_cons_zero]
      refine wpQuietW_val (.bool true) (by rfl) (fun W' hW' => ?_) ?_
      · go_simp
      simp only [Act.put, List.setIfInBounds_toArray, List.set_cons_succ, List.set_cons_zero]
      refine wpQuiet_val (.bool true) rfl (fun W' hW' => ?_) ?_
      · go_simp
      simp only [Act.put, List.setIfInBounds_toArray, List.set_cons_succ, List.set_cons_zero]
      refine wpQuiet_assign (.tmp 81) (.bool true) rfl rfl rfl ?_
      simp only [Act.put, List.setIfInBounds_toArray, List.set_cons_succ, List.set_cons_zero]
      refine wpQuiet_end ?_
      intro w8 hb8
      have Hb8 := Lib.hid ((Hh.out.call hb8).below)
      clear hb8
      go_wp2_with fail
      go_ret
      exact ⟨rfl, Hb8.out⟩
theorem lre_any (S M : List Int) (L : Int) (aS aM : Option Addr) (cS cM : Nat) (k : Int) (w : World) (hSl : S.length ≤ maxLen) (hMl : M.length ≤ maxLen) (_ : (Lit.int .i64 L).wf = true) (hS : IntsAt w aS S) (hM : IntsAt w aM M) (hk : (Lit.int .u8 k).wf = true) :
    Calls Try.prog 10 #[.agg #[.slice aS S.length cS, .slice aM M.length cM, .int .i64 L], .int .u8 k] w fun e w' => e = .returned (.bool true) ∧ Below w.heap.size w w' := by
  by_cases hf : fewB S M L = true
  · by_cases hv : vldB S M L = true
    · by_cases hN : compsN S M L = 0
      · exact lre_zero S M L aS aM cS cM k w hf hv hN hS hM
      · simp only [Lit.wf, Bool.and_eq_true, decide_eq_true_eq] at hk
        have h1 : IntKind.u8.min = 0 := rfl
        have h2 : IntKind.u8.max = 255 := rfl
        rw [h1, h2] at hk
        exact lre_yes S M L aS aM cS cM k w hf hv hN hk.1 hk.2 hS hM
    · exact lre_no S M L aS aM cS cM k w hf (by simpa using hv) hS hM
  · exact lre_large S M L aS aM cS cM k w hSl hMl (by simpa using hf)
end Go.Proofs.Ytkopbcehfbmnmaa
