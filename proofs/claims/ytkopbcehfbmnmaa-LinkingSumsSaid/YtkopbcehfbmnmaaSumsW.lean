/- The walk of the law LinkingSums. -/
import Derived.Test.YtkopbcehfbmnmaaTellsW
namespace Go.Proofs.Ytkopbcehfbmnmaa
open Go Go.RowKit
theorem sqTo_bd (g : Nat → Nat → Int) (h : ∀ i k, -64 ≤ g i k ∧ g i k ≤ 64) (K : Nat) (hK : K ≤ 1000) (N : Nat) : -(64000 * (N : Int)) ≤ sqTo g K N ∧ sqTo g K N ≤ 64000 * (N : Int) := by
  induction N with
  | zero => simp [sqTo]
  | succ N ih =>
    have h2 := rowTo_bd g N h K
    rw [sqTo]; omega
set_option maxRecDepth 100000 in
set_option maxHeartbeats 4000000 in
theorem sums_large (S M : List Int) (L : Int) (aS aM : Option Addr) (cS cM : Nat) (w : World) (hSl : S.length ≤ maxLen) (hMl : M.length ≤ maxLen) (hf : fewB S M L = false) :
    Calls Try.prog 4 #[.agg #[.slice aS S.length cS, .slice aM M.length cM, .int .i64 L]] w fun e w' => e = .returned (.bool true) ∧ Below w.heap.size w w' := by
  obtain ⟨W, hW⟩ : ∃ W, W = w.alloc (.cells #[.slice aS S.length cS, .slice aM M.length cM, .int .i64 L] 24) := ⟨_, rfl⟩
  have HB : Hid (Below w.heap.size w W) := Lib.hid (by rw [hW]; exact (Below.refl _ _).alloc (Nat.le_refl _) _)
  have Hbox : Hid (Row W w.heap.size 24 [.slice aS S.length cS, .slice aM M.length cM, .int .i64 L]) := Lib.hid (by rw [hW]; exact Row.new w #[.slice aS S.length cS, .slice aM M.length cM, .int .i64 L] 24)
  have Hcell : Hid (∀ W', Below W.heap.size W W' → ∀ i, W'.cell? ⟨w.heap.size, i, none⟩ = ([.slice aS S.length cS, .slice aM M.length cM, .int .i64 L] : List Value)[i]?) := Lib.hid fun W' h i => (Hbox.out.later h Hbox.out.lt).cell i
  have HF : Hid (∀ W', Calls Try.prog 29 #[.agg #[.slice aS S.length cS, .slice aM M.length cM, .int .i64 L]] W' fun e w' => e = .returned (.bool false) ∧ Below W'.heap.size W' w') := Lib.hid fun W' => by rw [← hf]; exact few_any S M L aS aM cS cM W' hSl hMl
  clear hf hSl hMl
  go_enter Try.func4, Try.ntmps4
  go_wp2_with fail
  rw [← hW]
  clear hW
  refine (awake_any W).mono ?_
  rintro e w1 ⟨rfl, hb1⟩
  have Hb1 := Lib.hid (hb1)
  clear hb1
  have hc := Hcell.out w1 Hb1.out
  have hc0 := hc 0
  have hc1 := hc 1
  have hc2 := hc 2
  simp only [List.getElem?_cons_succ, List.getElem?_cons_zero] at hc0 hc1 hc2
  clear hc
  go_wp2_with fail
  refine (HF.out w1).mono ?_
  rintro e w2 ⟨rfl, hb2⟩
  have Hb2 := Lib.hid (below_step Hb1.out hb2)
  clear hb2
  clear hc0 hc1 hc2
  have hc := Hcell.out w2 Hb2.out
  have hc0 := hc 0
  have hc1 := hc 1
  have hc2 := hc 2
  simp only [List.getElem?_cons_succ, List.getElem?_cons_zero] at hc0 hc1 hc2
  clear hc
  go_wp2_with fail
  refine (awake_any w2).mono ?_
  rintro e w3 ⟨rfl, hb3⟩
  have Hb3 := Lib.hid (below_step Hb2.out hb3)
  clear hb3
  clear hc0 hc1 hc2
  have hc := Hcell.out w3 Hb3.out
  have hc0 := hc 0
  have hc1 := hc 1
  have hc2 := hc 2
  simp only [List.getElem?_cons_succ, List.getElem?_cons_zero] at hc0 hc1 hc2
  clear hc
  go_wp2_with fail
  go_ret
  exact ⟨rfl, below_step HB.out Hb3.out⟩
set_option maxRecDepth 100000 in
set_option maxHeartbeats 4000000 in
theorem sums_no (S M : List Int) (L : Int) (aS aM : Option Addr) (cS cM : Nat) (w : World) (hf : fewB S M L = true) (hv : vldB S M L = false) (hS : IntsAt w aS S) (hM : IntsAt w aM M) :
    Calls Try.prog 4 #[.agg #[.slice aS S.length cS, .slice aM M.length cM, .int .i64 L]] w fun e w' => e = .returned (.bool true) ∧ Below w.heap.size w w' := by
  have hl : S.length ≤ 12 ∧ M.length ≤ 60 := by
    have := of_decide_eq_true hf
    exact ⟨this.1, this.2.1⟩
  have hSl : S.length ≤ 1000000000 := by omega
  have hMl : M.length ≤ 1000000000 := by omega
  obtain ⟨W, hW⟩ : ∃ W, W = w.alloc (.cells #[.slice aS S.length cS, .slice aM M.length cM, .int .i64 L] 24) := ⟨_, rfl⟩
  have HB : Hid (Below w.heap.size w W) := Lib.hid (by rw [hW]; exact (Below.refl _ _).alloc (Nat.le_refl _) _)
  have Hbox : Hid (Row W w.heap.size 24 [.slice aS S.length cS, .slice aM M.length cM, .int .i64 L]) := Lib.hid (by rw [hW]; exact Row.new w #[.slice aS S.length cS, .slice aM M.length cM, .int .i64 L] 24)
  have Hcell : Hid (∀ W', Below W.heap.size W W' → ∀ i, W'.cell? ⟨w.heap.size, i, none⟩ = ([.slice aS S.length cS, .slice aM M.length cM, .int .i64 L] : List Value)[i]?) := Lib.hid fun W' h i => (Hbox.out.later h Hbox.out.lt).cell i
  have HS := Lib.hid hS
  have HM := Lib.hid hM
  have H29 : Hid (∀ W', Below W.heap.size W W' → Calls Try.prog 29 #[.agg #[.slice aS S.length cS, .slice aM M.length cM, .int .i64 L]] W' fun e w' => e = .returned (.bool true) ∧ Below W'.heap.size W' w') := Lib.hid fun W' hW' => by
    rw [← hf]; exact few_any S M L aS aM cS cM W' (by unfold maxLen; omega) (by unfold maxLen; omega)
  have H39 : Hid (∀ W', Below W.heap.size W W' → Calls Try.prog 39 #[.agg #[.slice aS S.length cS, .slice aM M.length cM, .int .i64 L]] W' fun e w' => e = .returned (.bool false) ∧ Below W'.heap.size W' w') := Lib.hid fun W' hW' => by
    have hS' := HS.out.later (below_step HB.out hW')
    have hM' := HM.out.later (below_step HB.out hW')
    rw [← hv]; exact valid_any S M L aS aM cS cM W' hSl hMl hS' hM'
  clear hf hv hSl hMl hS hM hl
  go_enter Try.func4, Try.ntmps4
  go_wp2_with fail
  rw [← hW]
  clear hW
  refine (awake_any W).mono ?_
  rintro e w1 ⟨rfl, hb1⟩
  have Hb1 := Lib.hid (hb1)
  clear hb1
  have hc := Hcell.out w1 Hb1.out
  have hc0 := hc 0
  have hc1 := hc 1
  have hc2 := hc 2
  simp only [List.getElem?_cons_succ, List.getElem?_cons_zero] at hc0 hc1 hc2
  clear hc
  go_wp2_with fail
  refine (H29.out w1 Hb1.out).mono ?_
  rintro e w2 ⟨rfl, hb2⟩
  have Hb2 := Lib.hid (below_step Hb1.out hb2)
  clear hb2
  clear hc0 hc1 hc2
  have hc := Hcell.out w2 Hb2.out
  have hc0 := hc 0
  have hc1 := hc 1
  have hc2 := hc 2
  simp only [List.getElem?_cons_succ, List.getElem?_cons_zero] at hc0 hc1 hc2
  clear hc
  go_wp2_with fail
  refine (H39.out w2 Hb2.out).mono ?_
  rintro e w3 ⟨rfl, hb3⟩
  have Hb3 := Lib.hid (below_step Hb2.out hb3)
  clear hb3
  clear hc0 hc1 hc2
  have hc := Hcell.out w3 Hb3.out
  have hc0 := hc 0
  have hc1 := hc 1
  have hc2 := hc 2
  simp only [List.getElem?_cons_succ, List.getElem?_cons_zero] at hc0 hc1 hc2
  clear hc
  go_wp2_with fail
  refine (awake_any w3).mono ?_
  rintro e w4 ⟨rfl, hb4⟩
  have Hb4 := Lib.hid (below_step Hb3.out hb4)
  clear hb4
  clear hc0 hc1 hc2
  have hc := Hcell.out w4 Hb4.out
  have hc0 := hc 0
  have hc1 := hc 1
  have hc2 := hc 2
  simp only [List.getElem?_cons_succ, List.getElem?_cons_zero] at hc0 hc1 hc2
  clear hc
  go_wp2_with fail
  go_ret
  exact ⟨rfl, below_step HB.out Hb4.out⟩
set_option maxRecDepth 100000 in
set_option maxHeartbeats 16000000 in
theorem sums_yes (S M : List Int) (L : Int) (aS aM : Option Addr) (cS cM : Nat) (w : World) (hf : fewB S M L = true) (hv : vldB S M L = true) (hS : IntsAt w aS S) (hM : IntsAt w aM M) :
    Calls Try.prog 4 #[.agg #[.slice aS S.length cS, .slice aM M.length cM, .int .i64 L]] w fun e w' => e = .returned (.bool true) ∧ Below w.heap.size w w' := by
  have hl : S.length ≤ 12 ∧ M.length ≤ 60 := by
    have := of_decide_eq_true hf
    exact ⟨this.1, this.2.1⟩
  have hSl : S.length ≤ 1000000000 := by omega
  have hMl : M.length ≤ 1000000000 := by omega
  obtain ⟨N, hN, hNl, hNs⟩ := compsN_nat hv
  obtain ⟨W, hW⟩ : ∃ W, W = w.alloc (.cells #[.slice aS S.length cS, .slice aM M.length cM, .int .i64 L] 24) := ⟨_, rfl⟩
  have HB : Hid (Below w.heap.size w W) := Lib.hid (by rw [hW]; exact (Below.refl _ _).alloc (Nat.le_refl _) _)
  have Hbox : Hid (Row W w.heap.size 24 [.slice aS S.length cS, .slice aM M.length cM, .int .i64 L]) := Lib.hid (by rw [hW]; exact Row.new w #[.slice aS S.length cS, .slice aM M.length cM, .int .i64 L] 24)
  have Hcell : Hid (∀ W', Below W.heap.size W W' → ∀ i, W'.cell? ⟨w.heap.size, i, none⟩ = ([.slice aS S.length cS, .slice aM M.length cM, .int .i64 L] : List Value)[i]?) := Lib.hid fun W' h i => (Hbox.out.later h Hbox.out.lt).cell i
  have HS := Lib.hid hS
  have HM := Lib.hid hM
  have HE := Lib.hid (matE_bd hv (ownF (strandsL S M L)))
  have Hcm := Lib.hid (matE_comm S (ownF (strandsL S M L)))
  have Hsv := Lib.hid (self_val hv N hNs)
  have Htv := Lib.hid (total_mat hv N hNs)
  have Hwv := Lib.hid (writhe_sq hv N hNs)
  have H29 : Hid (∀ W', Below W.heap.size W W' → Calls Try.prog 29 #[.agg #[.slice aS S.length cS, .slice aM M.length cM, .int .i64 L]] W' fun e w' => e = .returned (.bool true) ∧ Below W'.heap.size W' w') := Lib.hid fun W' hW' => by
    rw [← hf]; exact few_any S M L aS aM cS cM W' (by unfold maxLen; omega) (by unfold maxLen; omega)
  have H39 : Hid (∀ W', Below W.heap.size W W' → Calls Try.prog 39 #[.agg #[.slice aS S.length cS, .slice aM M.length cM, .int .i64 L]] W' fun e w' => e = .returned (.bool true) ∧ Below W'.heap.size W' w') := Lib.hid fun W' hW' => by
    have hS' := HS.out.later (below_step HB.out hW')
    have hM' := HM.out.later (below_step HB.out hW')
    rw [← hv]; exact valid_any S M L aS aM cS cM W' hSl hMl hS' hM'
  have H31 : Hid (∀ W', Below W.heap.size W W' → Calls Try.prog 31 #[.agg #[.slice aS S.length cS, .slice aM M.length cM, .int .i64 L]] W' fun e w' => ∃ a c, e = .returned (.slice a N c) ∧ Below W'.heap.size W' w' ∧ OwnRows w' W'.heap.size a c (matL S (ownF (strandsL S M L)) N)) := Lib.hid fun W' hW' =>
    matrix_yes S M L aS aM cS cM N W' hv hN hNl (HS.out.later (below_step HB.out hW')) (HM.out.later (below_step HB.out hW'))
  have H40 : Hid (∀ W', Below W.heap.size W W' → Calls Try.prog 40 #[.agg #[.slice aS S.length cS, .slice aM M.length cM, .int .i64 L]] W' fun e w' => e = .returned (.int .i64 (N : Int)) ∧ Below W'.heap.size W' w') := Lib.hid fun W' hW' => by
    have hS' := HS.out.later (below_step HB.out hW')
    have hM' := HM.out.later (below_step HB.out hW')
    rw [← hN]; exact components_any S M L aS aM cS cM W' hSl hMl hS' hM'
  have H33 : Hid (∀ W', Below W.heap.size W W' → Calls Try.prog 33 #[.agg #[.slice aS S.length cS, .slice aM M.length cM, .int .i64 L]] W' fun e w' => e = .returned (.int .i64 (sqTo (matE S (ownF (strandsL S M L))) N N)) ∧ Below W'.heap.size W' w') := Lib.hid fun W' hW' => by
    have hS' := HS.out.later (below_step HB.out hW')
    have hM' := HM.out.later (below_step HB.out hW')
    refine (writhe_any S M L aS aM cS cM W' hSl hMl hS' hM').mono ?_
    rintro e w' ⟨he, hb⟩
    rw [if_pos hv, Hwv.out] at he
    exact ⟨he, hb⟩
  have H35 : Hid (∀ W', Below W.heap.size W W' → Calls Try.prog 35 #[.agg #[.slice aS S.length cS, .slice aM M.length cM, .int .i64 L]] W' fun e w' => e = .returned (.int .i64 (triTo (matE S (ownF (strandsL S M L))) N)) ∧ Below W'.heap.size W' w') := Lib.hid fun W' hW' => by
    have hS' := HS.out.later (below_step HB.out hW')
    have hM' := HM.out.later (below_step HB.out hW')
    refine (total_any S M L aS aM cS cM W' hSl hMl hS' hM').mono ?_
    rintro e w' ⟨he, hb⟩
    rw [if_pos hv, Htv.out] at he
    exact ⟨he, hb⟩
  have H34 : Hid (∀ (p : Nat), p < N → ∀ W', Below W.heap.size W W' → Calls Try.prog 34 #[.agg #[.slice aS S.length cS, .slice aM M.length cM, .int .i64 L], .int .i64 (p : Int)] W' fun e w' => e = .returned (.int .i64 (matE S (ownF (strandsL S M L)) p p)) ∧ Below W'.heap.size W' w') := Lib.hid fun p hp W' hW' => by
    refine (self_any S M L aS aM cS cM p W' hSl hMl (HS.out.later (below_step HB.out hW')) (HM.out.later (below_step HB.out hW'))).mono ?_
    rintro e w' ⟨he, hb⟩
    rw [Hsv.out p, if_pos (by omega), Int.toNat_natCast] at he
    exact ⟨he, hb⟩
  clear hf hv hSl hMl hS hM hl hN hNs Hsv Htv Hwv
  generalize ownF (strandsL S M L) = f at *
  go_enter Try.func4, Try.ntmps4
  go_wp2_with fail
  rw [← hW]
  clear hW
  refine (awake_any W).mono ?_
  rintro e w1 ⟨rfl, hb1⟩
  have Hb1 := Lib.hid (hb1)
  clear hb1
  have hc := Hcell.out w1 Hb1.out
  have hc0 := hc 0
  have hc1 := hc 1
  have hc2 := hc 2
  simp only [List.getElem?_cons_succ, List.getElem?_cons_zero] at hc0 hc1 hc2
  clear hc
  go_wp2_with fail
  refine (H29.out w1 Hb1.out).mono ?_
  rintro e w2 ⟨rfl, hb2⟩
  have Hb2 := Lib.hid (below_step Hb1.out hb2)
  clear hb2
  clear hc0 hc1 hc2
  have hc := Hcell.out w2 Hb2.out
  have hc0 := hc 0
  have hc1 := hc 1
  have hc2 := hc 2
  simp only [List.getElem?_cons_succ, List.getElem?_cons_zero] at hc0 hc1 hc2
  clear hc
  go_wp2_with fail
  refine (H39.out w2 Hb2.out).mono ?_
  rintro e w3 ⟨rfl, hb3⟩
  have Hb3 := Lib.hid (below_step Hb2.out hb3)
  clear hb3
  clear hc0 hc1 hc2
  have hc := Hcell.out w3 Hb3.out
  have hc0 := hc 0
  have hc1 := hc 1
  have hc2 := hc 2
  simp only [List.getElem?_cons_succ, List.getElem?_cons_zero] at hc0 hc1 hc2
  clear hc
  go_wp2_with fail
  refine (H31.out w3 Hb3.out).mono ?_
  rintro e w4 ⟨aY, cY, rfl, hb4, hY⟩
  have Hb4 := Lib.hid (below_step Hb3.out hb4)
  clear hb4
  clear hc0 hc1 hc2
  have hc := Hcell.out w4 Hb4.out
  have hc0 := hc 0
  have hc1 := hc 1
  have hc2 := hc 2
  simp only [List.getElem?_cons_succ, List.getElem?_cons_zero] at hc0 hc1 hc2
  clear hc
  have HY4 := Lib.hid hY
  clear hY
  go_wp2_with fail
  refine (H40.out w4 Hb4.out).mono ?_
  rintro e w5 ⟨rfl, hb5⟩
  have Hb5 := Lib.hid (below_step Hb4.out hb5)
  have HY5 := Lib.hid (HY4.out.later hb5 (Nat.le_refl _))
  clear HY4
  clear hb5
  clear hc0 hc1 hc2
  have hc := Hcell.out w5 Hb5.out
  have hc0 := hc 0
  have hc1 := hc 1
  have hc2 := hc 2
  simp only [List.getElem?_cons_succ, List.getElem?_cons_zero] at hc0 hc1 hc2
  clear hc
  go_wp2_with fail
  go_loopg [30, 4, 5] N (fun g p sv tv wr => ∃ p' : Nat, p' ≤ N ∧ g = N - p' ∧ p = .int .i64 p' ∧ sv = .int .i64 (sqTo (matE S f) N p') ∧ tv = .int .i64 (triTo (matE S f) p') ∧ Below W.heap.size W wr ∧ OwnRows wr w3.heap.size aY cY (matL S f N))
  case atStart => exact ⟨0, Nat.zero_le _, rfl, rfl, rfl, rfl, Hb5.out, HY5.out⟩
  case round =>
    clear hc0 hc1 hc2 HY5
    obtain ⟨p', hp', rfl, rfl, rfl, rfl, hbr, hYr⟩ := hrel
    have Hbr := Lib.hid hbr
    have HYr := Lib.hid hYr
    clear hbr hYr
    have hbt := triTo_bd (matE S f) HE.out p' (by omega)
    have hbs := sqTo_bd (matE S f) HE.out N hNl p'
    by_cases hpl : p' < N
    · obtain ⟨wo, rfl⟩ : ∃ x, x = wr := ⟨wr, rfl⟩
      have Htr : Hid (triTo (matE S f) (p' + 1) = triTo (matE S f) p' + rowTo (matE S f) p' p') := Lib.hid rfl
      have Hsr : Hid (sqTo (matE S f) N (p' + 1) = sqTo (matE S f) N p' + rowTo (matE S f) p' N) := Lib.hid rfl
      have H34p : Hid (∀ W', Below wo.heap.size wo W' → Calls Try.prog 34 #[.agg #[.slice aS S.length cS, .slice aM M.length cM, .int .i64 L], .int .i64 (p' : Int)] W' fun e w' => e = .returned (.int .i64 (matE S f p' p')) ∧ Below wo.heap.size wo w') := Lib.hid fun W' h => (H34.out p' hpl W' (below_step Hbr.out h)).mono fun e w' ⟨he, hb⟩ => ⟨he, below_step h hb⟩
      have HQbox : Hid (∀ W', Below wo.heap.size wo W' → Row W' w.heap.size 24 [.slice aS S.length cS, .slice aM M.length cM, .int .i64 L]) := Lib.hid fun W' h => Hbox.out.later (below_step Hbr.out h) Hbox.out.lt
      obtain ⟨bY, oY, rfl, hbY1, hbY2, hYc⟩ := HYr.out.open (by rw [matL, tab_len]; omega)
      obtain ⟨aR, cR, hcR, hoR⟩ := hYc p' _ (tab_get _ _ _ _ hpl)
      rw [row_len] at hcR
      obtain ⟨bR, oR, rfl, hbR1, hbR2, hRc, _⟩ := hoR.open (by rw [ints_length, row_len]; omega)
      have hcE := hRc p' _ (ints_get _ _ (by rw [row_len]; exact hpl))
      rw [nth_row _ _ _ hpl] at hcE
      have HcR : Hid (∀ W', Below wo.heap.size wo W' → W'.cell? ⟨bY, oY + p', none⟩ = some (.slice (some ⟨bR, oR, none⟩) N cR)) := Lib.hid fun W' h => (h.cell (p := ⟨bY, oY + p', none⟩) hbY2).trans hcR
      have HcE : Hid (∀ W', Below wo.heap.size wo W' → W'.cell? ⟨bR, oR + p', none⟩ = some (.int .i64 (matE S f p' p'))) := Lib.hid fun W' h => (h.cell (p := ⟨bR, oR + p', none⟩) hbR2).trans hcE
      clear hYc hoR hRc hcR hcE hbY1 hbY2 hbR1 hbR2
      generalize hsp : matE S f p' p' = sp at *
      clear hsp
      go_wp2_with fail
      refine wp_region_class (fun W' => Below wo.heap.size wo W') (by kernel_rfl) (by kernel_rfl) ((Below.refl _ _).drew) ?_
      refine wpQuiet_move (.tmp 3) (.slice (some ⟨bY, oY, none⟩) N cY) rfl rfl rfl ?_
      simp only [Act.put, List.setIfInBounds_toArray, List.set_cons_succ, List.set_cons_zero]
      refine wpQuiet_move (.tmp 6) (.int .i64 (p' : Int)) rfl rfl rfl ?_
      simp only [Act.put, List.setIfInBounds_toArray, List.set_cons_succ, List.set_cons_zero]
      refine wpQuiet_val (.pointer (some ⟨bY, oY + p', none⟩)) rfl (fun W' hW' => ?_) ?_
      · go_simp
      simp only [Act.put, List.setIfInBounds_toArray, List.set_cons_succ, List.set_cons_zero]
      refine wpQuiet_val (.slice (some ⟨bR, oR, none⟩) N cR) rfl (fun W' hW' => ?_) ?_
      · have hz := HcR.out W' hW'
        go_simp
      simp only [Act.put, List.setIfInBounds_toArray, List.set_cons_succ, List.set_cons_zero]
      refine wpQuiet_val (.int .i64 (N : Int)) rfl (fun W' hW' => ?_) ?_
      · go_simp
      simp only [Act.put, List.setIfInBounds_toArray, List.set_cons_succ, List.set_cons_zero]
      refine wpQuiet_move (.tmp 3) (.slice (some ⟨bY, oY, none⟩) N cY) rfl rfl rfl ?_
      simp only [Act.put, List.setIfInBounds_toArray, List.set_cons_succ, List.set_cons_zero]
      refine wpQuiet_val (.int .i64 (N : Int)) rfl (fun W' hW' => ?_) ?_
      · go_simp
      simp only [Act.put, List.setIfInBounds_toArray, List.set_cons_succ, List.set_cons_zero]
      refine wpQuiet_val (.bool false) rfl (fun W' hW' => ?_) ?_
      · go_simp
      simp only [Act.put, List.setIfInBounds_toArray, List.set_cons_succ, List.set_cons_zero]
      refine wpQuiet_move (.tmp 40) (.bool false) rfl rfl rfl ?_
      simp only [Act.put, List.setIfInBounds_toArray, List.set_cons_succ, List.set_cons_zero]
      refine wpQuietW_move (.tmp 3) (.slice (some ⟨bY, oY, none⟩) N cY) (by rfl) rfl rfl ?_
      simp only [Act.put, List.setIfInBounds_toArray, List.set_cons_succ, List.set_cons_zero]
      refine wpQuietW_move (.tmp 6) (.int .i64 (p' : Int)) (by rfl) rfl rfl ?_
      simp only [Act.put, List.setIfInBounds_toArray, List.set_cons_succ, List.set_cons_zero]
      refine wpQuietW_val (.pointer (some ⟨bY, oY + p', none⟩)) (by rfl) (fun W' hW' => ?_) ?_
      · go_simp
      simp only [Act.put, List.setIfInBounds_toArray, List.set_cons_succ, List.set_cons_zero]
      refine wpQuietW_val (.slice (some ⟨bR, oR, none⟩) N cR) (by rfl) (fun W' hW' => ?_) ?_
      · have hz := HcR.out W' hW'
        go_simp
      simp only [Act.put, List.setIfInBounds_toArray, List.set_cons_succ, List.set_cons_zero]
      refine wpQuietW_move (.tmp 6) (.int .i64 (p' : Int)) (by rfl) rfl rfl ?_
      simp only [Act.put, List.setIfInBounds_toArray, List.set_cons_succ, List.set_cons_zero]
      refine wpQuietW_val (.pointer (some ⟨bR, oR + p', none⟩)) (by rfl) (fun W' hW' => ?_) ?_
      · go_simp
      simp only [Act.put, List.setIfInBounds_toArray, List.set_cons_succ, List.set_cons_zero]
      refine wpQuietW_val (.int .i64 sp) (by rfl) (fun W' hW' => ?_) ?_
      · have hz := HcE.out W' hW'
        go_simp
      simp only [Act.put, List.setIfInBounds_toArray, List.set_cons_succ, List.set_cons_zero]
      refine wpQuietW_loadRow (.tmp 1) 24 w.heap.size 24 [.slice aS S.length cS, .slice aM M.length cM, .int .i64 L] (by rfl) rfl rfl Try.isAgg24 Try.sizeOf24 HQbox.out ?_
      simp only [Act.put, List.setIfInBounds_toArray, List.set_cons_succ, List.set_cons_zero]
      refine wpQuietW_move (.tmp 6) (.int .i64 (p' : Int)) (by rfl) rfl rfl ?_
      simp only [Act.put, List.setIfInBounds_toArray, List.set_cons_succ, List.set_cons_zero]
      refine wpQuietW_call (.int .i64 sp) 34 _ _ [.agg #[.slice aS S.length cS, .slice aM M.length cM, .int .i64 L], .int .i64 (p' : Int)] (by rfl) rfl rfl Try.call34 (H34p.out) ?_
      simp only [Act.put, List.setIfInBounds_toArray, List.set_cons_succ, List.set_cons_zero]
      refine wpQuietW_val (.bool false) (by rfl) (fun W' hW' => ?_) ?_
      · go_simp
      simp only [Act.put, List.setIfInBounds_toArray, List.set_cons_succ, List.set_cons_zero]
      refine wpQuiet_val (.bool false) rfl (fun W' hW' => ?_) ?_
      · go_simp
      simp only [Act.put, List.setIfInBounds_toArray, List.set_cons_succ, List.set_cons_zero]
      refine wpQuiet_end ?_
      intro w6 hb6

      have Hb6 := Lib.hid (below_step Hbr.out hb6)
      have HY6 := Lib.hid (HYr.out.later hb6 (Nat.le_refl _))
      have hz := HcR.out w6 hb6
      clear hb6 HYr Hbr H34p HQbox HcR HcE
      go_wp2_with fail
      clear hz
      go_loopg [59, 4, 5] N (fun g j sv tv wz => ∃ j' : Nat, j' ≤ N ∧ g = N - j' ∧ j = .int .i64 j' ∧ sv = .int .i64 (sqTo (matE S f) N p' + rowTo (matE S f) p' j') ∧ tv = .int .i64 (triTo (matE S f) p' + rowTo (matE S f) p' (min j' p')) ∧ Below W.heap.size W wz ∧ OwnRows wz w3.heap.size (some ⟨bY, oY, none⟩) cY (matL S f N))
      case atStart => exact ⟨0, Nat.zero_le _, rfl, rfl, by simp [rowTo], by simp [rowTo], Hb6.out, HY6.out⟩
      case round =>
        clear HY6
        obtain ⟨j', hj', rfl, rfl, rfl, rfl, hbz, hYz⟩ := hrel
        have Hbz := Lib.hid hbz
        have HYz := Lib.hid hYz
        clear hbz hYz
        have hb1 := rowTo_bd (matE S f) p' HE.out j'
        have hb2 := rowTo_bd (matE S f) p' HE.out (min j' p')
        by_cases hjl : j' < N
        · have Hrt : Hid (rowTo (matE S f) p' (j' + 1) = rowTo (matE S f) p' j' + matE S f p' j') := Lib.hid rfl
          have hbe := HE.out p' j'
          have Hce := Lib.hid (Hcm.out j' p')
          obtain ⟨bq, oq, hq, _, _, hYc⟩ := HYz.out.open (by rw [matL, tab_len]; omega)
          cases hq
          obtain ⟨aR1, cR1, hcR1, hoR1⟩ := hYc p' _ (tab_get _ _ _ _ hpl)
          obtain ⟨aR2, cR2, hcR2, hoR2⟩ := hYc j' _ (tab_get _ _ _ _ hjl)
          rw [row_len] at hcR1 hcR2
          obtain ⟨bR1, oR1, rfl, _, _, hRc1, _⟩ := hoR1.open (by rw [ints_length, row_len]; omega)
          obtain ⟨bR2, oR2, rfl, _, _, hRc2, _⟩ := hoR2.open (by rw [ints_length, row_len]; omega)
          have hcE1 := hRc1 j' _ (ints_get _ _ (by rw [row_len]; exact hjl))
          have hcE2 := hRc2 p' _ (ints_get _ _ (by rw [row_len]; exact hpl))
          rw [nth_row _ _ _ hjl] at hcE1
          rw [nth_row _ _ _ hpl, Hce.out] at hcE2
          clear hYc hoR1 hoR2 hRc1 hRc2
          by_cases hjp : j' < p'
          · have Hm1 : Hid (rowTo (matE S f) p' (min (j' + 1) p') = rowTo (matE S f) p' (min j' p') + matE S f p' j') := Lib.hid (by
              rw [Nat.min_eq_left (by omega), Nat.min_eq_left (by omega)]; rfl)
            generalize rowTo (matE S f) p' (min j' p') = rm at *
            generalize rowTo (matE S f) p' j' = rv at *
            generalize triTo (matE S f) p' = tv at *
            generalize sqTo (matE S f) N p' = qv at *
            generalize matE S f p' j' = ev at *
            clear Hce
            go_wp2_with fail
            go_quiet (fail)
            have Hbz2 := Lib.hid (below_drewNN Hbz.out nq)
            have HYz2 : Hid (OwnRows (wr.drewN nq) w3.heap.size (some ⟨bY, oY, none⟩) cY (matL S f N)) := Lib.hid HYz.out
            go_wp2_with fail
            go_roundg (N - (j' + 1))
            case measure => omega
            case rel => exact ⟨j' + 1, by omega, rfl, by go_num, by rw [Hrt.out, ← Int.add_assoc], by rw [Hm1.out, ← Int.add_assoc], Hbz2.out, HYz2.out⟩
          · have Hm1 : Hid (rowTo (matE S f) p' (min (j' + 1) p') = rowTo (matE S f) p' (min j' p')) := Lib.hid (by
              rw [Nat.min_eq_right (by omega), Nat.min_eq_right (by omega)])
            generalize rowTo (matE S f) p' (min j' p') = rm at *
            generalize rowTo (matE S f) p' j' = rv at *
            generalize triTo (matE S f) p' = tv at *
            generalize sqTo (matE S f) N p' = qv at *
            generalize matE S f p' j' = ev at *
            clear Hce
            go_wp2_with fail
            go_quiet (fail)
            have Hbz2 := Lib.hid (below_drewNN Hbz.out nq)
            have HYz2 : Hid (OwnRows (wr.drewN nq) w3.heap.size (some ⟨bY, oY, none⟩) cY (matL S f N)) := Lib.hid HYz.out
            go_wp2_with fail
            go_roundg (N - (j' + 1))
            case measure => omega
            case rel => exact ⟨j' + 1, by omega, rfl, by go_num, by rw [Hrt.out, ← Int.add_assoc], by rw [Hm1.out], Hbz2.out, HYz2.out⟩
        · obtain rfl : j' = N := by omega
          have Hm1 : Hid (rowTo (matE S f) p' (min j' p') = rowTo (matE S f) p' p') := Lib.hid (by rw [Nat.min_eq_right (by omega)])
          go_wp2_with fail
          go_roundg (j' - (p' + 1))
          case measure => omega
          case rel => exact ⟨p' + 1, by omega, rfl, by go_num, by rw [Hsr.out], by rw [Htr.out, Hm1.out], Hbz.out, HYz.out⟩
    · obtain rfl : p' = N := by omega
      have hc := Hcell.out wr Hbr.out
      have hc0 := hc 0
      have hc1 := hc 1
      have hc2 := hc 2
      simp only [List.getElem?_cons_succ, List.getElem?_cons_zero] at hc0 hc1 hc2
      clear hc HYr
      generalize sqTo (matE S f) p' p' = qv at *
      generalize triTo (matE S f) p' = tv at *
      go_wp2_with fail
      refine (H33.out wr Hbr.out).mono ?_
      rintro e w6 ⟨rfl, hb6⟩
      have Hb6 := Lib.hid (below_step Hbr.out hb6)
      clear hb6 hc0 hc1 hc2
      have hc := Hcell.out w6 Hb6.out
      have hc0 := hc 0
      have hc1 := hc 1
      have hc2 := hc 2
      simp only [List.getElem?_cons_succ, List.getElem?_cons_zero] at hc0 hc1 hc2
      clear hc
      go_wp2_with fail
      refine (H35.out w6 Hb6.out).mono ?_
      rintro e w7 ⟨rfl, hb7⟩
      have Hb7 := Lib.hid (below_step HB.out (below_step Hb6.out hb7))
      clear hb7 hc0 hc1 hc2
      go_wp2_with fail
      go_ret
      exact ⟨rfl, Hb7.out⟩
theorem sums_any (S M : List Int) (L : Int) (aS aM : Option Addr) (cS cM : Nat) (w : World) (hSl : S.length ≤ maxLen) (hMl : M.length ≤ maxLen) (_ : (Lit.int .i64 L).wf = true) (hS : IntsAt w aS S) (hM : IntsAt w aM M) :
    Calls Try.prog 4 #[.agg #[.slice aS S.length cS, .slice aM M.length cM, .int .i64 L]] w fun e w' => e = .returned (.bool true) ∧ Below w.heap.size w w' := by
  by_cases hf : fewB S M L = true
  · by_cases hv : vldB S M L = true
    · exact sums_yes S M L aS aM cS cM w hf hv hS hM
    · exact sums_no S M L aS aM cS cM w hf (by simpa using hv) hS hM
  · exact sums_large S M L aS aM cS cM w hSl hMl (by simpa using hf)
end Go.Proofs.Ytkopbcehfbmnmaa
