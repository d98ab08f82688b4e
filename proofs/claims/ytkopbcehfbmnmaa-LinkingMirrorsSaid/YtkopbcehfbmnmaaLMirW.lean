/- The walk of the law LinkingMirrors. -/
import Derived.Test.YtkopbcehfbmnmaaTellsW
import Derived.Test.YtkopbcehfbmnmaaMirFW
namespace Go.Proofs.Ytkopbcehfbmnmaa
open Go Go.RowKit
set_option maxRecDepth 100000 in
set_option maxHeartbeats 4000000 in
theorem lmir_large (S M : List Int) (L : Int) (aS aM : Option Addr) (cS cM : Nat) (w : World) (hSl : S.length ≤ maxLen) (hMl : M.length ≤ maxLen) (hf : fewB S M L = false) :
    Calls Try.prog 11 #[.agg #[.slice aS S.length cS, .slice aM M.length cM, .int .i64 L]] w fun e w' => e = .returned (.bool true) ∧ Below w.heap.size w w' := by
  obtain ⟨W, hW⟩ : ∃ W, W = w.alloc (.cells #[.slice aS S.length cS, .slice aM M.length cM, .int .i64 L] 24) := ⟨_, rfl⟩
  have HB : Hid (Below w.heap.size w W) := Lib.hid (by rw [hW]; exact (Below.refl _ _).alloc (Nat.le_refl _) _)
  have Hbox : Hid (Row W w.heap.size 24 [.slice aS S.length cS, .slice aM M.length cM, .int .i64 L]) := Lib.hid (by rw [hW]; exact Row.new w #[.slice aS S.length cS, .slice aM M.length cM, .int .i64 L] 24)
  have Hcell : Hid (∀ W', Below W.heap.size W W' → ∀ i, W'.cell? ⟨w.heap.size, i, none⟩ = ([.slice aS S.length cS, .slice aM M.length cM, .int .i64 L] : List Value)[i]?) := Lib.hid fun W' h i => (Hbox.out.later h Hbox.out.lt).cell i
  have HF : Hid (∀ W', Calls Try.prog 29 #[.agg #[.slice aS S.length cS, .slice aM M.length cM, .int .i64 L]] W' fun e w' => e = .returned (.bool false) ∧ Below W'.heap.size W' w') := Lib.hid fun W' => by rw [← hf]; exact few_any S M L aS aM cS cM W' hSl hMl
  clear hf hSl hMl
  go_enter Try.func11, Try.ntmps11
  go_wp2_with fail
  rw [← hW]
  clear hW
  refine (awake_any W).mono ?_
  rintro e w1 ⟨rfl, hb1⟩
  have Hb1 := Lib.hid (hb1)
  clear hb1
  have hc := Hcell.out w1 Hb1.out
  have hc0 := hc 0
  have hc1 := hc 1
  have hc2 := hc 2
  simp only [List.getElem?_cons_succ, List.getElem?_cons_zero] at hc0 hc1 hc2
  clear hc
  go_wp2_with fail
  refine (HF.out w1).mono ?_
  rintro e w2 ⟨rfl, hb2⟩
  have Hb2 := Lib.hid (below_step Hb1.out hb2)
  clear hb2
  clear hc0 hc1 hc2
  have hc := Hcell.out w2 Hb2.out
  have hc0 := hc 0
  have hc1 := hc 1
  have hc2 := hc 2
  simp only [List.getElem?_cons_succ, List.getElem?_cons_zero] at hc0 hc1 hc2
  clear hc
  go_wp2_with fail
  refine (awake_any w2).mono ?_
  rintro e w3 ⟨rfl, hb3⟩
  have Hb3 := Lib.hid (below_step Hb2.out hb3)
  clear hb3
  clear hc0 hc1 hc2
  have hc := Hcell.out w3 Hb3.out
  have hc0 := hc 0
  have hc1 := hc 1
  have hc2 := hc 2
  simp only [List.getElem?_cons_succ, List.getElem?_cons_zero] at hc0 hc1 hc2
  clear hc
  go_wp2_with fail
  go_ret
  exact ⟨rfl, below_step HB.out Hb3.out⟩
set_option maxRecDepth 100000 in
set_option maxHeartbeats 4000000 in
theorem lmir_no (S M : List Int) (L : Int) (aS aM : Option Addr) (cS cM : Nat) (w : World) (hf : fewB S M L = true) (hv : vldB S M L = false) (hS : IntsAt w aS S) (hM : IntsAt w aM M) :
    Calls Try.prog 11 #[.agg #[.slice aS S.length cS, .slice aM M.length cM, .int .i64 L]] w fun e w' => e = .returned (.bool true) ∧ Below w.heap.size w w' := by
  have hl : S.length ≤ 12 ∧ M.length ≤ 60 := by
    have := of_decide_eq_true hf
    exact ⟨this.1, this.2.1⟩
  have hSl : S.length ≤ 1000000000 := by omega
  have hMl : M.length ≤ 1000000000 := by omega
  obtain ⟨W, hW⟩ : ∃ W, W = w.alloc (.cells #[.slice aS S.length cS, .slice aM M.length cM, .int .i64 L] 24) := ⟨_, rfl⟩
  have HB : Hid (Below w.heap.size w W) := Lib.hid (by rw [hW]; exact (Below.refl _ _).alloc (Nat.le_refl _) _)
  have Hbox : Hid (Row W w.heap.size 24 [.slice aS S.length cS, .slice aM M.length cM, .int .i64 L]) := Lib.hid (by rw [hW]; exact Row.new w #[.slice aS S.length cS, .slice aM M.length cM, .int .i64 L] 24)
  have Hcell : Hid (∀ W', Below W.heap.size W W' → ∀ i, W'.cell? ⟨w.heap.size, i, none⟩ = ([.slice aS S.length cS, .slice aM M.length cM, .int .i64 L] : List Value)[i]?) := Lib.hid fun W' h i => (Hbox.out.later h Hbox.out.lt).cell i
  have HS := Lib.hid hS
  have HM := Lib.hid hM
  have H29 : Hid (∀ W', Below W.heap.size W W' → Calls Try.prog 29 #[.agg #[.slice aS S.length cS, .slice aM M.length cM, .int .i64 L]] W' fun e w' => e = .returned (.bool true) ∧ Below W'.heap.size W' w') := Lib.hid fun W' hW' => by
    rw [← hf]; exact few_any S M L aS aM cS cM W' (by unfold maxLen; omega) (by unfold maxLen; omega)
  have H39 : Hid (∀ W', Below W.heap.size W W' → Calls Try.prog 39 #[.agg #[.slice aS S.length cS, .slice aM M.length cM, .int .i64 L]] W' fun e w' => e = .returned (.bool false) ∧ Below W'.heap.size W' w') := Lib.hid fun W' hW' => by
    have hS' := HS.out.later (below_step HB.out hW')
    have hM' := HM.out.later (below_step HB.out hW')
    rw [← hv]; exact valid_any S M L aS aM cS cM W' hSl hMl hS' hM'
  clear hf hv hSl hMl hS hM hl
  go_enter Try.func11, Try.ntmps11
  go_wp2_with fail
  rw [← hW]
  clear hW
  refine (awake_any W).mono ?_
  rintro e w1 ⟨rfl, hb1⟩
  have Hb1 := Lib.hid (hb1)
  clear hb1
  have hc := Hcell.out w1 Hb1.out
  have hc0 := hc 0
  have hc1 := hc 1
  have hc2 := hc 2
  simp only [List.getElem?_cons_succ, List.getElem?_cons_zero] at hc0 hc1 hc2
  clear hc
  go_wp2_with fail
  refine (H29.out w1 Hb1.out).mono ?_
  rintro e w2 ⟨rfl, hb2⟩
  have Hb2 := Lib.hid (below_step Hb1.out hb2)
  clear hb2
  clear hc0 hc1 hc2
  have hc := Hcell.out w2 Hb2.out
  have hc0 := hc 0
  have hc1 := hc 1
  have hc2 := hc 2
  simp only [List.getElem?_cons_succ, List.getElem?_cons_zero] at hc0 hc1 hc2
  clear hc
  go_wp2_with fail
  refine (H39.out w2 Hb2.out).mono ?_
  rintro e w3 ⟨rfl, hb3⟩
  have Hb3 := Lib.hid (below_step Hb2.out hb3)
  clear hb3
  clear hc0 hc1 hc2
  have hc := Hcell.out w3 Hb3.out
  have hc0 := hc 0
  have hc1 := hc 1
  have hc2 := hc 2
  simp only [List.getElem?_cons_succ, List.getElem?_cons_zero] at hc0 hc1 hc2
  clear hc
  go_wp2_with fail
  refine (awake_any w3).mono ?_
  rintro e w4 ⟨rfl, hb4⟩
  have Hb4 := Lib.hid (below_step Hb3.out hb4)
  clear hb4
  clear hc0 hc1 hc2
  have hc := Hcell.out w4 Hb4.out
  have hc0 := hc 0
  have hc1 := hc 1
  have hc2 := hc 2
  simp only [List.getElem?_cons_succ, List.getElem?_cons_zero] at hc0 hc1 hc2
  clear hc
  go_wp2_with fail
  go_ret
  exact ⟨rfl, below_step HB.out Hb4.out⟩
set_option maxRecDepth 100000 in
set_option maxHeartbeats 16000000 in
theorem lmir_yes (S M : List Int) (L : Int) (aS aM : Option Addr) (cS cM : Nat) (w : World) (hf : fewB S M L = true) (hv : vldB S M L = true) (hS : IntsAt w aS S) (hM : IntsAt w aM M) :
    Calls Try.prog 11 #[.agg #[.slice aS S.length cS, .slice aM M.length cM, .int .i64 L]] w fun e w' => e = .returned (.bool true) ∧ Below w.heap.size w w' := by
  have hl : S.length ≤ 12 ∧ M.length ≤ 60 := by
    have := of_decide_eq_true hf
    exact ⟨this.1, this.2.1⟩
  have hSl : S.length ≤ 1000000000 := by omega
  have hMl : M.length ≤ 1000000000 := by omega
  obtain ⟨W, hW⟩ : ∃ W, W = w.alloc (.cells #[.slice aS S.length cS, .slice aM M.length cM, .int .i64 L] 24) := ⟨_, rfl⟩
  have HB : Hid (Below w.heap.size w W) := Lib.hid (by rw [hW]; exact (Below.refl _ _).alloc (Nat.le_refl _) _)
  have Hbox : Hid (Row W w.heap.size 24 [.slice aS S.length cS, .slice aM M.length cM, .int .i64 L]) := Lib.hid (by rw [hW]; exact Row.new w #[.slice aS S.length cS, .slice aM M.length cM, .int .i64 L] 24)
  have Hcell : Hid (∀ W', Below W.heap.size W W' → ∀ i, W'.cell? ⟨w.heap.size, i, none⟩ = ([.slice aS S.length cS, .slice aM M.length cM, .int .i64 L] : List Value)[i]?) := Lib.hid fun W' h i => (Hbox.out.later h Hbox.out.lt).cell i
  have HS := Lib.hid hS
  have HM := Lib.hid hM
  have hwb := sumTo_bd S (ownF (strandsL S M L)) (fun _ _ => true) (vldB_shape hv).signBd S.length
  have htb := sumTo_bd S (ownF (strandsL S M L)) (fun u o => u != o) (vldB_shape hv).signBd S.length
  rw [writhe_wr] at hwb
  rw [total_tl hv] at htb
  have htb2 := tdiv2_bd (tl S M) (by omega)
  obtain ⟨SA, hSA⟩ : ∃ x, x = mulS S (swS fun _ => true) := ⟨_, rfl⟩
  obtain ⟨MA, hMA⟩ : ∃ x, x = mvL (trn (swB S fun _ => true)) M := ⟨_, rfl⟩
  obtain ⟨SB, hSB⟩ : ∃ x, x = mulS S fun _ => -1 := ⟨_, rfl⟩
  obtain ⟨MB, hMB⟩ : ∃ x, x = mvL rfl4 M := ⟨_, rfl⟩
  obtain ⟨SC, hSC⟩ : ∃ x, x = mulS S fun _ => 1 := ⟨_, rfl⟩
  obtain ⟨MC, hMC⟩ : ∃ x, x = mvL (trn fun _ => 2) M := ⟨_, rfl⟩
  have HlA : Hid (SA.length ≤ 1000000000 ∧ MA.length ≤ 1000000000) := Lib.hid (by rw [hSA, hMA, mulS_len, mvL_len]; omega)
  have HlB : Hid (SB.length ≤ 1000000000 ∧ MB.length ≤ 1000000000) := Lib.hid (by rw [hSB, hMB, mulS_len, mvL_len]; omega)
  have HlC : Hid (SC.length ≤ 1000000000 ∧ MC.length ≤ 1000000000) := Lib.hid (by rw [hSC, hMC, mulS_len, mvL_len]; omega)
  have HA : Hid (vldB SA MA L = true ∧ wr SA = -(wr S) ∧ tl SA MA = -(tl S M)) := Lib.hid (by rw [hSA, hMA]; exact ⟨ex_valid hv _, wr_neg _ (fun _ => if_pos rfl), mir_tl hv⟩)
  have HBb : Hid (vldB SB MB L = true ∧ wr SB = -(wr S) ∧ tl SB MB = -(tl S M)) := Lib.hid (by rw [hSB, hMB]; exact ⟨rf_valid hv, wr_neg _ (fun _ => rfl), rf_tl hv⟩)
  have HCc : Hid (vldB SC MC L = true ∧ wr SC = wr S ∧ tl SC MC = tl S M) := Lib.hid (by rw [hSC, hMC]; exact ⟨rv_valid hv, wr_pos _ (fun _ => rfl), rv_tl hv⟩)
  have H29 : Hid (∀ W', Below W.heap.size W W' → Calls Try.prog 29 #[.agg #[.slice aS S.length cS, .slice aM M.length cM, .int .i64 L]] W' fun e w' => e = .returned (.bool true) ∧ Below W'.heap.size W' w') := Lib.hid fun W' hW' => by
    rw [← hf]; exact few_any S M L aS aM cS cM W' (by unfold maxLen; omega) (by unfold maxLen; omega)
  have H39 : Hid (∀ W', Below W.heap.size W W' → Calls Try.prog 39 #[.agg #[.slice aS S.length cS, .slice aM M.length cM, .int .i64 L]] W' fun e w' => e = .returned (.bool true) ∧ Below W'.heap.size W' w') := Lib.hid fun W' hW' => by
    have hS' := HS.out.later (below_step HB.out hW')
    have hM' := HM.out.later (below_step HB.out hW')
    rw [← hv]; exact valid_any S M L aS aM cS cM W' hSl hMl hS' hM'
  have H43 : Hid (∀ W', Below W.heap.size W W' → Calls Try.prog 43 #[.agg #[.slice aS S.length cS, .slice aM M.length cM, .int .i64 L]] W' (DgR W' SA MA L 0)) := Lib.hid fun W' hW' => by
    rw [hSA, hMA]; exact mirrorF_yes S M L aS aM cS cM W' hv (HS.out.later (below_step HB.out hW')) (HM.out.later (below_step HB.out hW'))
  have H44 : Hid (∀ W', Below W.heap.size W W' → Calls Try.prog 44 #[.agg #[.slice aS S.length cS, .slice aM M.length cM, .int .i64 L]] W' (DgR W' SB MB L 0)) := Lib.hid fun W' hW' => by
    rw [hSB, hMB]; exact reflectF_yes S M L aS aM cS cM W' hv (HS.out.later (below_step HB.out hW')) (HM.out.later (below_step HB.out hW'))
  have H45 : Hid (∀ W', Below W.heap.size W W' → Calls Try.prog 45 #[.agg #[.slice aS S.length cS, .slice aM M.length cM, .int .i64 L]] W' (DgR W' SC MC L 0)) := Lib.hid fun W' hW' => by
    rw [hSC, hMC]; exact reverseF_yes S M L aS aM cS cM W' hv (HS.out.later (below_step HB.out hW')) (HM.out.later (below_step HB.out hW'))
  have H33 : Hid (∀ W', Below W.heap.size W W' → Calls Try.prog 33 #[.agg #[.slice aS S.length cS, .slice aM M.length cM, .int .i64 L]] W' fun e w' => e = .returned (.int .i64 (wr S)) ∧ Below W'.heap.size W' w') := Lib.hid fun W' hW' => by
    have hS' := HS.out.later (below_step HB.out hW')
    have hM' := HM.out.later (below_step HB.out hW')
    refine (writhe_any S M L aS aM cS cM W' hSl hMl hS' hM').mono ?_
    rintro e w' ⟨he, hb⟩
    rw [if_pos hv, writhe_wr] at he
    exact ⟨he, hb⟩
  have H35 : Hid (∀ W', Below W.heap.size W W' → Calls Try.prog 35 #[.agg #[.slice aS S.length cS, .slice aM M.length cM, .int .i64 L]] W' fun e w' => e = .returned (.int .i64 ((tl S M).tdiv 2)) ∧ Below W'.heap.size W' w') := Lib.hid fun W' hW' => by
    have hS' := HS.out.later (below_step HB.out hW')
    have hM' := HM.out.later (below_step HB.out hW')
    refine (total_any S M L aS aM cS cM W' hSl hMl hS' hM').mono ?_
    rintro e w' ⟨he, hb⟩
    rw [if_pos hv, total_tl hv] at he
    exact ⟨he, hb⟩
  have HW2 : Hid (∀ (S' M' : List Int) (x : Int) (a b : Option Addr) (c d : Nat) (W' : World), S'.length ≤ 1000000000 → M'.length ≤ 1000000000 → vldB S' M' L = true → wr S' = x → IntsAt W' a S' → IntsAt W' b M' → Calls Try.prog 33 #[.agg #[.slice a S'.length c, .slice b M'.length d, .int .i64 L]] W' fun e w' => e = .returned (.int .i64 x) ∧ Below W'.heap.size W' w') := Lib.hid fun S' M' x a b c d W' l1 l2 hv' hx i1 i2 => by
    refine (writhe_any S' M' L a b c d W' l1 l2 i1 i2).mono ?_
    rintro e w' ⟨he, hb⟩
    rw [if_pos hv', writhe_wr, hx] at he
    exact ⟨he, hb⟩
  have HT2 : Hid (∀ (S' M' : List Int) (x : Int) (a b : Option Addr) (c d : Nat) (W' : World), S'.length ≤ 1000000000 → M'.length ≤ 1000000000 → vldB S' M' L = true → (tl S' M').tdiv 2 = x → IntsAt W' a S' → IntsAt W' b M' → Calls Try.prog 35 #[.agg #[.slice a S'.length c, .slice b M'.length d, .int .i64 L]] W' fun e w' => e = .returned (.int .i64 x) ∧ Below W'.heap.size W' w') := Lib.hid fun S' M' x a b c d W' l1 l2 hv' hx i1 i2 => by
    refine (total_any S' M' L a b c d W' l1 l2 i1 i2).mono ?_
    rintro e w' ⟨he, hb⟩
    rw [if_pos hv', total_tl hv', hx] at he
    exact ⟨he, hb⟩
  have Hnt : Hid ((-(tl S M)).tdiv 2 = -((tl S M).tdiv 2)) := Lib.hid (Int.neg_tdiv _ _)
  have hwb1 : -64 ≤ wr S := by omega
  have hwb2 : wr S ≤ 64 := by omega
  obtain ⟨htb3, htb4⟩ := htb2
  clear hf hv hSl hMl hS hM hl hSA hMA hSB hMB hSC hMC hwb htb
  generalize wr S = wv at *
  generalize htv : (tl S M).tdiv 2 = tv at *
  have Htv := Lib.hid htv
  clear htv
  go_enter Try.func11, Try.ntmps11
  go_wp2_with fail
  rw [← hW]
  clear hW
  refine (awake_any W).mono ?_
  rintro e w1 ⟨rfl, hb1⟩
  have Hb1 := Lib.hid (hb1)
  clear hb1
  have hc := Hcell.out w1 Hb1.out
  have hc0 := hc 0
  have hc1 := hc 1
  have hc2 := hc 2
  simp only [List.getElem?_cons_succ, List.getElem?_cons_zero] at hc0 hc1 hc2
  clear hc
  go_wp2_with fail
  refine (H29.out w1 Hb1.out).mono ?_
  rintro e w2 ⟨rfl, hb2⟩
  have Hb2 := Lib.hid (below_step Hb1.out hb2)
  clear hb2
  clear hc0 hc1 hc2
  have hc := Hcell.out w2 Hb2.out
  have hc0 := hc 0
  have hc1 := hc 1
  have hc2 := hc 2
  simp only [List.getElem?_cons_succ, List.getElem?_cons_zero] at hc0 hc1 hc2
  clear hc
  go_wp2_with fail
  refine (H39.out w2 Hb2.out).mono ?_
  rintro e w3 ⟨rfl, hb3⟩
  have Hb3 := Lib.hid (below_step Hb2.out hb3)
  clear hb3
  clear hc0 hc1 hc2
  have hc := Hcell.out w3 Hb3.out
  have hc0 := hc 0
  have hc1 := hc 1
  have hc2 := hc 2
  simp only [List.getElem?_cons_succ, List.getElem?_cons_zero] at hc0 hc1 hc2
  clear hc
  go_wp2_with fail
  refine (H43.out w3 Hb3.out).mono ?_
  rintro e w4 ⟨aA, bA, cA, dA, rfl, hiA, hjA, hb4⟩
  have Hb4 := Lib.hid (below_step Hb3.out hb4)
  obtain ⟨v4, hv4⟩ : ∃ x, x = w4.alloc (.cells #[.slice aA SA.length cA, .slice bA MA.length dA, .int .i64 L] 24) := ⟨_, rfl⟩
  have hbv : Below w4.heap.size w4 v4 := by rw [hv4]; exact (Below.refl _ _).alloc (Nat.le_refl _) _
  have HRA4v : Hid (Row v4 w4.heap.size 24 [.slice aA SA.length cA, .slice bA MA.length dA, .int .i64 L]) := Lib.hid (by rw [hv4]; exact Row.new w4 #[.slice aA SA.length cA, .slice bA MA.length dA, .int .i64 L] 24)
  have HIA4v : Hid (IntsAt v4 aA SA ∧ IntsAt v4 bA MA) := Lib.hid ⟨hiA.later hbv, hjA.later hbv⟩
  have Hb4v := Lib.hid (below_step Hb4.out hbv)
  clear hb4 hbv hiA hjA hc0 hc1 hc2
  have hc := Hcell.out v4 Hb4v.out
  have hc0 := hc 0
  have hc1 := hc 1
  have hc2 := hc 2
  simp only [List.getElem?_cons_succ, List.getElem?_cons_zero] at hc0 hc1 hc2
  clear hc
  rw [hv4] at hc0 hc1 hc2
  go_wp2_with fail
  rw [← hv4] at hc0 hc1 hc2
  rw [← hv4]
  clear hv4
  refine (H44.out v4 Hb4v.out).mono ?_
  rintro e w5 ⟨aB, bB, cB, dB, rfl, hiB, hjB, hb5⟩
  have Hb5 := Lib.hid (below_step Hb4v.out hb5)
  have HRA5 := Lib.hid (HRA4v.out.later hb5 HRA4v.out.lt)
  have HIA5 : Hid (IntsAt w5 aA SA ∧ IntsAt w5 bA MA) := Lib.hid ⟨HIA4v.out.1.later hb5, HIA4v.out.2.later hb5⟩
  clear HRA4v HIA4v
  obtain ⟨v5, hv5⟩ : ∃ x, x = w5.alloc (.cells #[.slice aB SB.length cB, .slice bB MB.length dB, .int .i64 L] 24) := ⟨_, rfl⟩
  have hbv : Below w5.heap.size w5 v5 := by rw [hv5]; exact (Below.refl _ _).alloc (Nat.le_refl _) _
  have HRB5v : Hid (Row v5 w5.heap.size 24 [.slice aB SB.length cB, .slice bB MB.length dB, .int .i64 L]) := Lib.hid (by rw [hv5]; exact Row.new w5 #[.slice aB SB.length cB, .slice bB MB.length dB, .int .i64 L] 24)
  have HIB5v : Hid (IntsAt v5 aB SB ∧ IntsAt v5 bB MB) := Lib.hid ⟨hiB.later hbv, hjB.later hbv⟩
  have HRA5v := Lib.hid (HRA5.out.later hbv HRA5.out.lt)
  have HIA5v : Hid (IntsAt v5 aA SA ∧ IntsAt v5 bA MA) := Lib.hid ⟨HIA5.out.1.later hbv, HIA5.out.2.later hbv⟩
  clear HRA5 HIA5
  have Hb5v := Lib.hid (below_step Hb5.out hbv)
  clear hb5 hbv hiB hjB hc0 hc1 hc2
  have hc := Hcell.out v5 Hb5v.out
  have hc0 := hc 0
  have hc1 := hc 1
  have hc2 := hc 2
  simp only [List.getElem?_cons_succ, List.getElem?_cons_zero] at hc0 hc1 hc2
  clear hc
  rw [hv5] at hc0 hc1 hc2
  go_wp2_with fail
  rw [← hv5] at hc0 hc1 hc2
  rw [← hv5]
  clear hv5
  refine (H45.out v5 Hb5v.out).mono ?_
  rintro e w6 ⟨aC, bC, cC, dC, rfl, hiC, hjC, hb6⟩
  have Hb6 := Lib.hid (below_step Hb5v.out hb6)
  have HRA6 := Lib.hid (HRA5v.out.later hb6 HRA5v.out.lt)
  have HIA6 : Hid (IntsAt w6 aA SA ∧ IntsAt w6 bA MA) := Lib.hid ⟨HIA5v.out.1.later hb6, HIA5v.out.2.later hb6⟩
  clear HRA5v HIA5v
  have HRB6 := Lib.hid (HRB5v.out.later hb6 HRB5v.out.lt)
  have HIB6 : Hid (IntsAt w6 aB SB ∧ IntsAt w6 bB MB) := Lib.hid ⟨HIB5v.out.1.later hb6, HIB5v.out.2.later hb6⟩
  clear HRB5v HIB5v
  obtain ⟨v6, hv6⟩ : ∃ x, x = w6.alloc (.cells #[.slice aC SC.length cC, .slice bC MC.length dC, .int .i64 L] 24) := ⟨_, rfl⟩
  have hbv : Below w6.heap.size w6 v6 := by rw [hv6]; exact (Below.refl _ _).alloc (Nat.le_refl _) _
  have HRC6v : Hid (Row v6 w6.heap.size 24 [.slice aC SC.length cC, .slice bC MC.length dC, .int .i64 L]) := Lib.hid (by rw [hv6]; exact Row.new w6 #[.slice aC SC.length cC, .slice bC MC.length dC, .int .i64 L] 24)
  have HIC6v : Hid (IntsAt v6 aC SC ∧ IntsAt v6 bC MC) := Lib.hid ⟨hiC.later hbv, hjC.later hbv⟩
  have HRA6v := Lib.hid (HRA6.out.later hbv HRA6.out.lt)
  have HIA6v : Hid (IntsAt v6 aA SA ∧ IntsAt v6 bA MA) := Lib.hid ⟨HIA6.out.1.later hbv, HIA6.out.2.later hbv⟩
  clear HRA6 HIA6
  have HRB6v := Lib.hid (HRB6.out.later hbv HRB6.out.lt)
  have HIB6v : Hid (IntsAt v6 aB SB ∧ IntsAt v6 bB MB) := Lib.hid ⟨HIB6.out.1.later hbv, HIB6.out.2.later hbv⟩
  clear HRB6 HIB6
  have Hb6v := Lib.hid (below_step Hb6.out hbv)
  clear hb6 hbv hiC hjC hc0 hc1 hc2
  have hc := Hcell.out v6 Hb6v.out
  have hc0 := hc 0
  have hc1 := hc 1
  have hc2 := hc 2
  simp only [List.getElem?_cons_succ, List.getElem?_cons_zero] at hc0 hc1 hc2
  clear hc
  rw [hv6] at hc0 hc1 hc2
  go_wp2_with fail
  rw [← hv6] at hc0 hc1 hc2
  rw [← hv6]
  clear hv6
  clear hc0 hc1 hc2
  have HQA : Hid (∀ W', Below v6.heap.size v6 W' → Row W' (w4.heap.size) 24 [.slice aA SA.length cA, .slice bA MA.length dA, .int .i64 L]) := Lib.hid fun W' h => HRA6v.out.later h HRA6v.out.lt
  have HWrA : Hid (∀ W', Below v6.heap.size v6 W' → Calls Try.prog 33 #[.agg #[.slice aA SA.length cA, .slice bA MA.length dA, .int .i64 L]] W' fun e w' => e = .returned (.int .i64 (-wv)) ∧ Below v6.heap.size v6 w') := Lib.hid fun W' h => (HW2.out SA MA _ aA bA cA dA W' HlA.out.1 HlA.out.2 HA.out.1 HA.out.2.1 (HIA6v.out.1.later h) (HIA6v.out.2.later h)).mono fun e w' ⟨he, hb⟩ => ⟨he, below_step h hb⟩
  have HToA : Hid (∀ W', Below v6.heap.size v6 W' → Calls Try.prog 35 #[.agg #[.slice aA SA.length cA, .slice bA MA.length dA, .int .i64 L]] W' fun e w' => e = .returned (.int .i64 (-tv)) ∧ Below v6.heap.size v6 w') := Lib.hid fun W' h => (HT2.out SA MA _ aA bA cA dA W' HlA.out.1 HlA.out.2 HA.out.1 (by rw [HA.out.2.2, Hnt.out]) (HIA6v.out.1.later h) (HIA6v.out.2.later h)).mono fun e w' ⟨he, hb⟩ => ⟨he, below_step h hb⟩
  have HQB : Hid (∀ W', Below v6.heap.size v6 W' → Row W' (w5.heap.size) 24 [.slice aB SB.length cB, .slice bB MB.length dB, .int .i64 L]) := Lib.hid fun W' h => HRB6v.out.later h HRB6v.out.lt
  have HWrB : Hid (∀ W', Below v6.heap.size v6 W' → Calls Try.prog 33 #[.agg #[.slice aB SB.length cB, .slice bB MB.length dB, .int .i64 L]] W' fun e w' => e = .returned (.int .i64 (-wv)) ∧ Below v6.heap.size v6 w') := Lib.hid fun W' h => (HW2.out SB MB _ aB bB cB dB W' HlB.out.1 HlB.out.2 HBb.out.1 HBb.out.2.1 (HIB6v.out.1.later h) (HIB6v.out.2.later h)).mono fun e w' ⟨he, hb⟩ => ⟨he, below_step h hb⟩
  have HToB : Hid (∀ W', Below v6.heap.size v6 W' → Calls Try.prog 35 #[.agg #[.slice aB SB.length cB, .slice bB MB.length dB, .int .i64 L]] W' fun e w' => e = .returned (.int .i64 (-tv)) ∧ Below v6.heap.size v6 w') := Lib.hid fun W' h => (HT2.out SB MB _ aB bB cB dB W' HlB.out.1 HlB.out.2 HBb.out.1 (by rw [HBb.out.2.2, Hnt.out]) (HIB6v.out.1.later h) (HIB6v.out.2.later h)).mono fun e w' ⟨he, hb⟩ => ⟨he, below_step h hb⟩
  have HQC : Hid (∀ W', Below v6.heap.size v6 W' → Row W' (w6.heap.size) 24 [.slice aC SC.length cC, .slice bC MC.length dC, .int .i64 L]) := Lib.hid fun W' h => HRC6v.out.later h HRC6v.out.lt
  have HWrC : Hid (∀ W', Below v6.heap.size v6 W' → Calls Try.prog 33 #[.agg #[.slice aC SC.length cC, .slice bC MC.length dC, .int .i64 L]] W' fun e w' => e = .returned (.int .i64 (wv)) ∧ Below v6.heap.size v6 w') := Lib.hid fun W' h => (HW2.out SC MC _ aC bC cC dC W' HlC.out.1 HlC.out.2 HCc.out.1 HCc.out.2.1 (HIC6v.out.1.later h) (HIC6v.out.2.later h)).mono fun e w' ⟨he, hb⟩ => ⟨he, below_step h hb⟩
  have HToC : Hid (∀ W', Below v6.heap.size v6 W' → Calls Try.prog 35 #[.agg #[.slice aC SC.length cC, .slice bC MC.length dC, .int .i64 L]] W' fun e w' => e = .returned (.int .i64 (tv)) ∧ Below v6.heap.size v6 w') := Lib.hid fun W' h => (HT2.out SC MC _ aC bC cC dC W' HlC.out.1 HlC.out.2 HCc.out.1 (by rw [HCc.out.2.2, Htv.out]) (HIC6v.out.1.later h) (HIC6v.out.2.later h)).mono fun e w' ⟨he, hb⟩ => ⟨he, below_step h hb⟩
  have HQ : Hid (∀ W', Below v6.heap.size v6 W' → Row W' w.heap.size 24 [.slice aS S.length cS, .slice aM M.length cM, .int .i64 L]) := Lib.hid fun W' h => Hbox.out.later (below_step Hb6v.out h) Hbox.out.lt
  have HWr : Hid (∀ W', Below v6.heap.size v6 W' → Calls Try.prog 33 #[.agg #[.slice aS S.length cS, .slice aM M.length cM, .int .i64 L]] W' fun e w' => e = .returned (.int .i64 wv) ∧ Below v6.heap.size v6 w') := Lib.hid fun W' h => (H33.out W' (below_step Hb6v.out h)).mono fun e w' ⟨he, hb⟩ => ⟨he, below_step h hb⟩
  have HTo : Hid (∀ W', Below v6.heap.size v6 W' → Calls Try.prog 35 #[.agg #[.slice aS S.length cS, .slice aM M.length cM, .int .i64 L]] W' fun e w' => e = .returned (.int .i64 tv) ∧ Below v6.heap.size v6 w') := Lib.hid fun W' h => (H35.out W' (below_step Hb6v.out h)).mono fun e w' ⟨he, hb⟩ => ⟨he, below_step h hb⟩
  refine wp_region_class (fun W' => Below v6.heap.size v6 W') (by kernel_rfl) (by kernel_rfl) ((Below.refl _ _).drew) ?_
  refine wpQuiet_loadRow (.tmp 3) 24 (w4.heap.size) 24 [.slice aA SA.length cA, .slice bA MA.length dA, .int .i64 L] rfl rfl rfl Try.isAgg24 Try.sizeOf24 HQA.out ?_
  simp only [Act.put, List.setIfInBounds_toArray, List.set_cons_succ, List.set_cons_zero]
  refine wpQuiet_call (.int .i64 (-wv)) 33 _ _ [.agg #[.slice aA SA.length cA, .slice bA MA.length dA, .int .i64 L]] rfl rfl rfl Try.call33 (HWrA.out) ?_
  simp only [Act.put, List.setIfInBounds_toArray, List.set_cons_succ, List.set_cons_zero]
  refine wpQuiet_loadRow (.tmp 1) 24 (w.heap.size) 24 [.slice aS S.length cS, .slice aM M.length cM, .int .i64 L] rfl rfl rfl Try.isAgg24 Try.sizeOf24 HQ.out ?_
  simp only [Act.put, List.setIfInBounds_toArray, List.set_cons_succ, List.set_cons_zero]
  refine wpQuiet_call (.int .i64 wv) 33 _ _ [.agg #[.slice aS S.length cS, .slice aM M.length cM, .int .i64 L]] rfl rfl rfl Try.call33 (HWr.out) ?_
  simp only [Act.put, List.setIfInBounds_toArray, List.set_cons_succ, List.set_cons_zero]
  refine wpQuiet_val (.int .i64 (-wv)) rfl (fun W' hW' => ?_) ?_
  · go_simp
    rw [IntKind.wrap_i64]; omega
  simp only [Act.put, List.setIfInBounds_toArray, List.set_cons_succ, List.set_cons_zero]
  refine wpQuiet_val (.bool true) rfl (fun W' hW' => ?_) ?_
  · go_simp
  simp only [Act.put, List.setIfInBounds_toArray, List.set_cons_succ, List.set_cons_zero]
  refine wpQuiet_move (.tmp 52) (.bool true) rfl rfl rfl ?_
  simp only [Act.put, List.setIfInBounds_toArray, List.set_cons_succ, List.set_cons_zero]
  refine wpQuietW_loadRow (.tmp 3) 24 (w4.heap.size) 24 [.slice aA SA.length cA, .slice bA MA.length dA, .int .i64 L] (by rfl) rfl rfl Try.isAgg24 Try.sizeOf24 HQA.out ?_
  simp only [Act.put, List.setIfInBounds_toArray, List.set_cons_succ, List.set_cons_zero]
  refine wpQuietW_call (.int .i64 (-tv)) 35 _ _ [.agg #[.slice aA SA.length cA, .slice bA MA.length dA, .int .i64 L]] (by rfl) rfl rfl Try.call35 (HToA.out) ?_
  simp only [Act.put, List.setIfInBounds_toArray, List.set_cons_succ, List.set_cons_zero]
  refine wpQuietW_loadRow (.tmp 1) 24 (w.heap.size) 24 [.slice aS S.length cS, .slice aM M.length cM, .int .i64 L] (by rfl) rfl rfl Try.isAgg24 Try.sizeOf24 HQ.out ?_
  simp only [Act.put, List.setIfInBounds_toArray, List.set_cons_succ, List.set_cons_zero]
  refine wpQuietW_call (.int .i64 tv) 35 _ _ [.agg #[.slice aS S.length cS, .slice aM M.length cM, .int .i64 L]] (by rfl) rfl rfl Try.call35 (HTo.out) ?_
  simp only [Act.put, List.setIfInBounds_toArray, List.set_cons_succ, List.set_cons_zero]
  refine wpQuietW_val (.int .i64 (-tv)) (by rfl) (fun W' hW' => ?_) ?_
  · go_simp
    rw [IntKind.wrap_i64]; omega
  simp only [Act.put, List.setIfInBounds_toArray, List.set_cons_succ, List.set_cons_zero]
  refine wpQuietW_val (.bool true) (by rfl) (fun W' hW' => ?_) ?_
  · go_simp
  simp only [Act.put, List.setIfInBounds_toArray, List.set_cons_succ, List.set_cons_zero]
  refine wpQuiet_val (.bool true) rfl (fun W' hW' => ?_) ?_
  · go_simp
  simp only [Act.put, List.setIfInBounds_toArray, List.set_cons_succ, List.set_cons_zero]
  refine wpQuiet_move (.tmp 60) (.bool true) rfl rfl rfl ?_
  simp only [Act.put, List.setIfInBounds_toArray, List.set_cons_succ, List.set_cons_zero]
  refine wpQuietW_loadRow (.tmp 5) 24 (w5.heap.size) 24 [.slice aB SB.length cB, .slice bB MB.length dB, .int .i64 L] (by rfl) rfl rfl Try.isAgg24 Try.sizeOf24 HQB.out ?_
  simp only [Act.put, List.setIfInBounds_toArray, List.set_cons_succ, List.set_cons_zero]
  refine wpQuietW_call (.int .i64 (-wv)) 33 _ _ [.agg #[.slice aB SB.length cB, .slice bB MB.length dB, .int .i64 L]] (by rfl) rfl rfl Try.call33 (HWrB.out) ?_
  simp only [Act.put, List.setIfInBounds_toArray, List.set_cons_succ, List.set_cons_zero]
  refine wpQuietW_loadRow (.tmp 1) 24 (w.heap.size) 24 [.slice aS S.length cS, .slice aM M.length cM, .int .i64 L] (by rfl) rfl rfl Try.isAgg24 Try.sizeOf24 HQ.out ?_
  simp only [Act.put, List.setIfInBounds_toArray, List.set_cons_succ, List.set_cons_zero]
  refine wpQuietW_call (.int .i64 wv) 33 _ _ [.agg #[.slice aS S.length cS, .slice aM M.length cM, .int .i64 L]] (by rfl) rfl rfl Try.call33 (HWr.out) ?_
  simp only [Act.put, List.setIfInBounds_toArray, List.set_cons_succ, List.set_cons_zero]
  refine wpQuietW_val (.int .i64 (-wv)) (by rfl) (fun W' hW' => ?_) ?_
  · go_simp
    rw [IntKind.wrap_i64]; omega
  simp only [Act.put, List.setIfInBounds_toArray, List.set_cons_succ, List.set_cons_zero]
  refine wpQuietW_val (.bool true) (by rfl) (fun W' hW' => ?_) ?_
  · go_simp
  simp only [Act.put, List.setIfInBounds_toArray, List.set_cons_succ, List.set_cons_zero]
  refine wpQuiet_val (.bool true) rfl (fun W' hW' => ?_) ?_
  · go_simp
  simp only [Act.put, List.setIfInBounds_toArray, List.set_cons_succ, List.set_cons_zero]
  refine wpQuiet_move (.tmp 68) (.bool true) rfl rfl rfl ?_
  simp only [Act.put, List.setIfInBounds_toArray, List.set_cons_succ, List.set_cons_zero]
  refine wpQuietW_loadRow (.tmp 5) 24 (w5.heap.size) 24 [.slice aB SB.length cB, .slice bB MB.length dB, .int .i64 L] (by rfl) rfl rfl Try.isAgg24 Try.sizeOf24 HQB.out ?_
  simp only [Act.put, List.setIfInBounds_toArray, List.set_cons_succ, List.set_cons_zero]
  refine wpQuietW_call (.int .i64 (-tv)) 35 _ _ [.agg #[.slice aB SB.length cB, .slice bB MB.length dB, .int .i64 L]] (by rfl) rfl rfl Try.call35 (HToB.out) ?_
  simp only [Act.put, List.setIfInBounds_toArray, List.set_cons_succ, List.set_cons_zero]
  refine wpQuietW_loadRow (.tmp 1) 24 (w.heap.size) 24 [.slice aS S.length cS, .slice aM M.length cM, .int .i64 L] (by rfl) rfl rfl Try.isAgg24 Try.sizeOf24 HQ.out ?_
  simp only [Act.put, List.setIfInBounds_toArray, List.set_cons_succ, List.set_cons_zero]
  refine wpQuietW_call (.int .i64 tv) 35 _ _ [.agg #[.slice aS S.length cS, .slice aM M.length cM, .int .i64 L]] (by rfl) rfl rfl Try.call35 (HTo.out) ?_
  simp only [Act.put, List.setIfInBounds_toArray, List.set_cons_succ, List.set_cons_zero]
  refine wpQuietW_val (.int .i64 (-tv)) (by rfl) (fun W' hW' => ?_) ?_
  · go_simp
    rw [IntKind.wrap_i64]; omega
  simp only [Act.put, List.setIfInBounds_toArray, List.set_cons_succ, List.set_cons_zero]
  refine wpQuietW_val (.bool true) (by rfl) (fun W' hW' => ?_) ?_
  · go_simp
  simp only [Act.put, List.setIfInBounds_toArray, List.set_cons_succ, List.set_cons_zero]
  refine wpQuiet_val (.bool true) rfl (fun W' hW' => ?_) ?_
  · go_simp
  simp only [Act.put, List.setIfInBounds_toArray, List.set_cons_succ, List.set_cons_zero]
  refine wpQuiet_move (.tmp 76) (.bool true) rfl rfl rfl ?_
  simp only [Act.put, List.setIfInBounds_toArray, List.set_cons_succ, List.set_cons_zero]
  refine wpQuietW_loadRow (.tmp 7) 24 (w6.heap.size) 24 [.slice aC SC.length cC, .slice bC MC.length dC, .int .i64 L] (by rfl) rfl rfl Try.isAgg24 Try.sizeOf24 HQC.out ?_
  simp only [Act.put, List.setIfInBounds_toArray, List.set_cons_succ, List.set_cons_zero]
  refine wpQuietW_call (.int .i64 (wv)) 33 _ _ [.agg #[.slice aC SC.length cC, .slice bC MC.length dC, .int .i64 L]] (by rfl) rfl rfl Try.call33 (HWrC.out) ?_
  simp only [Act.put, List.setIfInBounds_toArray, List.set_cons_succ, List.set_cons_zero]
  refine wpQuietW_loadRow (.tmp 1) 24 (w.heap.size) 24 [.slice aS S.length cS, .slice aM M.length cM, .int .i64 L] (by rfl) rfl rfl Try.isAgg24 Try.sizeOf24 HQ.out ?_
  simp only [Act.put, List.setIfInBounds_toArray, List.set_cons_succ, List.set_cons_zero]
  refine wpQuietW_call (.int .i64 wv) 33 _ _ [.agg #[.slice aS S.length cS, .slice aM M.length cM, .int .i64 L]] (by rfl) rfl rfl Try.call33 (HWr.out) ?_
  simp only [Act.put, List.setIfInBounds_toArray, List.set_cons_succ, List.set_cons_zero]
  refine wpQuietW_val (.bool true) (by rfl) (fun W' hW' => ?_) ?_
  · go_simp
  simp only [Act.put, List.setIfInBounds_toArray, List.set_cons_succ, List.set_cons_zero]
  refine wpQuiet_val (.bool true) rfl (fun W' hW' => ?_) ?_
  · go_simp
  simp only [Act.put, List.setIfInBounds_toArray, List.set_cons_succ, List.set_cons_zero]
  refine wpQuiet_move (.tmp 83) (.bool true) rfl rfl rfl ?_
  simp only [Act.put, List.setIfInBounds_toArray, List.set_cons_succ, List.set_cons_zero]
  refine wpQuietW_loadRow (.tmp 7) 24 (w6.heap.size) 24 [.slice aC SC.length cC, .slice bC MC.length dC, .int .i64 L] (by rfl) rfl rfl Try.isAgg24 Try.sizeOf24 HQC.out ?_
  simp only [Act.put, List.setIfInBounds_toArray, List.set_cons_succ, List.set_cons_zero]
  refine wpQuietW_call (.int .i64 (tv)) 35 _ _ [.agg #[.slice aC SC.length cC, .slice bC MC.length dC, .int .i64 L]] (by rfl) rfl rfl Try.call35 (HToC.out) ?_
  simp only [Act.put, List.setIfInBounds_toArray, List.set_cons_succ, List.set_cons_zero]
  refine wpQuietW_loadRow (.tmp 1) 24 (w.heap.size) 24 [.slice aS S.length cS, .slice aM M.length cM, .int .i64 L] (by rfl) rfl rfl Try.isAgg24 Try.sizeOf24 HQ.out ?_
  simp only [Act.put, List.setIfInBounds_toArray, List.set_cons_succ, List.set_cons_zero]
  refine wpQuietW_call (.int .i64 tv) 35 _ _ [.agg #[.slice aS S.length cS, .slice aM M.length cM, .int .i64 L]] (by rfl) rfl rfl Try.call35 (HTo.out) ?_
  simp only [Act.put, List.setIfInBounds_toArray, List.set_cons_succ, List.set_cons_zero]
  refine wpQuietW_val (.bool true) (by rfl) (fun W' hW' => ?_) ?_
  · go_simp
  simp only [Act.put, List.setIfInBounds_toArray, List.set_cons_succ, List.set_cons_zero]
  refine wpQuiet_val (.bool true) rfl (fun W' hW' => ?_) ?_
  · go_simp
  simp only [Act.put, List.setIfInBounds_toArray, List.set_cons_succ, List.set_cons_zero]
  refine wpQuiet_assign (.tmp 90) (.bool true) rfl rfl rfl ?_
  simp only [Act.put, List.setIfInBounds_toArray, List.set_cons_succ, List.set_cons_zero]
  refine wpQuiet_end ?_
  intro w7 hb7
  have Hb7 := Lib.hid (below_step HB.out (below_step Hb6v.out hb7))
  clear hb7
  go_wp2_with fail
  go_ret
  exact ⟨rfl, Hb7.out⟩
theorem lmir_any (S M : List Int) (L : Int) (aS aM : Option Addr) (cS cM : Nat) (w : World) (hSl : S.length ≤ maxLen) (hMl : M.length ≤ maxLen) (_ : (Lit.int .i64 L).wf = true) (hS : IntsAt w aS S) (hM : IntsAt w aM M) :
    Calls Try.prog 11 #[.agg #[.slice aS S.length cS, .slice aM M.length cM, .int .i64 L]] w fun e w' => e = .returned (.bool true) ∧ Below w.heap.size w w' := by
  by_cases hf : fewB S M L = true
  · by_cases hv : vldB S M L = true
    · exact lmir_yes S M L aS aM cS cM w hf hv hS hM
    · exact lmir_no S M L aS aM cS cM w hf (by simpa using hv) hS hM
  · exact lmir_large S M L aS aM cS cM w hSl hMl (by simpa using hf)
end Go.Proofs.Ytkopbcehfbmnmaa
