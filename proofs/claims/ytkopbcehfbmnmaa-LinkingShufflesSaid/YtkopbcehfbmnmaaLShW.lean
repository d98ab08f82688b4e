/- The walk of the law LinkingShuffles. -/
import Derived.Test.YtkopbcehfbmnmaaTellsW
import Derived.Test.YtkopbcehfbmnmaaRenW
namespace Go.Proofs.Ytkopbcehfbmnmaa
open Go Go.RowKit
theorem renumber_any (S M O : List Int) (L : Int) (aS aM aO : Option Addr) (cS cM cO : Nat) (w : World) (hv : vldB S M L = true) (hOl : O.length ≤ 1000000000) (hS : IntsAt w aS S) (hM : IntsAt w aM M) (hO : IntsAt w aO O) :
    Calls Try.prog 51 #[.agg #[.slice aS S.length cS, .slice aM M.length cM, .int .i64 L], .slice aO O.length cO] w (RnR w S M O L) := by
  by_cases hOn : O.length = S.length
  · rw [hOn]; exact renumber_same S M O L aS aM aO cS cM cO w hv hOn hS hM hO
  · exact renumber_short S M O L aS aM aO cS cM cO w hv hOl hOn hS hM hO
set_option maxRecDepth 100000 in
set_option maxHeartbeats 4000000 in
theorem lsh_large (S M : List Int) (L : Int) (aS aM : Option Addr) (cS cM : Nat) (O : List Int) (aO : Option Addr) (cO : Nat) (w : World) (hSl : S.length ≤ maxLen) (hMl : M.length ≤ maxLen) (hf : fewB S M L = false) :
    Calls Try.prog 6 #[.agg #[.slice aS S.length cS, .slice aM M.length cM, .int .i64 L], .slice aO O.length cO] w fun e w' => e = .returned (.bool true) ∧ Below w.heap.size w w' := by
  obtain ⟨W, hW⟩ : ∃ W, W = w.alloc (.cells #[.slice aS S.length cS, .slice aM M.length cM, .int .i64 L] 24) := ⟨_, rfl⟩
  have HB : Hid (Below w.heap.size w W) := Lib.hid (by rw [hW]; exact (Below.refl _ _).alloc (Nat.le_refl _) _)
  have Hbox : Hid (Row W w.heap.size 24 [.slice aS S.length cS, .slice aM M.length cM, .int .i64 L]) := Lib.hid (by rw [hW]; exact Row.new w #[.slice aS S.length cS, .slice aM M.length cM, .int .i64 L] 24)
  have Hcell : Hid (∀ W', Below W.heap.size W W' → ∀ i, W'.cell? ⟨w.heap.size, i, none⟩ = ([.slice aS S.length cS, .slice aM M.length cM, .int .i64 L] : List Value)[i]?) := Lib.hid fun W' h i => (Hbox.out.later h Hbox.out.lt).cell i
  have HF : Hid (∀ W', Calls Try.prog 29 #[.agg #[.slice aS S.length cS, .slice aM M.length cM, .int .i64 L]] W' fun e w' => e = .returned (.bool false) ∧ Below W'.heap.size W' w') := Lib.hid fun W' => by rw [← hf]; exact few_any S M L aS aM cS cM W' hSl hMl
  clear hf hSl hMl
  go_enter Try.func6, Try.ntmps6
  go_wp2_with fail
  rw [← hW]
  clear hW
  refine (awake_any W).mono ?_
  rintro e w1 ⟨rfl, hb1⟩
  have Hb1 := Lib.hid (hb1)
  clear hb1
  have hc := Hcell.out w1 Hb1.out
  have hc0 := hc 0
  have hc1 := hc 1
  have hc2 := hc 2
  simp only [List.getElem?_cons_succ, List.getElem?_cons_zero] at hc0 hc1 hc2
  clear hc
  go_wp2_with fail
  refine (HF.out w1).mono ?_
  rintro e w2 ⟨rfl, hb2⟩
  have Hb2 := Lib.hid (below_step Hb1.out hb2)
  clear hb2
  clear hc0 hc1 hc2
  have hc := Hcell.out w2 Hb2.out
  have hc0 := hc 0
  have hc1 := hc 1
  have hc2 := hc 2
  simp only [List.getElem?_cons_succ, List.getElem?_cons_zero] at hc0 hc1 hc2
  clear hc
  go_wp2_with fail
  refine (awake_any w2).mono ?_
  rintro e w3 ⟨rfl, hb3⟩
  have Hb3 := Lib.hid (below_step Hb2.out hb3)
  clear hb3
  clear hc0 hc1 hc2
  have hc := Hcell.out w3 Hb3.out
  have hc0 := hc 0
  have hc1 := hc 1
  have hc2 := hc 2
  simp only [List.getElem?_cons_succ, List.getElem?_cons_zero] at hc0 hc1 hc2
  clear hc
  go_wp2_with fail
  go_ret
  exact ⟨rfl, below_step HB.out Hb3.out⟩
set_option maxRecDepth 100000 in
set_option maxHeartbeats 4000000 in
theorem lsh_long (S M : List Int) (L : Int) (aS aM : Option Addr) (cS cM : Nat) (O : List Int) (aO : Option Addr) (cO : Nat) (w : World) (hf : fewB S M L = true) (h24 : 24 < O.length) :
    Calls Try.prog 6 #[.agg #[.slice aS S.length cS, .slice aM M.length cM, .int .i64 L], .slice aO O.length cO] w fun e w' => e = .returned (.bool true) ∧ Below w.heap.size w w' := by
  have hl : S.length ≤ 12 ∧ M.length ≤ 60 := by
    have := of_decide_eq_true hf
    exact ⟨this.1, this.2.1⟩
  have hSl : S.length ≤ 1000000000 := by omega
  have hMl : M.length ≤ 1000000000 := by omega
  obtain ⟨W, hW⟩ : ∃ W, W = w.alloc (.cells #[.slice aS S.length cS, .slice aM M.length cM, .int .i64 L] 24) := ⟨_, rfl⟩
  have HB : Hid (Below w.heap.size w W) := Lib.hid (by rw [hW]; exact (Below.refl _ _).alloc (Nat.le_refl _) _)
  have Hbox : Hid (Row W w.heap.size 24 [.slice aS S.length cS, .slice aM M.length cM, .int .i64 L]) := Lib.hid (by rw [hW]; exact Row.new w #[.slice aS S.length cS, .slice aM M.length cM, .int .i64 L] 24)
  have Hcell : Hid (∀ W', Below W.heap.size W W' → ∀ i, W'.cell? ⟨w.heap.size, i, none⟩ = ([.slice aS S.length cS, .slice aM M.length cM, .int .i64 L] : List Value)[i]?) := Lib.hid fun W' h i => (Hbox.out.later h Hbox.out.lt).cell i
  have H29 : Hid (∀ W', Below W.heap.size W W' → Calls Try.prog 29 #[.agg #[.slice aS S.length cS, .slice aM M.length cM, .int .i64 L]] W' fun e w' => e = .returned (.bool true) ∧ Below W'.heap.size W' w') := Lib.hid fun W' hW' => by
    rw [← hf]; exact few_any S M L aS aM cS cM W' (by unfold maxLen; omega) (by unfold maxLen; omega)
  have d1 : decide (24 < O.length) = true := decide_eq_true h24
  have d2 : decide ((24 : Int) < (O.length : Int)) = true := decide_eq_true (by omega)
  clear hf hSl hMl hl h24
  go_enter Try.func6, Try.ntmps6
  go_wp2_with fail
  rw [← hW]
  clear hW
  refine (awake_any W).mono ?_
  rintro e w1 ⟨rfl, hb1⟩
  have Hb1 := Lib.hid (hb1)
  clear hb1
  have hc := Hcell.out w1 Hb1.out
  have hc0 := hc 0
  have hc1 := hc 1
  have hc2 := hc 2
  simp only [List.getElem?_cons_succ, List.getElem?_cons_zero] at hc0 hc1 hc2
  clear hc
  go_wp2_with fail
  refine (H29.out w1 Hb1.out).mono ?_
  rintro e w2 ⟨rfl, hb2⟩
  have Hb2 := Lib.hid (below_step Hb1.out hb2)
  clear hb2
  clear hc0 hc1 hc2
  have hc := Hcell.out w2 Hb2.out
  have hc0 := hc 0
  have hc1 := hc 1
  have hc2 := hc 2
  simp only [List.getElem?_cons_succ, List.getElem?_cons_zero] at hc0 hc1 hc2
  clear hc
  go_wp2_with fail
  refine (awake_any w2).mono ?_
  rintro e w3 ⟨rfl, hb3⟩
  have Hb3 := Lib.hid (below_step Hb2.out hb3)
  clear hb3
  clear hc0 hc1 hc2
  have hc := Hcell.out w3 Hb3.out
  have hc0 := hc 0
  have hc1 := hc 1
  have hc2 := hc 2
  simp only [List.getElem?_cons_succ, List.getElem?_cons_zero] at hc0 hc1 hc2
  clear hc
  go_wp2_with fail
  go_ret
  exact ⟨rfl, below_step HB.out Hb3.out⟩
set_option maxRecDepth 100000 in
set_option maxHeartbeats 4000000 in
theorem lsh_no (S M : List Int) (L : Int) (aS aM : Option Addr) (cS cM : Nat) (O : List Int) (aO : Option Addr) (cO : Nat) (w : World) (hf : fewB S M L = true) (h24 : O.length ≤ 24) (hv : vldB S M L = false) (hS : IntsAt w aS S) (hM : IntsAt w aM M) :
    Calls Try.prog 6 #[.agg #[.slice aS S.length cS, .slice aM M.length cM, .int .i64 L], .slice aO O.length cO] w fun e w' => e = .returned (.bool true) ∧ Below w.heap.size w w' := by
  have hl : S.length ≤ 12 ∧ M.length ≤ 60 := by
    have := of_decide_eq_true hf
    exact ⟨this.1, this.2.1⟩
  have hSl : S.length ≤ 1000000000 := by omega
  have hMl : M.length ≤ 1000000000 := by omega
  obtain ⟨W, hW⟩ : ∃ W, W = w.alloc (.cells #[.slice aS S.length cS, .slice aM M.length cM, .int .i64 L] 24) := ⟨_, rfl⟩
  have HB : Hid (Below w.heap.size w W) := Lib.hid (by rw [hW]; exact (Below.refl _ _).alloc (Nat.le_refl _) _)
  have Hbox : Hid (Row W w.heap.size 24 [.slice aS S.length cS, .slice aM M.length cM, .int .i64 L]) := Lib.hid (by rw [hW]; exact Row.new w #[.slice aS S.length cS, .slice aM M.length cM, .int .i64 L] 24)
  have Hcell : Hid (∀ W', Below W.heap.size W W' → ∀ i, W'.cell? ⟨w.heap.size, i, none⟩ = ([.slice aS S.length cS, .slice aM M.length cM, .int .i64 L] : List Value)[i]?) := Lib.hid fun W' h i => (Hbox.out.later h Hbox.out.lt).cell i
  have HS := Lib.hid hS
  have HM := Lib.hid hM
  have H29 : Hid (∀ W', Below W.heap.size W W' → Calls Try.prog 29 #[.agg #[.slice aS S.length cS, .slice aM M.length cM, .int .i64 L]] W' fun e w' => e = .returned (.bool true) ∧ Below W'.heap.size W' w') := Lib.hid fun W' hW' => by
    rw [← hf]; exact few_any S M L aS aM cS cM W' (by unfold maxLen; omega) (by unfold maxLen; omega)
  have H39 : Hid (∀ W', Below W.heap.size W W' → Calls Try.prog 39 #[.agg #[.slice aS S.length cS, .slice aM M.length cM, .int .i64 L]] W' fun e w' => e = .returned (.bool false) ∧ Below W'.heap.size W' w') := Lib.hid fun W' hW' => by
    have hS' := HS.out.later (below_step HB.out hW')
    have hM' := HM.out.later (below_step HB.out hW')
    rw [← hv]; exact valid_any S M L aS aM cS cM W' hSl hMl hS' hM'
  have d1 : decide (24 < O.length) = false := decide_eq_false (by omega)
  have d2 : decide ((24 : Int) < (O.length : Int)) = false := decide_eq_false (by omega)
  clear hf hv hSl hMl hS hM hl
  go_enter Try.func6, Try.ntmps6
  go_wp2_with fail
  rw [← hW]
  clear hW
  refine (awake_any W).mono ?_
  rintro e w1 ⟨rfl, hb1⟩
  have Hb1 := Lib.hid (hb1)
  clear hb1
  have hc := Hcell.out w1 Hb1.out
  have hc0 := hc 0
  have hc1 := hc 1
  have hc2 := hc 2
  simp only [List.getElem?_cons_succ, List.getElem?_cons_zero] at hc0 hc1 hc2
  clear hc
  go_wp2_with fail
  refine (H29.out w1 Hb1.out).mono ?_
  rintro e w2 ⟨rfl, hb2⟩
  have Hb2 := Lib.hid (below_step Hb1.out hb2)
  clear hb2
  clear hc0 hc1 hc2
  have hc := Hcell.out w2 Hb2.out
  have hc0 := hc 0
  have hc1 := hc 1
  have hc2 := hc 2
  simp only [List.getElem?_cons_succ, List.getElem?_cons_zero] at hc0 hc1 hc2
  clear hc
  go_wp2_with fail
  refine (H39.out w2 Hb2.out).mono ?_
  rintro e w3 ⟨rfl, hb3⟩
  have Hb3 := Lib.hid (below_step Hb2.out hb3)
  clear hb3
  clear hc0 hc1 hc2
  have hc := Hcell.out w3 Hb3.out
  have hc0 := hc 0
  have hc1 := hc 1
  have hc2 := hc 2
  simp only [List.getElem?_cons_succ, List.getElem?_cons_zero] at hc0 hc1 hc2
  clear hc
  go_wp2_with fail
  refine (awake_any w3).mono ?_
  rintro e w4 ⟨rfl, hb4⟩
  have Hb4 := Lib.hid (below_step Hb3.out hb4)
  clear hb4
  clear hc0 hc1 hc2
  have hc := Hcell.out w4 Hb4.out
  have hc0 := hc 0
  have hc1 := hc 1
  have hc2 := hc 2
  simp only [List.getElem?_cons_succ, List.getElem?_cons_zero] at hc0 hc1 hc2
  clear hc
  go_wp2_with fail
  go_ret
  exact ⟨rfl, below_step HB.out Hb4.out⟩
set_option maxRecDepth 100000 in
set_option maxHeartbeats 16000000 in
theorem lsh_yes (S M : List Int) (L : Int) (aS aM : Option Addr) (cS cM : Nat) (O : List Int) (aO : Option Addr) (cO : Nat) (w : World) (hf : fewB S M L = true) (h24 : O.length ≤ 24) (hv : vldB S M L = true) (hS : IntsAt w aS S) (hM : IntsAt w aM M) (hO : IntsAt w aO O) :
    Calls Try.prog 6 #[.agg #[.slice aS S.length cS, .slice aM M.length cM, .int .i64 L], .slice aO O.length cO] w fun e w' => e = .returned (.bool true) ∧ Below w.heap.size w w' := by
  have hl : S.length ≤ 12 ∧ M.length ≤ 60 := by
    have := of_decide_eq_true hf
    exact ⟨this.1, this.2.1⟩
  have hSl : S.length ≤ 1000000000 := by omega
  have hMl : M.length ≤ 1000000000 := by omega
  obtain ⟨W, hW⟩ : ∃ W, W = w.alloc (.cells #[.slice aS S.length cS, .slice aM M.length cM, .int .i64 L] 24) := ⟨_, rfl⟩
  have HB : Hid (Below w.heap.size w W) := Lib.hid (by rw [hW]; exact (Below.refl _ _).alloc (Nat.le_refl _) _)
  have Hbox : Hid (Row W w.heap.size 24 [.slice aS S.length cS, .slice aM M.length cM, .int .i64 L]) := Lib.hid (by rw [hW]; exact Row.new w #[.slice aS S.length cS, .slice aM M.length cM, .int .i64 L] 24)
  have Hcell : Hid (∀ W', Below W.heap.size W W' → ∀ i, W'.cell? ⟨w.heap.size, i, none⟩ = ([.slice aS S.length cS, .slice aM M.length cM, .int .i64 L] : List Value)[i]?) := Lib.hid fun W' h i => (Hbox.out.later h Hbox.out.lt).cell i
  have HS := Lib.hid hS
  have HM := Lib.hid hM
  have HO := Lib.hid hO
  have Hv := Lib.hid hv
  have H29 : Hid (∀ W', Below W.heap.size W W' → Calls Try.prog 29 #[.agg #[.slice aS S.length cS, .slice aM M.length cM, .int .i64 L]] W' fun e w' => e = .returned (.bool true) ∧ Below W'.heap.size W' w') := Lib.hid fun W' hW' => by
    rw [← hf]; exact few_any S M L aS aM cS cM W' (by unfold maxLen; omega) (by unfold maxLen; omega)
  have H39 : Hid (∀ W', Below W.heap.size W W' → Calls Try.prog 39 #[.agg #[.slice aS S.length cS, .slice aM M.length cM, .int .i64 L]] W' fun e w' => e = .returned (.bool true) ∧ Below W'.heap.size W' w') := Lib.hid fun W' hW' => by
    have hS' := HS.out.later (below_step HB.out hW')
    have hM' := HM.out.later (below_step HB.out hW')
    rw [← hv]; exact valid_any S M L aS aM cS cM W' hSl hMl hS' hM'
  have H51 : Hid (∀ W', Below W.heap.size W W' → Calls Try.prog 51 #[.agg #[.slice aS S.length cS, .slice aM M.length cM, .int .i64 L], .slice aO O.length cO] W' (RnR W' S M O L)) := Lib.hid fun W' hW' =>
    renumber_any S M O L aS aM aO cS cM cO W' hv (by omega) (HS.out.later (below_step HB.out hW')) (HM.out.later (below_step HB.out hW')) (HO.out.later (below_step HB.out hW'))
  have H33 : Hid (∀ W', Below W.heap.size W W' → Calls Try.prog 33 #[.agg #[.slice aS S.length cS, .slice aM M.length cM, .int .i64 L]] W' fun e w' => e = .returned (.int .i64 (wr S)) ∧ Below W'.heap.size W' w') := Lib.hid fun W' hW' => by
    have hS' := HS.out.later (below_step HB.out hW')
    have hM' := HM.out.later (below_step HB.out hW')
    refine (writhe_any S M L aS aM cS cM W' hSl hMl hS' hM').mono ?_
    rintro e w' ⟨he, hb⟩
    rw [if_pos hv, writhe_wr] at he
    exact ⟨he, hb⟩
  have H35 : Hid (∀ W', Below W.heap.size W W' → Calls Try.prog 35 #[.agg #[.slice aS S.length cS, .slice aM M.length cM, .int .i64 L]] W' fun e w' => e = .returned (.int .i64 ((tl S M).tdiv 2)) ∧ Below W'.heap.size W' w') := Lib.hid fun W' hW' => by
    have hS' := HS.out.later (below_step HB.out hW')
    have hM' := HM.out.later (below_step HB.out hW')
    refine (total_any S M L aS aM cS cM W' hSl hMl hS' hM').mono ?_
    rintro e w' ⟨he, hb⟩
    rw [if_pos hv, total_tl hv] at he
    exact ⟨he, hb⟩
  have d1 : decide (24 < O.length) = false := decide_eq_false (by omega)
  have d2 : decide ((24 : Int) < (O.length : Int)) = false := decide_eq_false (by omega)
  have Hln : Hid ((rnS S O S.length).length = S.length ∧ (rnM M O S.length).length = 4 * S.length ∧ S.length ≤ 12) := Lib.hid ⟨fillL_len _ _, fillL_len _ _, hl.1⟩
  clear hf hv hSl hMl hS hM hO hl
  go_enter Try.func6, Try.ntmps6
  go_wp2_with fail
  rw [← hW]
  clear hW
  refine (awake_any W).mono ?_
  rintro e w1 ⟨rfl, hb1⟩
  have Hb1 := Lib.hid (hb1)
  clear hb1
  have hc := Hcell.out w1 Hb1.out
  have hc0 := hc 0
  have hc1 := hc 1
  have hc2 := hc 2
  simp only [List.getElem?_cons_succ, List.getElem?_cons_zero] at hc0 hc1 hc2
  clear hc
  go_wp2_with fail
  refine (H29.out w1 Hb1.out).mono ?_
  rintro e w2 ⟨rfl, hb2⟩
  have Hb2 := Lib.hid (below_step Hb1.out hb2)
  clear hb2
  clear hc0 hc1 hc2
  have hc := Hcell.out w2 Hb2.out
  have hc0 := hc 0
  have hc1 := hc 1
  have hc2 := hc 2
  simp only [List.getElem?_cons_succ, List.getElem?_cons_zero] at hc0 hc1 hc2
  clear hc
  go_wp2_with fail
  refine (H39.out w2 Hb2.out).mono ?_
  rintro e w3 ⟨rfl, hb3⟩
  have Hb3 := Lib.hid (below_step Hb2.out hb3)
  clear hb3
  clear hc0 hc1 hc2
  have hc := Hcell.out w3 Hb3.out
  have hc0 := hc 0
  have hc1 := hc 1
  have hc2 := hc 2
  simp only [List.getElem?_cons_succ, List.getElem?_cons_zero] at hc0 hc1 hc2
  clear hc
  go_wp2_with fail
  refine (H51.out w3 Hb3.out).mono ?_
  rintro e w4 (⟨rfl, hb4⟩ | ⟨hgd, aX, bX, cX, dX, rfl, hiX, hjX, hb4⟩)
  · have Hb4 := Lib.hid (below_of HB.out (below_step Hb3.out hb4) HB.out.size)
    clear hb4 hc0 hc1 hc2
    go_wp2_with fail
    go_ret
    exact ⟨rfl, Hb4.out.alloc Hb4.out.size _⟩
  · have Hb4 := Lib.hid (below_step Hb3.out hb4)
    have Hgd := Lib.hid hgd
    obtain ⟨SX, hSX⟩ : ∃ x, x = rnS S O S.length := ⟨_, rfl⟩
    obtain ⟨MX, hMX⟩ : ∃ x, x = rnM M O S.length := ⟨_, rfl⟩
    rw [← hSX] at hiX
    rw [← hMX] at hjX
    rw [← hSX, ← hMX] at Hln
    rw [← hSX, ← hMX]
    have HX : Hid (vldB SX MX L = true ∧ wr SX = wr S ∧ tl SX MX = tl S M) := Lib.hid (by rw [hSX, hMX]; exact ⟨rn_valid Hv.out hgd, rn_wr Hv.out hgd, rn_tl Hv.out hgd⟩)
    clear hgd hSX hMX
    have HWX : Hid (∀ (W' : World), IntsAt W' aX SX → IntsAt W' bX MX → Calls Try.prog 33 #[.agg #[.slice aX SX.length cX, .slice bX MX.length dX, .int .i64 L]] W' fun e w' => e = .returned (.int .i64 (wr S)) ∧ Below W'.heap.size W' w') := Lib.hid fun W' i1 i2 => by
      refine (writhe_any SX MX L aX bX cX dX W' (by have := Hln.out; omega) (by have := Hln.out; omega) i1 i2).mono ?_
      rintro e w' ⟨he, hb⟩
      rw [if_pos HX.out.1, writhe_wr, HX.out.2.1] at he
      exact ⟨he, hb⟩
    have HTX : Hid (∀ (W' : World), IntsAt W' aX SX → IntsAt W' bX MX → Calls Try.prog 35 #[.agg #[.slice aX SX.length cX, .slice bX MX.length dX, .int .i64 L]] W' fun e w' => e = .returned (.int .i64 ((tl S M).tdiv 2)) ∧ Below W'.heap.size W' w') := Lib.hid fun W' i1 i2 => by
      refine (total_any SX MX L aX bX cX dX W' (by have := Hln.out; omega) (by have := Hln.out; omega) i1 i2).mono ?_
      rintro e w' ⟨he, hb⟩
      rw [if_pos HX.out.1, total_tl HX.out.1, HX.out.2.2] at he
      exact ⟨he, hb⟩
    generalize wr S = wv at *
    generalize (tl S M).tdiv 2 = tv at *
    obtain ⟨v4, hv4⟩ : ∃ x, x = w4.alloc (.cells #[.slice aX SX.length cX, .slice bX MX.length dX, .int .i64 L] 24) := ⟨_, rfl⟩
    have hbv : Below w4.heap.size w4 v4 := by rw [hv4]; exact (Below.refl _ _).alloc (Nat.le_refl _) _
    have HRX : Hid (Row v4 w4.heap.size 24 [.slice aX SX.length cX, .slice bX MX.length dX, .int .i64 L]) := Lib.hid (by rw [hv4]; exact Row.new w4 #[.slice aX SX.length cX, .slice bX MX.length dX, .int .i64 L] 24)
    have HIX : Hid (IntsAt v4 aX SX ∧ IntsAt v4 bX MX) := Lib.hid ⟨hiX.later hbv, hjX.later hbv⟩
    have Hb4v := Lib.hid (below_step Hb4.out hbv)
    clear hb4 hbv hiX hjX hc0 hc1 hc2
    go_wp2_with fail
    rw [← hv4]
    clear hv4
    have HQX : Hid (∀ W', Below v4.heap.size v4 W' → Row W' (w4.heap.size) 24 [.slice aX SX.length cX, .slice bX MX.length dX, .int .i64 L]) := Lib.hid fun W' h => HRX.out.later h HRX.out.lt
    have HQ : Hid (∀ W', Below v4.heap.size v4 W' → Row W' w.heap.size 24 [.slice aS S.length cS, .slice aM M.length cM, .int .i64 L]) := Lib.hid fun W' h => Hbox.out.later (below_step Hb4v.out h) Hbox.out.lt
    have HWrX : Hid (∀ W', Below v4.heap.size v4 W' → Calls Try.prog 33 #[.agg #[.slice aX SX.length cX, .slice bX MX.length dX, .int .i64 L]] W' fun e w' => e = .returned (.int .i64 wv) ∧ Below v4.heap.size v4 w') := Lib.hid fun W' h => (HWX.out W' (HIX.out.1.later h) (HIX.out.2.later h)).mono fun e w' ⟨he, hb⟩ => ⟨he, below_step h hb⟩
    have HToX : Hid (∀ W', Below v4.heap.size v4 W' → Calls Try.prog 35 #[.agg #[.slice aX SX.length cX, .slice bX MX.length dX, .int .i64 L]] W' fun e w' => e = .returned (.int .i64 tv) ∧ Below v4.heap.size v4 w') := Lib.hid fun W' h => (HTX.out W' (HIX.out.1.later h) (HIX.out.2.later h)).mono fun e w' ⟨he, hb⟩ => ⟨he, below_step h hb⟩
    have HWr : Hid (∀ W', Below v4.heap.size v4 W' → Calls Try.prog 33 #[.agg #[.slice aS S.length cS, .slice aM M.length cM, .int .i64 L]] W' fun e w' => e = .returned (.int .i64 wv) ∧ Below v4.heap.size v4 w') := Lib.hid fun W' h => (H33.out W' (below_step Hb4v.out h)).mono fun e w' ⟨he, hb⟩ => ⟨he, below_step h hb⟩
    have HTo : Hid (∀ W', Below v4.heap.size v4 W' → Calls Try.prog 35 #[.agg #[.slice aS S.length cS, .slice aM M.length cM, .int .i64 L]] W' fun e w' => e = .returned (.int .i64 tv) ∧ Below v4.heap.size v4 w') := Lib.hid fun W' h => (H35.out W' (below_step Hb4v.out h)).mono fun e w' ⟨he, hb⟩ => ⟨he, below_step h hb⟩
    refine wp_region_class (fun W' => Below v4.heap.size v4 W') (by kernel_rfl) (by kernel_rfl) ((Below.refl _ _).drew) ?_
    refine wpQuiet_loadRow (.tmp 5) 24 (w4.heap.size) 24 [.slice aX SX.length cX, .slice bX MX.length dX, .int .i64 L] rfl rfl rfl Try.isAgg24 Try.sizeOf24 HQX.out ?_
    simp only [Act.put, List.setIfInBounds_toArray, List.set_cons_succ, List.set_cons_zero]
    refine wpQuiet_call (.int .i64 wv) 33 _ _ [.agg #[.slice aX SX.length cX, .slice bX MX.length dX, .int .i64 L]] rfl rfl rfl Try.call33 (HWrX.out) ?_
    simp only [Act.put, List.setIfInBounds_toArray, List.set_cons_succ, List.set_cons_zero]
    refine wpQuiet_loadRow (.tmp 2) 24 (w.heap.size) 24 [.slice aS S.length cS, .slice aM M.length cM, .int .i64 L] rfl rfl rfl Try.isAgg24 Try.sizeOf24 HQ.out ?_
    simp only [Act.put, List.setIfInBounds_toArray, List.set_cons_succ, List.set_cons_zero]
    refine wpQuiet_call (.int .i64 wv) 33 _ _ [.agg #[.slice aS S.length cS, .slice aM M.length cM, .int .i64 L]] rfl rfl rfl Try.call33 (HWr.out) ?_
    simp only [Act.put, List.setIfInBounds_toArray, List.set_cons_succ, List.set_cons_zero]
    refine wpQuiet_val (.bool true) rfl (fun W' hW' => ?_) ?_
    · go_simp
    simp only [Act.put, List.setIfInBounds_toArray, List.set_cons_succ, List.set_cons_zero]
    refine wpQuiet_move (.tmp 37) (.bool true) rfl rfl rfl ?_
    simp only [Act.put, List.setIfInBounds_toArray, List.set_cons_succ, List.set_cons_zero]
    refine wpQuietW_loadRow (.tmp 5) 24 (w4.heap.size) 24 [.slice aX SX.length cX, .slice bX MX.length dX, .int .i64 L] (by rfl) rfl rfl Try.isAgg24 Try.sizeOf24 HQX.out ?_
    simp only [Act.put, List.setIfInBounds_toArray, List.set_cons_succ, List.set_cons_zero]
    refine wpQuietW_call (.int .i64 tv) 35 _ _ [.agg #[.slice aX SX.length cX, .slice bX MX.length dX, .int .i64 L]] (by rfl) rfl rfl Try.call35 (HToX.out) ?_
    simp only [Act.put, List.setIfInBounds_toArray, List.set_cons_succ, List.set_cons_zero]
    refine wpQuietW_loadRow (.tmp 2) 24 (w.heap.size) 24 [.slice aS S.length cS, .slice aM M.length cM, .int .i64 L] (by rfl) rfl rfl Try.isAgg24 Try.sizeOf24 HQ.out ?_
    simp only [Act.put, List.setIfInBounds_toArray, List.set_cons_succ, List.set_cons_zero]
    refine wpQuietW_call (.int .i64 tv) 35 _ _ [.agg #[.slice aS S.length cS, .slice aM M.length cM, .int .i64 L]] (by rfl) rfl rfl Try.call35 (HTo.out) ?_
    simp only [Act.put, List.setIfInBounds_toArray, List.set_cons_succ, List.set_cons_zero]
    refine wpQuietW_val (.bool true) (by rfl) (fun W' hW' => ?_) ?_
    · go_simp
    simp only [Act.put, List.setIfInBounds_toArray, List.set_cons_succ, List.set_cons_zero]
    refine wpQuiet_val (.bool true) rfl (fun W' hW' => ?_) ?_
    · go_simp
    simp only [Act.put, List.setIfInBounds_toArray, List.set_cons_succ, List.set_cons_zero]
    refine wpQuiet_assign (.tmp 44) (.bool true) rfl rfl rfl ?_
    simp only [Act.put, List.setIfInBounds_toArray, List.set_cons_succ, List.set_cons_zero]
    refine wpQuiet_end ?_
    intro w7 hb7
    have Hb7 := Lib.hid (below_step HB.out (below_step Hb4v.out hb7))
    clear hb7
    go_wp2_with fail
    go_ret
    exact ⟨rfl, Hb7.out⟩
theorem lsh_any (S M : List Int) (L : Int) (aS aM : Option Addr) (cS cM : Nat) (O : List Int) (aO : Option Addr) (cO : Nat) (w : World) (hSl : S.length ≤ maxLen) (hMl : M.length ≤ maxLen) (_ : (Lit.int .i64 L).wf = true) (hS : IntsAt w aS S) (hM : IntsAt w aM M) (_ : O.length ≤ maxLen) (hO : IntsAt w aO O) :
    Calls Try.prog 6 #[.agg #[.slice aS S.length cS, .slice aM M.length cM, .int .i64 L], .slice aO O.length cO] w fun e w' => e = .returned (.bool true) ∧ Below w.heap.size w w' := by
  by_cases hf : fewB S M L = true
  · by_cases h24 : O.length ≤ 24
    · by_cases hv : vldB S M L = true
      · exact lsh_yes S M L aS aM cS cM O aO cO w hf h24 hv hS hM hO
      · exact lsh_no S M L aS aM cS cM O aO cO w hf h24 (by simpa using hv) hS hM
    · exact lsh_long S M L aS aM cS cM O aO cO w hf (by omega)
  · exact lsh_large S M L aS aM cS cM O aO cO w hSl hMl (by simpa using hf)
end Go.Proofs.Ytkopbcehfbmnmaa
