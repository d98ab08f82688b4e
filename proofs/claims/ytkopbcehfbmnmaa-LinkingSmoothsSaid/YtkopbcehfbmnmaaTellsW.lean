/- The walk of the law LinkingTells. -/
import Derived.Test.YtkopbcehfbmnmaaMatW
import Derived.Test.YtkopbcehfbmnmaaLawLk0
import Derived.Test.YtkopbcehfbmnmaaQuietA
import Derived.Test.YtkopbcehfbmnmaaLinkPlainA
namespace Go.Proofs.Ytkopbcehfbmnmaa
open Go Go.RowKit
theorem rowTo_bd (g : Nat → Nat → Int) (a : Nat) (h : ∀ i k, -64 ≤ g i k ∧ g i k ≤ 64) (m : Nat) : -(64 * (m : Int)) ≤ rowTo g a m ∧ rowTo g a m ≤ 64 * (m : Int) := by
  induction m with
  | zero => simp [rowTo]
  | succ m ih => have := h a m; rw [rowTo]; omega
theorem triTo_bd (g : Nat → Nat → Int) (h : ∀ i k, -64 ≤ g i k ∧ g i k ≤ 64) (N : Nat) (hN : N ≤ 1000) : -(64000 * (N : Int)) ≤ triTo g N ∧ triTo g N ≤ 64000 * (N : Int) := by
  induction N with
  | zero => simp [triTo]
  | succ N ih =>
    have h1 := ih (by omega)
    have h2 := rowTo_bd g N h N
    rw [triTo]; omega
theorem isPair_self (i u o : Int) : isPair i i u o = (u == i && o == i) := by
  unfold isPair
  cases u == i <;> cases o == i <;> rfl
/-- Self's answer. -/
theorem self_val {S M : List Int} {L : Int} (hv : vldB S M L = true) (N : Nat) (hN : (strandsL S M L).length ≤ N) (i : Int) :
    (if vldB S M L = true ∧ 0 ≤ i then sumTo S (ownF (strandsL S M L)) (fun u o => u == i && o == i) S.length else 0) = if 0 ≤ i ∧ i < N then matE S (ownF (strandsL S M L)) i.toNat i.toNat else 0 := by
  by_cases h0 : 0 ≤ i
  · obtain ⟨n, rfl⟩ : ∃ n : Nat, i = (n : Int) := ⟨i.toNat, by omega⟩
    rw [if_pos ⟨hv, h0⟩, self_mat, Int.toNat_natCast]
    by_cases h1 : (n : Int) < N
    · rw [if_pos ⟨h0, h1⟩]
    · rw [if_neg (fun e => h1 e.2)]
      have := pr_none hv n n (.inl (by omega))
      unfold matE
      rw [if_pos rfl]; exact this
  · rw [if_neg (fun e => h0 e.2), if_neg (fun e => h0 e.1)]
set_option maxRecDepth 100000 in
set_option maxHeartbeats 4000000 in
theorem tells_large (S M : List Int) (L : Int) (aS aM : Option Addr) (cS cM : Nat) (i k : Int) (w : World) (hSl : S.length ≤ maxLen) (hMl : M.length ≤ maxLen) (hf : fewB S M L = false) :
    Calls Try.prog 3 #[.agg #[.slice aS S.length cS, .slice aM M.length cM, .int .i64 L], .int .i64 i, .int .i64 k] w fun e w' => e = .returned (.bool true) ∧ Below w.heap.size w w' := by
  obtain ⟨W, hW⟩ : ∃ W, W = w.alloc (.cells #[.slice aS S.length cS, .slice aM M.length cM, .int .i64 L] 24) := ⟨_, rfl⟩
  have HB : Hid (Below w.heap.size w W) := Lib.hid (by rw [hW]; exact (Below.refl _ _).alloc (Nat.le_refl _) _)
  have Hbox : Hid (Row W w.heap.size 24 [.slice aS S.length cS, .slice aM M.length cM, .int .i64 L]) := Lib.hid (by rw [hW]; exact Row.new w #[.slice aS S.length cS, .slice aM M.length cM, .int .i64 L] 24)
  have HF : Hid (∀ W', Calls Try.prog 29 #[.agg #[.slice aS S.length cS, .slice aM M.length cM, .int .i64 L]] W' fun e w' => e = .returned (.bool false) ∧ Below W'.heap.size W' w') := Lib.hid fun W' => by rw [← hf]; exact few_any S M L aS aM cS cM W' hSl hMl
  clear hf hSl hMl
  go_enter Try.func3, Try.ntmps3
  go_wp2_with fail
  rw [← hW]
  refine (awake_any W).mono ?_
  rintro e w1 ⟨rfl, hb1⟩
  have Hb1 := Lib.hid (below_step HB.out hb1)
  have hbx := Hbox.out.later hb1 Hbox.out.lt
  have hc0 := hbx.cell 0
  have hc1 := hbx.cell 1
  have hc2 := hbx.cell 2
  simp only [List.getElem?_cons_succ, List.getElem?_cons_zero] at hc0 hc1 hc2
  clear hb1 hbx hW
  go_wp2_with fail
  refine (HF.out w1).mono ?_
  rintro e w2 ⟨rfl, hb2⟩
  have Hb2 := Lib.hid (below_step Hb1.out hb2)
  clear hb2 hc0 hc1 hc2
  go_wp2_with fail
  refine (awake_any w2).mono ?_
  rintro e w3 ⟨rfl, hb3⟩
  have Hb3 := Lib.hid (below_step Hb2.out hb3)
  clear hb3
  go_wp2_with fail
  go_ret
  exact ⟨rfl, Hb3.out⟩
set_option maxRecDepth 100000 in
set_option maxHeartbeats 8000000 in
theorem tells_no (S M : List Int) (L : Int) (aS aM : Option Addr) (cS cM : Nat) (i k : Int) (w : World) (hf : fewB S M L = true) (hv : vldB S M L = false) (hS : IntsAt w aS S) (hM : IntsAt w aM M) :
    Calls Try.prog 3 #[.agg #[.slice aS S.length cS, .slice aM M.length cM, .int .i64 L], .int .i64 i, .int .i64 k] w fun e w' => e = .returned (.bool true) ∧ Below w.heap.size w w' := by
  have hl : S.length ≤ 12 ∧ M.length ≤ 60 := by
    have := of_decide_eq_true hf
    exact ⟨this.1, this.2.1⟩
  have hSl : S.length ≤ 1000000000 := by omega
  have hMl : M.length ≤ 1000000000 := by omega
  obtain ⟨W, hW⟩ : ∃ W, W = w.alloc (.cells #[.slice aS S.length cS, .slice aM M.length cM, .int .i64 L] 24) := ⟨_, rfl⟩
  have HB : Hid (Below w.heap.size w W) := Lib.hid (by rw [hW]; exact (Below.refl _ _).alloc (Nat.le_refl _) _)
  have Hbox : Hid (Row W w.heap.size 24 [.slice aS S.length cS, .slice aM M.length cM, .int .i64 L]) := Lib.hid (by rw [hW]; exact Row.new w #[.slice aS S.length cS, .slice aM M.length cM, .int .i64 L] 24)
  have Hcell : Hid (∀ W', Below W.heap.size W W' → ∀ i, W'.cell? ⟨w.heap.size, i, none⟩ = ([.slice aS S.length cS, .slice aM M.length cM, .int .i64 L] : List Value)[i]?) := Lib.hid fun W' h i => (Hbox.out.later h Hbox.out.lt).cell i
  have HS := Lib.hid hS
  have HM := Lib.hid hM
  have H29 : Hid (∀ W', Below W.heap.size W W' → Calls Try.prog 29 #[.agg #[.slice aS S.length cS, .slice aM M.length cM, .int .i64 L]] W' fun e w' => e = .returned (.bool true) ∧ Below W'.heap.size W' w') := Lib.hid fun W' hW' => by
    have hS' := HS.out.later (below_step HB.out hW')
    have hM' := HM.out.later (below_step HB.out hW')
    rw [← hf]; exact few_any S M L aS aM cS cM W' (by unfold maxLen; omega) (by unfold maxLen; omega)
  have H30 : Hid (∀ W', Below W.heap.size W W' → Calls Try.prog 30 #[.agg #[.slice aS S.length cS, .slice aM M.length cM, .int .i64 L], .int .i64 i, .int .i64 k] W' fun e w' => e = .returned (.tuple #[.int .i64 0, .int .i64 1]) ∧ Below W'.heap.size W' w') := Lib.hid fun W' hW' => by
    have hS' := HS.out.later (below_step HB.out hW')
    have hM' := HM.out.later (below_step HB.out hW')
    refine (number_any S M L aS aM cS cM i k W' hSl hMl hS' hM').mono ?_
    rintro e w' ⟨he, hb⟩
    rw [show numberR S M L i k = (0, 1) from if_neg (by rw [hv]; decide)] at he
    exact ⟨he, hb⟩
  have H31 : Hid (∀ W', Below W.heap.size W W' → Calls Try.prog 31 #[.agg #[.slice aS S.length cS, .slice aM M.length cM, .int .i64 L]] W' fun e w' => e = .returned (.slice none 0 0) ∧ Below W'.heap.size W' w') := Lib.hid fun W' hW' => by
    have hS' := HS.out.later (below_step HB.out hW')
    have hM' := HM.out.later (below_step HB.out hW')
    exact matrix_no S M L aS aM cS cM W' hSl hMl hv hS' hM'
  have H32 : Hid (∀ W', Below W.heap.size W W' → Calls Try.prog 32 #[.agg #[.slice aS S.length cS, .slice aM M.length cM, .int .i64 L]] W' fun e w' => e = .returned (.bool false) ∧ Below W'.heap.size W' w') := Lib.hid fun W' hW' => by
    have hS' := HS.out.later (below_step HB.out hW')
    have hM' := HM.out.later (below_step HB.out hW')
    rw [← hv]; exact rvalid_any S M L aS aM cS cM W' hSl hMl hS' hM'
  have H33 : Hid (∀ W', Below W.heap.size W W' → Calls Try.prog 33 #[.agg #[.slice aS S.length cS, .slice aM M.length cM, .int .i64 L]] W' fun e w' => e = .returned (.int .i64 0) ∧ Below W'.heap.size W' w') := Lib.hid fun W' hW' => by
    have hS' := HS.out.later (below_step HB.out hW')
    have hM' := HM.out.later (below_step HB.out hW')
    refine (writhe_any S M L aS aM cS cM W' hSl hMl hS' hM').mono ?_
    rintro e w' ⟨he, hb⟩
    rw [if_neg (by rw [hv]; decide)] at he
    exact ⟨he, hb⟩
  have H34 : Hid (∀ W', Below W.heap.size W W' → Calls Try.prog 34 #[.agg #[.slice aS S.length cS, .slice aM M.length cM, .int .i64 L], .int .i64 i] W' fun e w' => e = .returned (.int .i64 0) ∧ Below W'.heap.size W' w') := Lib.hid fun W' hW' => by
    have hS' := HS.out.later (below_step HB.out hW')
    have hM' := HM.out.later (below_step HB.out hW')
    refine (self_any S M L aS aM cS cM i W' hSl hMl hS' hM').mono ?_
    rintro e w' ⟨he, hb⟩
    rw [if_neg (by rw [hv]; intro h; exact absurd h.1 (by decide))] at he
    exact ⟨he, hb⟩
  have H35 : Hid (∀ W', Below W.heap.size W W' → Calls Try.prog 35 #[.agg #[.slice aS S.length cS, .slice aM M.length cM, .int .i64 L]] W' fun e w' => e = .returned (.int .i64 0) ∧ Below W'.heap.size W' w') := Lib.hid fun W' hW' => by
    have hS' := HS.out.later (below_step HB.out hW')
    have hM' := HM.out.later (below_step HB.out hW')
    refine (total_any S M L aS aM cS cM W' hSl hMl hS' hM').mono ?_
    rintro e w' ⟨he, hb⟩
    rw [if_neg (by rw [hv]; decide)] at he
    exact ⟨he, hb⟩
  clear hf hv hSl hMl hS hM hl
  go_enter Try.func3, Try.ntmps3
  go_wp2_with fail
  rw [← hW]
  clear hW
  refine (awake_any W).mono ?_
  rintro e w1 ⟨rfl, hb1⟩
  have Hb1 := Lib.hid (hb1)
  clear hb1
  have hc := Hcell.out w1 Hb1.out
  have hc0 := hc 0
  have hc1 := hc 1
  have hc2 := hc 2
  simp only [List.getElem?_cons_succ, List.getElem?_cons_zero] at hc0 hc1 hc2
  clear hc
  go_wp2_with fail
  refine (H29.out w1 Hb1.out).mono ?_
  rintro e w2 ⟨rfl, hb2⟩
  have Hb2 := Lib.hid (below_step Hb1.out hb2)
  clear hb2
  clear hc0 hc1 hc2
  have hc := Hcell.out w2 Hb2.out
  have hc0 := hc 0
  have hc1 := hc 1
  have hc2 := hc 2
  simp only [List.getElem?_cons_succ, List.getElem?_cons_zero] at hc0 hc1 hc2
  clear hc
  go_wp2_with fail
  refine (H30.out w2 Hb2.out).mono ?_
  rintro e w3 ⟨rfl, hb3⟩
  have Hb3 := Lib.hid (below_step Hb2.out hb3)
  clear hb3
  clear hc0 hc1 hc2
  have hc := Hcell.out w3 Hb3.out
  have hc0 := hc 0
  have hc1 := hc 1
  have hc2 := hc 2
  simp only [List.getElem?_cons_succ, List.getElem?_cons_zero] at hc0 hc1 hc2
  clear hc
  go_wp2_with fail
  refine (H31.out w3 Hb3.out).mono ?_
  rintro e w4 ⟨rfl, hb4⟩
  have Hb4 := Lib.hid (below_step Hb3.out hb4)
  clear hb4
  clear hc0 hc1 hc2
  have hc := Hcell.out w4 Hb4.out
  have hc0 := hc 0
  have hc1 := hc 1
  have hc2 := hc 2
  simp only [List.getElem?_cons_succ, List.getElem?_cons_zero] at hc0 hc1 hc2
  clear hc
  go_wp2_with fail
  refine (H32.out w4 Hb4.out).mono ?_
  rintro e w5 ⟨rfl, hb5⟩
  have Hb5 := Lib.hid (below_step Hb4.out hb5)
  clear hb5
  clear hc0 hc1 hc2
  have hc := Hcell.out w5 Hb5.out
  have hc0 := hc 0
  have hc1 := hc 1
  have hc2 := hc 2
  simp only [List.getElem?_cons_succ, List.getElem?_cons_zero] at hc0 hc1 hc2
  clear hc
  go_wp2_with fail
  refine (H33.out w5 Hb5.out).mono ?_
  rintro e w6 ⟨rfl, hb6⟩
  have Hb6 := Lib.hid (below_step Hb5.out hb6)
  clear hb6
  clear hc0 hc1 hc2
  have hc := Hcell.out w6 Hb6.out
  have hc0 := hc 0
  have hc1 := hc 1
  have hc2 := hc 2
  simp only [List.getElem?_cons_succ, List.getElem?_cons_zero] at hc0 hc1 hc2
  clear hc
  go_wp2_with fail
  refine (H34.out w6 Hb6.out).mono ?_
  rintro e w7 ⟨rfl, hb7⟩
  have Hb7 := Lib.hid (below_step Hb6.out hb7)
  clear hb7
  clear hc0 hc1 hc2
  have hc := Hcell.out w7 Hb7.out
  have hc0 := hc 0
  have hc1 := hc 1
  have hc2 := hc 2
  simp only [List.getElem?_cons_succ, List.getElem?_cons_zero] at hc0 hc1 hc2
  clear hc
  go_wp2_with fail
  refine (H35.out w7 Hb7.out).mono ?_
  rintro e w8 ⟨rfl, hb8⟩
  have Hb8 := Lib.hid (below_step Hb7.out hb8)
  clear hb8
  clear hc0 hc1 hc2
  have hc := Hcell.out w8 Hb8.out
  have hc0 := hc 0
  have hc1 := hc 1
  have hc2 := hc 2
  simp only [List.getElem?_cons_succ, List.getElem?_cons_zero] at hc0 hc1 hc2
  clear hc
  go_wp2_with fail
  go_ret
  exact ⟨rfl, below_step HB.out Hb8.out⟩
set_option maxRecDepth 100000 in
set_option maxHeartbeats 16000000 in
theorem tells_yes (S M : List Int) (L : Int) (aS aM : Option Addr) (cS cM : Nat) (i k : Int) (w : World) (hf : fewB S M L = true) (hv : vldB S M L = true) (hS : IntsAt w aS S) (hM : IntsAt w aM M) :
    Calls Try.prog 3 #[.agg #[.slice aS S.length cS, .slice aM M.length cM, .int .i64 L], .int .i64 i, .int .i64 k] w fun e w' => e = .returned (.bool true) ∧ Below w.heap.size w w' := by
  have hl : S.length ≤ 12 ∧ M.length ≤ 60 := by
    have := of_decide_eq_true hf
    exact ⟨this.1, this.2.1⟩
  have hSl : S.length ≤ 1000000000 := by omega
  have hMl : M.length ≤ 1000000000 := by omega
  obtain ⟨N, hN, hNl, hNs⟩ := compsN_nat hv
  obtain ⟨W, hW⟩ : ∃ W, W = w.alloc (.cells #[.slice aS S.length cS, .slice aM M.length cM, .int .i64 L] 24) := ⟨_, rfl⟩
  have HB : Hid (Below w.heap.size w W) := Lib.hid (by rw [hW]; exact (Below.refl _ _).alloc (Nat.le_refl _) _)
  have Hbox : Hid (Row W w.heap.size 24 [.slice aS S.length cS, .slice aM M.length cM, .int .i64 L]) := Lib.hid (by rw [hW]; exact Row.new w #[.slice aS S.length cS, .slice aM M.length cM, .int .i64 L] 24)
  have Hcell : Hid (∀ W', Below W.heap.size W W' → ∀ i, W'.cell? ⟨w.heap.size, i, none⟩ = ([.slice aS S.length cS, .slice aM M.length cM, .int .i64 L] : List Value)[i]?) := Lib.hid fun W' h i => (Hbox.out.later h Hbox.out.lt).cell i
  have HS := Lib.hid hS
  have HM := Lib.hid hM
  have HE := Lib.hid (matE_bd hv (ownF (strandsL S M L)))
  have Hsv := Lib.hid (self_val hv N hNs i)
  have Htv := Lib.hid (total_mat hv N hNs)
  have Hnv : Hid (numberR S M L i k = if i < 0 ∨ (N : Int) ≤ i ∨ k < 0 ∨ (N : Int) ≤ k ∨ i = k then (0, 2) else (matE S (ownF (strandsL S M L)) i.toNat k.toNat, 0)) := Lib.hid (by
    have : numberR S M L i k = if i < 0 ∨ compsN S M L ≤ i ∨ k < 0 ∨ compsN S M L ≤ k ∨ i = k then (0, 2) else ((sumTo S (ownF (strandsL S M L)) (isPair i k) S.length).tdiv 2, 0) := if_pos hv
    rw [this, hN]
    by_cases h : i < 0 ∨ (N : Int) ≤ i ∨ k < 0 ∨ (N : Int) ≤ k ∨ i = k
    · rw [if_pos h, if_pos h]
    · rw [if_neg h, if_neg h]
      obtain ⟨a, rfl⟩ : ∃ a : Nat, i = (a : Int) := ⟨i.toNat, by omega⟩
      obtain ⟨b, rfl⟩ : ∃ b : Nat, k = (b : Int) := ⟨k.toNat, by omega⟩
      rw [Int.toNat_natCast, Int.toNat_natCast]
      unfold matE pr
      rw [if_neg (by omega)])
  have H29 : Hid (∀ W', Below W.heap.size W W' → Calls Try.prog 29 #[.agg #[.slice aS S.length cS, .slice aM M.length cM, .int .i64 L]] W' fun e w' => e = .returned (.bool true) ∧ Below W'.heap.size W' w') := Lib.hid fun W' hW' => by
    have hS' := HS.out.later (below_step HB.out hW')
    have hM' := HM.out.later (below_step HB.out hW')
    rw [← hf]; exact few_any S M L aS aM cS cM W' (by unfold maxLen; omega) (by unfold maxLen; omega)
  have H30 : Hid (∀ W', Below W.heap.size W W' → Calls Try.prog 30 #[.agg #[.slice aS S.length cS, .slice aM M.length cM, .int .i64 L], .int .i64 i, .int .i64 k] W' fun e w' => e = .returned (.tuple #[.int .i64 (numberR S M L i k).1, .int .i64 (numberR S M L i k).2]) ∧ Below W'.heap.size W' w') := Lib.hid fun W' hW' => by
    have hS' := HS.out.later (below_step HB.out hW')
    have hM' := HM.out.later (below_step HB.out hW')
    exact number_any S M L aS aM cS cM i k W' hSl hMl hS' hM'
  have H31 : Hid (∀ W', Below W.heap.size W W' → Calls Try.prog 31 #[.agg #[.slice aS S.length cS, .slice aM M.length cM, .int .i64 L]] W' fun e w' => ∃ a c, e = .returned (.slice a N c) ∧ Below W'.heap.size W' w' ∧ OwnRows w' W'.heap.size a c (matL S (ownF (strandsL S M L)) N)) := Lib.hid fun W' hW' =>
    matrix_yes S M L aS aM cS cM N W' hv hN hNl (HS.out.later (below_step HB.out hW')) (HM.out.later (below_step HB.out hW'))
  have H36 : Hid (∀ W', Below W.heap.size W W' → Calls Try.prog 36 #[.agg #[.slice aS S.length cS, .slice aM M.length cM, .int .i64 L]] W' fun e w' => ∃ a c, e = .returned (.slice a N c) ∧ Below W'.heap.size W' w' ∧ OwnRows w' W'.heap.size a c (matL S (ownF (strandsL S M L)) N)) := Lib.hid fun W' hW' =>
    rmatrix_any S M L aS aM cS cM N W' hv hN hNl (HS.out.later (below_step HB.out hW')) (HM.out.later (below_step HB.out hW'))
  have H32 : Hid (∀ W', Below W.heap.size W W' → Calls Try.prog 32 #[.agg #[.slice aS S.length cS, .slice aM M.length cM, .int .i64 L]] W' fun e w' => e = .returned (.bool true) ∧ Below W'.heap.size W' w') := Lib.hid fun W' hW' => by
    have hS' := HS.out.later (below_step HB.out hW')
    have hM' := HM.out.later (below_step HB.out hW')
    rw [← hv]; exact rvalid_any S M L aS aM cS cM W' hSl hMl hS' hM'
  have H33 : Hid (∀ W', Below W.heap.size W W' → Calls Try.prog 33 #[.agg #[.slice aS S.length cS, .slice aM M.length cM, .int .i64 L]] W' fun e w' => e = .returned (.int .i64 (wr S)) ∧ Below W'.heap.size W' w') := Lib.hid fun W' hW' => by
    have hS' := HS.out.later (below_step HB.out hW')
    have hM' := HM.out.later (below_step HB.out hW')
    refine (writhe_any S M L aS aM cS cM W' hSl hMl hS' hM').mono ?_
    rintro e w' ⟨he, hb⟩
    rw [if_pos hv, writhe_wr] at he
    exact ⟨he, hb⟩
  have H37 : Hid (∀ W', Below W.heap.size W W' → Calls Try.prog 37 #[.agg #[.slice aS S.length cS, .slice aM M.length cM, .int .i64 L]] W' fun e w' => e = .returned (.int .i64 (wr S)) ∧ Below W'.heap.size W' w') := Lib.hid fun W' hW' => by
    have hS' := HS.out.later (below_step HB.out hW')
    refine (rwrithe_any S M L aS aM cS cM W' hv hS').mono ?_
    rintro e w' ⟨he, hb⟩
    rw [writhe_wr] at he
    exact ⟨he, hb⟩
  have H34 : Hid (∀ W', Below W.heap.size W W' → Calls Try.prog 34 #[.agg #[.slice aS S.length cS, .slice aM M.length cM, .int .i64 L], .int .i64 i] W' fun e w' => e = .returned (.int .i64 (if 0 ≤ i ∧ i < N then matE S (ownF (strandsL S M L)) i.toNat i.toNat else 0)) ∧ Below W'.heap.size W' w') := Lib.hid fun W' hW' => by
    have hS' := HS.out.later (below_step HB.out hW')
    have hM' := HM.out.later (below_step HB.out hW')
    refine (self_any S M L aS aM cS cM i W' hSl hMl hS' hM').mono ?_
    rintro e w' ⟨he, hb⟩
    rw [Hsv.out] at he
    exact ⟨he, hb⟩
  have H35 : Hid (∀ W', Below W.heap.size W W' → Calls Try.prog 35 #[.agg #[.slice aS S.length cS, .slice aM M.length cM, .int .i64 L]] W' fun e w' => e = .returned (.int .i64 (triTo (matE S (ownF (strandsL S M L))) N)) ∧ Below W'.heap.size W' w') := Lib.hid fun W' hW' => by
    have hS' := HS.out.later (below_step HB.out hW')
    have hM' := HM.out.later (below_step HB.out hW')
    refine (total_any S M L aS aM cS cM W' hSl hMl hS' hM').mono ?_
    rintro e w' ⟨he, hb⟩
    rw [if_pos hv, Htv.out] at he
    exact ⟨he, hb⟩
  clear hf hv hSl hMl hS hM hl hN hNs Hsv Htv
  generalize numberR S M L i k = nr at *
  generalize ownF (strandsL S M L) = f at *
  generalize wr S = wv at *
  go_enter Try.func3, Try.ntmps3
  go_wp2_with fail
  rw [← hW]
  clear hW
  refine (awake_any W).mono ?_
  rintro e w1 ⟨rfl, hb1⟩
  have Hb1 := Lib.hid (hb1)
  clear hb1
  have hc := Hcell.out w1 Hb1.out
  have hc0 := hc 0
  have hc1 := hc 1
  have hc2 := hc 2
  simp only [List.getElem?_cons_succ, List.getElem?_cons_zero] at hc0 hc1 hc2
  clear hc
  go_wp2_with fail
  refine (H29.out w1 Hb1.out).mono ?_
  rintro e w2 ⟨rfl, hb2⟩
  have Hb2 := Lib.hid (below_step Hb1.out hb2)
  clear hb2
  clear hc0 hc1 hc2
  have hc := Hcell.out w2 Hb2.out
  have hc0 := hc 0
  have hc1 := hc 1
  have hc2 := hc 2
  simp only [List.getElem?_cons_succ, List.getElem?_cons_zero] at hc0 hc1 hc2
  clear hc
  go_wp2_with fail
  refine (H30.out w2 Hb2.out).mono ?_
  rintro e w3 ⟨rfl, hb3⟩
  have Hb3 := Lib.hid (below_step Hb2.out hb3)
  clear hb3
  clear hc0 hc1 hc2
  have hc := Hcell.out w3 Hb3.out
  have hc0 := hc 0
  have hc1 := hc 1
  have hc2 := hc 2
  simp only [List.getElem?_cons_succ, List.getElem?_cons_zero] at hc0 hc1 hc2
  clear hc
  go_wp2_with fail
  refine (H31.out w3 Hb3.out).mono ?_
  rintro e w4 ⟨aX, cX, rfl, hb4, hX⟩
  have Hb4 := Lib.hid (below_step Hb3.out hb4)
  clear hb4
  clear hc0 hc1 hc2
  have hc := Hcell.out w4 Hb4.out
  have hc0 := hc 0
  have hc1 := hc 1
  have hc2 := hc 2
  simp only [List.getElem?_cons_succ, List.getElem?_cons_zero] at hc0 hc1 hc2
  clear hc
  have HX4 := Lib.hid hX
  clear hX
  go_wp2_with fail
  refine (H32.out w4 Hb4.out).mono ?_
  rintro e w5 ⟨rfl, hb5⟩
  have Hb5 := Lib.hid (below_step Hb4.out hb5)
  have HX5 := Lib.hid (HX4.out.later hb5 (Nat.le_refl _))
  clear HX4
  clear hb5
  clear hc0 hc1 hc2
  have hc := Hcell.out w5 Hb5.out
  have hc0 := hc 0
  have hc1 := hc 1
  have hc2 := hc 2
  simp only [List.getElem?_cons_succ, List.getElem?_cons_zero] at hc0 hc1 hc2
  clear hc
  go_wp2_with fail
  refine (H36.out w5 Hb5.out).mono ?_
  rintro e w6 ⟨aY, cY, rfl, hb6, hY⟩
  have Hb6 := Lib.hid (below_step Hb5.out hb6)
  have HX6 := Lib.hid (HX5.out.later hb6 (Nat.le_refl _))
  clear HX5
  clear hb6
  clear hc0 hc1 hc2
  have hc := Hcell.out w6 Hb6.out
  have hc0 := hc 0
  have hc1 := hc 1
  have hc2 := hc 2
  simp only [List.getElem?_cons_succ, List.getElem?_cons_zero] at hc0 hc1 hc2
  clear hc
  have HY6 := Lib.hid hY
  clear hY
  go_wp2_with fail
  have HL : Hid (∀ W', Below w6.heap.size w6 W' → Calls Try.prog 38 #[.slice aX N cX, .slice aY N cY] W' fun e w' => e = .returned (.bool true) ∧ Below w6.heap.size w6 w') := Lib.hid fun W' h => by
    have h1 := HX6.out.later h (Nat.le_refl _)
    have h2 := HY6.out.later h (Nat.le_refl _)
    have hlen : (matL S f N).length = N := tab_len _ _ _
    have h3 := lists_any (matL S f N) (matL S f N) aX aY cX cY _ _ W' (by omega) (fun q => by
      rcases Nat.lt_or_ge q N with g | g
      · rw [matL, tab_row _ _ _ _ g, row_len]; omega
      · rw [List.getD_eq_getElem?_getD, List.getElem?_eq_none (by omega)]; simp) h1 h2
    rw [hlen] at h3
    refine h3.mono ?_
    rintro e w' ⟨he, m, rfl⟩
    rw [decide_eq_true rfl] at he
    exact ⟨he, below_drewNN h m⟩
  have HQbox : Hid (∀ W', Below w6.heap.size w6 W' → Row W' w.heap.size 24 [.slice aS S.length cS, .slice aM M.length cM, .int .i64 L]) := Lib.hid fun W' h => Hbox.out.later (below_step Hb6.out h) Hbox.out.lt
  clear hc0 hc1 hc2
  refine wp_region_class (fun W' => Below w6.heap.size w6 W') (by kernel_rfl) (by kernel_rfl) ((Below.refl _ _).drew) ?_
  refine wpQuiet_loadRow (.tmp 3) 24 w.heap.size 24 [.slice aS S.length cS, .slice aM M.length cM, .int .i64 L] rfl rfl rfl Try.isAgg24 Try.sizeOf24 HQbox.out ?_
  simp only [Act.put, List.setIfInBounds_toArray, List.set_cons_succ, List.set_cons_zero]
  refine wpQuiet_call (.int .i64 wv) 33 _ _ [.agg #[.slice aS S.length cS, .slice aM M.length cM, .int .i64 L]] rfl rfl rfl Try.call33 (fun W' h => (H33.out W' (below_step Hb6.out h)).mono fun e w' ⟨he, hb⟩ => ⟨he, below_step h hb⟩) ?_
  simp only [Act.put, List.setIfInBounds_toArray, List.set_cons_succ, List.set_cons_zero]
  refine wpQuiet_loadRow (.tmp 3) 24 w.heap.size 24 [.slice aS S.length cS, .slice aM M.length cM, .int .i64 L] rfl rfl rfl Try.isAgg24 Try.sizeOf24 HQbox.out ?_
  simp only [Act.put, List.setIfInBounds_toArray, List.set_cons_succ, List.set_cons_zero]
  refine wpQuiet_call (.int .i64 wv) 37 _ _ [.agg #[.slice aS S.length cS, .slice aM M.length cM, .int .i64 L]] rfl rfl rfl Try.call37 (fun W' h => (H37.out W' (below_step Hb6.out h)).mono fun e w' ⟨he, hb⟩ => ⟨he, below_step h hb⟩) ?_
  simp only [Act.put, List.setIfInBounds_toArray, List.set_cons_succ, List.set_cons_zero]
  refine wpQuiet_val (.bool false) rfl (fun W _ => ?_) ?_
  · go_simp
  simp only [Act.put, List.setIfInBounds_toArray, List.set_cons_succ, List.set_cons_zero]
  refine wpQuiet_move (.tmp 68) (.bool false) rfl rfl rfl ?_
  simp only [Act.put, List.setIfInBounds_toArray, List.set_cons_succ, List.set_cons_zero]
  refine wpQuietW_move (.tmp 9) (.slice aX N cX) (by rfl) rfl rfl ?_
  simp only [Act.put, List.setIfInBounds_toArray, List.set_cons_succ, List.set_cons_zero]
  refine wpQuietW_move (.tmp 10) (.slice aY N cY) (by rfl) rfl rfl ?_
  simp only [Act.put, List.setIfInBounds_toArray, List.set_cons_succ, List.set_cons_zero]
  refine wpQuietW_call (.bool true) 38 _ _ [.slice aX N cX, .slice aY N cY] (by rfl) rfl rfl Try.call38 (HL.out) ?_
  simp only [Act.put, List.setIfInBounds_toArray, List.set_cons_succ, List.set_cons_zero]
  refine wpQuietW_val (.bool false) (by rfl) (fun W _ => ?_) ?_
  · go_simp
  simp only [Act.put, List.setIfInBounds_toArray, List.set_cons_succ, List.set_cons_zero]
  refine wpQuiet_val (.bool false) rfl (fun W _ => ?_) ?_
  · go_simp
  simp only [Act.put, List.setIfInBounds_toArray, List.set_cons_succ, List.set_cons_zero]
  refine wpQuiet_end ?_
  intro w7 hb7
  have Hb7 := Lib.hid (below_step Hb6.out hb7)
  have HY7 := Lib.hid (HY6.out.later hb7 (Nat.le_refl _))
  clear hb7 HX6 HY6 HL HQbox
  rcases (show (0 ≤ i ∧ i < (N : Int)) ∨ i < 0 ∨ ((N : Int) ≤ i) from by omega) with hA | hA | hA
  · obtain ⟨a, rfl⟩ : ∃ a : Nat, i = (a : Int) := ⟨i.toNat, by omega⟩
    have hal : a < N := by omega
    have hbs := HE.out a a
    rw [Int.toNat_natCast] at Hnv
    obtain ⟨bz, oz, hqz, _, _, hYcz⟩ := HY7.out.open (by rw [matL, tab_len]; omega)
    obtain ⟨aRz, cRz, hcRz, hoRz⟩ := hYcz a _ (tab_get _ _ _ _ (by omega))
    rw [row_len] at hcRz
    obtain ⟨bRz, oRz, hrz, _, _, hRcz, _⟩ := hoRz.open (by rw [ints_length, row_len]; omega)
    have hcEz := hRcz a _ (ints_get _ _ (by rw [row_len]; omega))
    rw [nth_row _ _ _ (by omega)] at hcEz
    cases hqz
    cases hrz
    clear hYcz hoRz hRcz
    generalize hsv : matE S f a a = sv at *
    have Hs := Lib.hid hsv
    clear hsv
    go_wp2_with fail
    go_loopg [92, 12] N (fun g p t wr => ∃ p' : Nat, p' ≤ N ∧ g = N - p' ∧ p = .int .i64 p' ∧ t = .int .i64 (triTo (matE S f) p') ∧ wr = w7)
    case atStart => exact ⟨0, Nat.zero_le _, rfl, rfl, rfl, rfl⟩
    case round =>
      obtain ⟨p', hp', rfl, rfl, rfl, rfl⟩ := hrel
      have hbt := triTo_bd (matE S f) HE.out p' (by omega)
      by_cases hpl : p' < N
      · have Htr : Hid (triTo (matE S f) (p' + 1) = triTo (matE S f) p' + rowTo (matE S f) p' p') := Lib.hid rfl
        go_wp2_with fail
        go_loopg [96, 12] p' (fun g j t wz => ∃ j' : Nat, j' ≤ p' ∧ g = p' - j' ∧ j = .int .i64 j' ∧ t = .int .i64 (triTo (matE S f) p' + rowTo (matE S f) p' j') ∧ wz = wr)
        case atStart => exact ⟨0, Nat.zero_le _, rfl, rfl, by simp [rowTo], rfl⟩
        case round =>
          obtain ⟨j', hj', rfl, rfl, rfl, rfl⟩ := hrel
          have hbr := rowTo_bd (matE S f) p' HE.out j'
          by_cases hjl : j' < p'
          · have Hrt : Hid (rowTo (matE S f) p' (j' + 1) = rowTo (matE S f) p' j' + matE S f p' j') := Lib.hid rfl
            have hbe := HE.out p' j'
            obtain ⟨bz, oz, hqz, _, _, hYcz⟩ := HY7.out.open (by rw [matL, tab_len]; omega)
            obtain ⟨aRz, cRz, hcRz, hoRz⟩ := hYcz p' _ (tab_get _ _ _ _ (by omega))
            rw [row_len] at hcRz
            obtain ⟨bRz, oRz, hrz, _, _, hRcz, _⟩ := hoRz.open (by rw [ints_length, row_len]; omega)
            have hcEz := hRcz j' _ (ints_get _ _ (by rw [row_len]; omega))
            rw [nth_row _ _ _ (by omega)] at hcEz
            cases hqz
            cases hrz
            clear hYcz hoRz hRcz

            generalize rowTo (matE S f) p' j' = rv at *
            generalize triTo (matE S f) p' = tv at *
            generalize matE S f p' j' = ev at *
            go_wp2_with fail
            go_roundg (p' - (j' + 1))
            case measure => omega
            case rel => exact ⟨j' + 1, by omega, rfl, by go_num, by rw [Hrt.out, ← Int.add_assoc], rfl⟩
          · obtain rfl : j' = p' := by omega
            generalize hrv : rowTo (matE S f) j' j' = rv at *
            have Hrv := Lib.hid hrv
            clear hrv
            go_wp2_with fail
            go_roundg (N - (j' + 1))
            case measure => omega
            case rel => exact ⟨j' + 1, by omega, rfl, by go_num, by rw [Htr.out], rfl⟩
      · obtain rfl : p' = N := by omega
        have hc := Hcell.out wr Hb7.out
        have hc0 := hc 0
        have hc1 := hc 1
        have hc2 := hc 2
        simp only [List.getElem?_cons_succ, List.getElem?_cons_zero] at hc0 hc1 hc2
        clear hc
        have H34' := Lib.hid (H34.out wr Hb7.out)
        rw [if_pos (by omega), Int.toNat_natCast, Hs.out] at H34'
        generalize triTo (matE S f) p' = tv at *
        clear Hs
        go_wp2_with fail
        refine H34'.out.mono ?_
        rintro e w8 ⟨rfl, hb8⟩
        have Hb8 := Lib.hid (below_step Hb7.out hb8)
        have HY8 := Lib.hid (HY7.out.later hb8 (Nat.le_refl _))
        clear hb8 hc0 hc1 hc2 H34'
        have hc := Hcell.out w8 Hb8.out
        have hc0 := hc 0
        have hc1 := hc 1
        have hc2 := hc 2
        simp only [List.getElem?_cons_succ, List.getElem?_cons_zero] at hc0 hc1 hc2
        clear hc
        go_wp2_with fail
        refine (H35.out w8 Hb8.out).mono ?_
        rintro e w9 ⟨rfl, hb9⟩
        have Hb9 := Lib.hid (below_step HB.out (below_step Hb8.out hb9))
        have HY9 := Lib.hid (HY8.out.later hb9 (Nat.le_refl _))
        clear hb9 hc0 hc1 hc2 HY8
        by_cases hk0 : k < 0
        · have d1 : decide (k < 0) = true := decide_eq_true hk0
          have hnr := Hnv.out
          rw [if_pos (by omega)] at hnr
          subst hnr

          clear hk0
          go_wp2_with fail
          go_ret
          exact ⟨rfl, Hb9.out⟩

        by_cases hk1 : (p' : Int) ≤ k
        · have d1 : decide (k < 0) = false := decide_eq_false hk0
          have d2 : decide ((p' : Int) ≤ k) = true := decide_eq_true hk1
          have hnr := Hnv.out
          rw [if_pos (by omega)] at hnr
          subst hnr

          clear hk0 hk1
          go_wp2_with fail
          go_ret
          exact ⟨rfl, Hb9.out⟩

        obtain ⟨b, rfl⟩ : ∃ b : Nat, k = (b : Int) := ⟨k.toNat, by omega⟩
        have hbl : b < p' := by omega
        clear hk0 hk1
        by_cases hab : a = b
        · have d3 : ((a : Int) == (b : Int)) = true := by rw [beq_iff_eq]; omega
          have hnr := Hnv.out
          rw [if_pos (by omega)] at hnr
          subst hnr

          clear hab
          go_wp2_with fail
          go_ret
          exact ⟨rfl, Hb9.out⟩

        · have d3 : ((a : Int) == (b : Int)) = false := by rw [beq_eq_false_iff_ne]; omega
          have hnr := Hnv.out
          rw [if_neg (by omega), Int.toNat_natCast] at hnr
          subst hnr

          obtain ⟨bv, ov, hqv, _, _, hYcv⟩ := HY9.out.open (by rw [matL, tab_len]; omega)
          obtain ⟨aRv, cRv, hcRv, hoRv⟩ := hYcv a _ (tab_get _ _ _ _ (by omega))
          rw [row_len] at hcRv
          obtain ⟨bRv, oRv, hrv, _, _, hRcv, _⟩ := hoRv.open (by rw [ints_length, row_len]; omega)
          have hcEv := hRcv b _ (ints_get _ _ (by rw [row_len]; omega))
          rw [nth_row _ _ _ (by omega)] at hcEv
          cases hqv
          cases hrv
          clear hYcv hoRv hRcv

          clear hab
          go_wp2_with fail
          go_ret
          exact ⟨rfl, Hb9.out⟩

  · have d0 : decide (0 ≤ i) = false := decide_eq_false (by omega)
    have d1 : decide (i < 0) = true := decide_eq_true (by omega)
    have hnr := Hnv.out
    rw [if_pos (by omega)] at hnr
    subst hnr
    go_wp2_with fail
    go_loopg [92, 12] N (fun g p t wr => ∃ p' : Nat, p' ≤ N ∧ g = N - p' ∧ p = .int .i64 p' ∧ t = .int .i64 (triTo (matE S f) p') ∧ wr = w7)
    case atStart => exact ⟨0, Nat.zero_le _, rfl, rfl, rfl, rfl⟩
    case round =>
      obtain ⟨p', hp', rfl, rfl, rfl, rfl⟩ := hrel
      have hbt := triTo_bd (matE S f) HE.out p' (by omega)
      by_cases hpl : p' < N
      · have Htr : Hid (triTo (matE S f) (p' + 1) = triTo (matE S f) p' + rowTo (matE S f) p' p') := Lib.hid rfl
        go_wp2_with fail
        go_loopg [96, 12] p' (fun g j t wz => ∃ j' : Nat, j' ≤ p' ∧ g = p' - j' ∧ j = .int .i64 j' ∧ t = .int .i64 (triTo (matE S f) p' + rowTo (matE S f) p' j') ∧ wz = wr)
        case atStart => exact ⟨0, Nat.zero_le _, rfl, rfl, by simp [rowTo], rfl⟩
        case round =>
          obtain ⟨j', hj', rfl, rfl, rfl, rfl⟩ := hrel
          have hbr := rowTo_bd (matE S f) p' HE.out j'
          by_cases hjl : j' < p'
          · have Hrt : Hid (rowTo (matE S f) p' (j' + 1) = rowTo (matE S f) p' j' + matE S f p' j') := Lib.hid rfl
            have hbe := HE.out p' j'
            obtain ⟨bz, oz, hqz, _, _, hYcz⟩ := HY7.out.open (by rw [matL, tab_len]; omega)
            obtain ⟨aRz, cRz, hcRz, hoRz⟩ := hYcz p' _ (tab_get _ _ _ _ (by omega))
            rw [row_len] at hcRz
            obtain ⟨bRz, oRz, hrz, _, _, hRcz, _⟩ := hoRz.open (by rw [ints_length, row_len]; omega)
            have hcEz := hRcz j' _ (ints_get _ _ (by rw [row_len]; omega))
            rw [nth_row _ _ _ (by omega)] at hcEz
            cases hqz
            cases hrz
            clear hYcz hoRz hRcz

            generalize rowTo (matE S f) p' j' = rv at *
            generalize triTo (matE S f) p' = tv at *
            generalize matE S f p' j' = ev at *
            go_wp2_with fail
            go_roundg (p' - (j' + 1))
            case measure => omega
            case rel => exact ⟨j' + 1, by omega, rfl, by go_num, by rw [Hrt.out, ← Int.add_assoc], rfl⟩
          · obtain rfl : j' = p' := by omega
            generalize hrv : rowTo (matE S f) j' j' = rv at *
            have Hrv := Lib.hid hrv
            clear hrv
            go_wp2_with fail
            go_roundg (N - (j' + 1))
            case measure => omega
            case rel => exact ⟨j' + 1, by omega, rfl, by go_num, by rw [Htr.out], rfl⟩
      · obtain rfl : p' = N := by omega
        have hc := Hcell.out wr Hb7.out
        have hc0 := hc 0
        have hc1 := hc 1
        have hc2 := hc 2
        simp only [List.getElem?_cons_succ, List.getElem?_cons_zero] at hc0 hc1 hc2
        clear hc
        have H34' := Lib.hid (H34.out wr Hb7.out)
        rw [if_neg (by omega)] at H34'
        generalize triTo (matE S f) p' = tv at *
        skip
        go_wp2_with fail
        refine H34'.out.mono ?_
        rintro e w8 ⟨rfl, hb8⟩
        have Hb8 := Lib.hid (below_step Hb7.out hb8)
        have HY8 := Lib.hid (HY7.out.later hb8 (Nat.le_refl _))
        clear hb8 hc0 hc1 hc2 H34'
        have hc := Hcell.out w8 Hb8.out
        have hc0 := hc 0
        have hc1 := hc 1
        have hc2 := hc 2
        simp only [List.getElem?_cons_succ, List.getElem?_cons_zero] at hc0 hc1 hc2
        clear hc
        go_wp2_with fail
        refine (H35.out w8 Hb8.out).mono ?_
        rintro e w9 ⟨rfl, hb9⟩
        have Hb9 := Lib.hid (below_step HB.out (below_step Hb8.out hb9))
        have HY9 := Lib.hid (HY8.out.later hb9 (Nat.le_refl _))
        clear hb9 hc0 hc1 hc2 HY8
        go_wp2_with fail
        go_ret
        exact ⟨rfl, Hb9.out⟩

  · have d0 : decide (0 ≤ i) = true := decide_eq_true (by omega)
    have d1 : decide (i < 0) = false := decide_eq_false (by omega)
    have d2 : decide (i < (N : Int)) = false := decide_eq_false (by omega)
    have d3 : decide ((N : Int) ≤ i) = true := decide_eq_true (by omega)
    have hnr := Hnv.out
    rw [if_pos (by omega)] at hnr
    subst hnr
    go_wp2_with fail
    go_loopg [92, 12] N (fun g p t wr => ∃ p' : Nat, p' ≤ N ∧ g = N - p' ∧ p = .int .i64 p' ∧ t = .int .i64 (triTo (matE S f) p') ∧ wr = w7)
    case atStart => exact ⟨0, Nat.zero_le _, rfl, rfl, rfl, rfl⟩
    case round =>
      obtain ⟨p', hp', rfl, rfl, rfl, rfl⟩ := hrel
      have hbt := triTo_bd (matE S f) HE.out p' (by omega)
      by_cases hpl : p' < N
      · have Htr : Hid (triTo (matE S f) (p' + 1) = triTo (matE S f) p' + rowTo (matE S f) p' p') := Lib.hid rfl
        go_wp2_with fail
        go_loopg [96, 12] p' (fun g j t wz => ∃ j' : Nat, j' ≤ p' ∧ g = p' - j' ∧ j = .int .i64 j' ∧ t = .int .i64 (triTo (matE S f) p' + rowTo (matE S f) p' j') ∧ wz = wr)
        case atStart => exact ⟨0, Nat.zero_le _, rfl, rfl, by simp [rowTo], rfl⟩
        case round =>
          obtain ⟨j', hj', rfl, rfl, rfl, rfl⟩ := hrel
          have hbr := rowTo_bd (matE S f) p' HE.out j'
          by_cases hjl : j' < p'
          · have Hrt : Hid (rowTo (matE S f) p' (j' + 1) = rowTo (matE S f) p' j' + matE S f p' j') := Lib.hid rfl
            have hbe := HE.out p' j'
            obtain ⟨bz, oz, hqz, _, _, hYcz⟩ := HY7.out.open (by rw [matL, tab_len]; omega)
            obtain ⟨aRz, cRz, hcRz, hoRz⟩ := hYcz p' _ (tab_get _ _ _ _ (by omega))
            rw [row_len] at hcRz
            obtain ⟨bRz, oRz, hrz, _, _, hRcz, _⟩ := hoRz.open (by rw [ints_length, row_len]; omega)
            have hcEz := hRcz j' _ (ints_get _ _ (by rw [row_len]; omega))
            rw [nth_row _ _ _ (by omega)] at hcEz
            cases hqz
            cases hrz
            clear hYcz hoRz hRcz

            generalize rowTo (matE S f) p' j' = rv at *
            generalize triTo (matE S f) p' = tv at *
            generalize matE S f p' j' = ev at *
            go_wp2_with fail
            go_roundg (p' - (j' + 1))
            case measure => omega
            case rel => exact ⟨j' + 1, by omega, rfl, by go_num, by rw [Hrt.out, ← Int.add_assoc], rfl⟩
          · obtain rfl : j' = p' := by omega
            generalize hrv : rowTo (matE S f) j' j' = rv at *
            have Hrv := Lib.hid hrv
            clear hrv
            go_wp2_with fail
            go_roundg (N - (j' + 1))
            case measure => omega
            case rel => exact ⟨j' + 1, by omega, rfl, by go_num, by rw [Htr.out], rfl⟩
      · obtain rfl : p' = N := by omega
        have hc := Hcell.out wr Hb7.out
        have hc0 := hc 0
        have hc1 := hc 1
        have hc2 := hc 2
        simp only [List.getElem?_cons_succ, List.getElem?_cons_zero] at hc0 hc1 hc2
        clear hc
        have H34' := Lib.hid (H34.out wr Hb7.out)
        rw [if_neg (by omega)] at H34'
        generalize triTo (matE S f) p' = tv at *
        skip
        go_wp2_with fail
        refine H34'.out.mono ?_
        rintro e w8 ⟨rfl, hb8⟩
        have Hb8 := Lib.hid (below_step Hb7.out hb8)
        have HY8 := Lib.hid (HY7.out.later hb8 (Nat.le_refl _))
        clear hb8 hc0 hc1 hc2 H34'
        have hc := Hcell.out w8 Hb8.out
        have hc0 := hc 0
        have hc1 := hc 1
        have hc2 := hc 2
        simp only [List.getElem?_cons_succ, List.getElem?_cons_zero] at hc0 hc1 hc2
        clear hc
        go_wp2_with fail
        refine (H35.out w8 Hb8.out).mono ?_
        rintro e w9 ⟨rfl, hb9⟩
        have Hb9 := Lib.hid (below_step HB.out (below_step Hb8.out hb9))
        have HY9 := Lib.hid (HY8.out.later hb9 (Nat.le_refl _))
        clear hb9 hc0 hc1 hc2 HY8
        by_cases hk0 : k < 0
        · have d4 : decide (k < 0) = true := decide_eq_true hk0
          clear hk0
          go_wp2_with fail
          go_ret
          exact ⟨rfl, Hb9.out⟩

        · have d4 : decide (k < 0) = false := decide_eq_false hk0
          clear hk0
          go_wp2_with fail
          go_ret
          exact ⟨rfl, Hb9.out⟩

theorem tells_any (S M : List Int) (L : Int) (aS aM : Option Addr) (cS cM : Nat) (i k : Int) (w : World) (hSl : S.length ≤ maxLen) (hMl : M.length ≤ maxLen) (_ : (Lit.int .i64 L).wf = true) (hS : IntsAt w aS S) (hM : IntsAt w aM M) (_ : (Lit.int .i64 i).wf = true) (_ : (Lit.int .i64 k).wf = true) :
    Calls Try.prog 3 #[.agg #[.slice aS S.length cS, .slice aM M.length cM, .int .i64 L], .int .i64 i, .int .i64 k] w fun e w' => e = .returned (.bool true) ∧ Below w.heap.size w w' := by
  by_cases hf : fewB S M L = true
  · by_cases hv : vldB S M L = true
    · exact tells_yes S M L aS aM cS cM i k w hf hv hS hM
    · exact tells_no S M L aS aM cS cM i k w hf (by simpa using hv) hS hM
  · exact tells_large S M L aS aM cS cM i k w hSl hMl (by simpa using hf)
end Go.Proofs.Ytkopbcehfbmnmaa
