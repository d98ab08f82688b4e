/- The walk of linking.Number. -/
import Derived.Test.YtkopbcehfbmnmaaLinkFW
namespace Go.Proofs.Ytkopbcehfbmnmaa
open Go Go.RowKit
/-- Number's answer. -/
def numberR (S M : List Int) (L i k : Int) : Int × Int :=
  if vldB S M L = true then (if i < 0 ∨ compsN S M L ≤ i ∨ k < 0 ∨ compsN S M L ≤ k ∨ i = k then (0, 2) else ((sumTo S (ownF (strandsL S M L)) (isPair i k) S.length).tdiv 2, 0)) else (0, 1)
set_option maxRecDepth 100000 in
set_option maxHeartbeats 4000000 in
theorem number_any (S M : List Int) (L : Int) (aS aM : Option Addr) (cS cM : Nat) (i k : Int) (w : World) (hSl : S.length ≤ 1000000000) (hMl : M.length ≤ 1000000000) (hS : IntsAt w aS S) (hM : IntsAt w aM M) :
    Calls Try.prog 30 #[.agg #[.slice aS S.length cS, .slice aM M.length cM, .int .i64 L], .int .i64 i, .int .i64 k] w fun e w' => e = .returned (.tuple #[.int .i64 (numberR S M L i k).1, .int .i64 (numberR S M L i k).2]) ∧ Below w.heap.size w w' := by
  obtain ⟨w0, hw0⟩ : ∃ w0, w0 = ((w.alloc (.cells #[.slice aS S.length cS, .slice aM M.length cM, .int .i64 L] 24)).alloc (.cells #[.int .i64 i] 3)).alloc (.cells #[.int .i64 k] 3) := ⟨_, rfl⟩
  have hB : Below w.heap.size w w0 := by rw [hw0]; exact (((Below.refl _ _).alloc (Nat.le_refl _) _).alloc (by simp) _).alloc (by simp; omega) _
  have hz0 : w0.heap.size = w.heap.size + 3 := by rw [hw0]; simp
  have Hbox : Hid (Row w0 w.heap.size 24 [.slice aS S.length cS, .slice aM M.length cM, .int .i64 L]) := Lib.hid (by rw [hw0]; exact ((Row.new w #[.slice aS S.length cS, .slice aM M.length cM, .int .i64 L] 24).alloc _).alloc _)
  have Hbi : Hid (Row w0 (w.heap.size + 1) 3 [.int .i64 i]) := Lib.hid (by
    have h1 := (Row.new (w.alloc (.cells #[.slice aS S.length cS, .slice aM M.length cM, .int .i64 L] 24)) #[.int .i64 i] 3).alloc (.cells #[.int .i64 k] 3)
    rw [hw0]
    simpa using h1)
  have Hbk : Hid (Row w0 (w.heap.size + 2) 3 [.int .i64 k]) := Lib.hid (by
    have h1 := Row.new ((w.alloc (.cells #[.slice aS S.length cS, .slice aM M.length cM, .int .i64 L] 24)).alloc (.cells #[.int .i64 i] 3)) #[.int .i64 k] 3
    rw [hw0]
    simpa using h1)
  have HV := Lib.hid (valid_any S M L aS aM cS cM w0 hSl hMl (hS.later hB) (hM.later hB))
  have HS := Lib.hid hS
  have HM := Lib.hid hM
  have HB := Lib.hid hB
  clear hB hS hM
  by_cases hv : vldB S M L = true
  · rw [hv] at HV
    have hbd := sumTo_bd S (ownF (strandsL S M L)) (isPair i k) (fun c => by
      rcases Nat.lt_or_ge c S.length with h | h
      · rcases (vldB_shape hv).sign c h with h | h <;> omega
      · rw [nth_out _ _ h]; omega) S.length
    have hfew := (vldB_shape hv).few
    have Hr : Hid (numberR S M L i k = if i < 0 ∨ compsN S M L ≤ i ∨ k < 0 ∨ compsN S M L ≤ k ∨ i = k then (0, 2) else ((sumTo S (ownF (strandsL S M L)) (isPair i k) S.length).tdiv 2, 0)) := Lib.hid (if_pos hv)
    have Hv := Lib.hid hv
    clear hv
    go_enter Try.func30, Try.ntmps30
    go_wp2_with fail
    rw [← hw0]
    refine HV.out.mono ?_
    rintro e w1 ⟨rfl, hb1⟩
    have Hb1 := Lib.hid (below_of HB.out hb1 (by omega))
    have Hbx := Lib.hid (Hbox.out.later hb1 (by omega))
    have Hbi1 := Lib.hid (Hbi.out.later hb1 (by omega))
    have Hbk1 := Lib.hid (Hbk.out.later hb1 (by omega))
    have hc0 := Hbx.out.cell 0
    have hc1 := Hbx.out.cell 1
    have hc2 := Hbx.out.cell 2
    simp only [List.getElem?_cons_succ, List.getElem?_cons_zero] at hc0 hc1 hc2
    clear hb1 Hbox Hbi Hbk hz0 hw0 HV HB
    go_wp2_with fail
    refine (components_any S M L aS aM cS cM w1 hSl hMl (HS.out.later Hb1.out) (HM.out.later Hb1.out)).mono ?_
    rintro e w2 ⟨rfl, hb2⟩
    clear hc0 hc1 hc2
    have Hb2 := Lib.hid (below_step Hb1.out hb2)
    have Hbx2 := Lib.hid (Hbx.out.later hb2 Hbx.out.lt)
    have Hbi2 := Lib.hid (Hbi1.out.later hb2 Hbi1.out.lt)
    have Hbk2 := Lib.hid (Hbk1.out.later hb2 Hbk1.out.lt)
    have hc0 := Hbx2.out.cell 0
    have hc1 := Hbx2.out.cell 1
    have hc2 := Hbx2.out.cell 2
    have hci := Hbi2.out.cell 0
    have hck := Hbk2.out.cell 0
    simp only [List.getElem?_cons_succ, List.getElem?_cons_zero] at hc0 hc1 hc2 hci hck
    generalize compsN S M L = N at *
    clear hb2 Hbx Hbi1 Hbk1 Hb1
    by_cases h1 : i < 0
    · have d1 : decide (i < 0) = true := decide_eq_true h1
      have Hf : Hid (numberR S M L i k = (0, 2)) := Lib.hid (by rw [Hr.out, if_pos (.inl h1)])
      clear h1
      go_wp2_with fail
      refine bodyPost_ret (results_tmp2 rfl _ _ _) rfl ?_
      rw [Hf.out]
      exact ⟨rfl, Hb2.out⟩
    have d1 : decide (i < 0) = false := decide_eq_false h1
    by_cases h2 : N ≤ i
    · have d2 : decide (N ≤ i) = true := decide_eq_true h2
      have Hf : Hid (numberR S M L i k = (0, 2)) := Lib.hid (by rw [Hr.out, if_pos (.inr (.inl h2))])
      clear h1 h2
      go_wp2_with fail
      refine bodyPost_ret (results_tmp2 rfl _ _ _) rfl ?_
      rw [Hf.out]
      exact ⟨rfl, Hb2.out⟩
    have d2 : decide (N ≤ i) = false := decide_eq_false h2
    by_cases h3 : k < 0
    · have d3 : decide (k < 0) = true := decide_eq_true h3
      have Hf : Hid (numberR S M L i k = (0, 2)) := Lib.hid (by rw [Hr.out, if_pos (.inr (.inr (.inl h3)))])
      clear h1 h2 h3
      go_wp2_with fail
      refine bodyPost_ret (results_tmp2 rfl _ _ _) rfl ?_
      rw [Hf.out]
      exact ⟨rfl, Hb2.out⟩
    have d3 : decide (k < 0) = false := decide_eq_false h3
    by_cases h4 : N ≤ k
    · have d4 : decide (N ≤ k) = true := decide_eq_true h4
      have Hf : Hid (numberR S M L i k = (0, 2)) := Lib.hid (by rw [Hr.out, if_pos (.inr (.inr (.inr (.inl h4))))])
      clear h1 h2 h3 h4
      go_wp2_with fail
      refine bodyPost_ret (results_tmp2 rfl _ _ _) rfl ?_
      rw [Hf.out]
      exact ⟨rfl, Hb2.out⟩
    have d4 : decide (N ≤ k) = false := decide_eq_false h4
    by_cases h5 : i = k
    · have d5 : (i == k) = true := by simpa using h5
      have Hf : Hid (numberR S M L i k = (0, 2)) := Lib.hid (by rw [Hr.out, if_pos (.inr (.inr (.inr (.inr h5))))])
      clear h1 h2 h3 h4 h5
      go_wp2_with fail
      refine bodyPost_ret (results_tmp2 rfl _ _ _) rfl ?_
      rw [Hf.out]
      exact ⟨rfl, Hb2.out⟩
    have d5 : (i == k) = false := by simpa using h5
    have Hf : Hid (numberR S M L i k = ((sumTo S (ownF (strandsL S M L)) (isPair i k) S.length).tdiv 2, 0)) := Lib.hid (by rw [Hr.out, if_neg (by omega)])
    clear h1 h2 h3 h4 h5
    go_wp2_with fail
    refine (sum_any S M L aS aM cS cM w2 97 #[.pointer (some ⟨w.heap.size + 1, 0, none⟩), .pointer (some ⟨w.heap.size + 2, 0, none⟩)] (isPair i k) Try.call97 (number1_any w2 _ _ i k Hbi2.out Hbk2.out) Hv.out (HS.out.later Hb2.out) (HM.out.later Hb2.out)).mono ?_
    rintro e w3 ⟨rfl, hb3⟩
    have Hb3 := Lib.hid (below_step Hb2.out hb3)
    clear hb3
    generalize sumTo S (ownF (strandsL S M L)) (isPair i k) S.length = t at *
    go_wp2_with fail
    refine bodyPost_ret (results_tmp2 rfl _ _ _) rfl ?_
    rw [Hf.out]
    exact ⟨rfl, Hb3.out⟩
  · have Hr : Hid (numberR S M L i k = (0, 1)) := Lib.hid (if_neg hv)
    have hv2 : vldB S M L = false := by simpa using hv
    rw [hv2] at HV
    clear hv hv2
    go_enter Try.func30, Try.ntmps30
    go_wp2_with fail
    rw [← hw0]
    refine HV.out.mono ?_
    rintro e w1 ⟨rfl, hb1⟩
    have Hb1 := Lib.hid (below_of HB.out hb1 (by omega))
    clear hb1
    go_wp2_with fail
    refine bodyPost_ret (results_tmp2 rfl _ _ _) rfl ?_
    rw [Hr.out]
    exact ⟨rfl, Hb1.out⟩
end Go.Proofs.Ytkopbcehfbmnmaa
