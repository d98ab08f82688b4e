/- The walk of the law LinkingSwitches. -/
import Derived.Test.YtkopbcehfbmnmaaTellsW
import Derived.Test.YtkopbcehfbmnmaaSwitchW
import Derived.Test.YtkopbcehfbmnmaaSwA
import Derived.Test.YtkopbcehfbmnmaaBMap
namespace Go.Proofs.Ytkopbcehfbmnmaa
open Go Go.RowKit
set_option maxRecDepth 100000 in
set_option maxHeartbeats 4000000 in
theorem lsw_large (S M : List Int) (L : Int) (aS aM : Option Addr) (cS cM : Nat) (k : Int) (w : World) (hSl : S.length ≤ maxLen) (hMl : M.length ≤ maxLen) (hf : fewB S M L = false) :
    Calls Try.prog 8 #[.agg #[.slice aS S.length cS, .slice aM M.length cM, .int .i64 L], .int .u8 k] w fun e w' => e = .returned (.bool true) ∧ Below w.heap.size w w' := by
  obtain ⟨W, hW⟩ : ∃ W, W = w.alloc (.cells #[.slice aS S.length cS, .slice aM M.length cM, .int .i64 L] 24) := ⟨_, rfl⟩
  have HB : Hid (Below w.heap.size w W) := Lib.hid (by rw [hW]; exact (Below.refl _ _).alloc (Nat.le_refl _) _)
  have Hbox : Hid (Row W w.heap.size 24 [.slice aS S.length cS, .slice aM M.length cM, .int .i64 L]) := Lib.hid (by rw [hW]; exact Row.new w #[.slice aS S.length cS, .slice aM M.length cM, .int .i64 L] 24)
  have Hcell : Hid (∀ W', Below W.heap.size W W' → ∀ i, W'.cell? ⟨w.heap.size, i, none⟩ = ([.slice aS S.length cS, .slice aM M.length cM, .int .i64 L] : List Value)[i]?) := Lib.hid fun W' h i => (Hbox.out.later h Hbox.out.lt).cell i
  have HF : Hid (∀ W', Calls Try.prog 29 #[.agg #[.slice aS S.length cS, .slice aM M.length cM, .int .i64 L]] W' fun e w' => e = .returned (.bool false) ∧ Below W'.heap.size W' w') := Lib.hid fun W' => by rw [← hf]; exact few_any S M L aS aM cS cM W' hSl hMl
  clear hf hSl hMl
  go_enter Try.func8, Try.ntmps8
  go_wp2_with fail
  rw [← hW]
  clear hW
  refine (awake_any W).mono ?_
  rintro e w1 ⟨rfl, hb1⟩
  have Hb1 := Lib.hid (hb1)
  clear hb1
  have hc := Hcell.out w1 Hb1.out
  have hc0 := hc 0
  have hc1 := hc 1
  have hc2 := hc 2
  simp only [List.getElem?_cons_succ, List.getElem?_cons_zero] at hc0 hc1 hc2
  clear hc
  go_wp2_with fail
  refine (HF.out w1).mono ?_
  rintro e w2 ⟨rfl, hb2⟩
  have Hb2 := Lib.hid (below_step Hb1.out hb2)
  clear hb2
  clear hc0 hc1 hc2
  have hc := Hcell.out w2 Hb2.out
  have hc0 := hc 0
  have hc1 := hc 1
  have hc2 := hc 2
  simp only [List.getElem?_cons_succ, List.getElem?_cons_zero] at hc0 hc1 hc2
  clear hc
  go_wp2_with fail
  refine (awake_any w2).mono ?_
  rintro e w3 ⟨rfl, hb3⟩
  have Hb3 := Lib.hid (below_step Hb2.out hb3)
  clear hb3
  clear hc0 hc1 hc2
  have hc := Hcell.out w3 Hb3.out
  have hc0 := hc 0
  have hc1 := hc 1
  have hc2 := hc 2
  simp only [List.getElem?_cons_succ, List.getElem?_cons_zero] at hc0 hc1 hc2
  clear hc
  go_wp2_with fail
  go_ret
  exact ⟨rfl, below_step HB.out Hb3.out⟩
set_option maxRecDepth 100000 in
set_option maxHeartbeats 4000000 in
theorem lsw_no (S M : List Int) (L : Int) (aS aM : Option Addr) (cS cM : Nat) (k : Int) (w : World) (hf : fewB S M L = true) (hv : vldB S M L = false) (hS : IntsAt w aS S) (hM : IntsAt w aM M) :
    Calls Try.prog 8 #[.agg #[.slice aS S.length cS, .slice aM M.length cM, .int .i64 L], .int .u8 k] w fun e w' => e = .returned (.bool true) ∧ Below w.heap.size w w' := by
  have hl : S.length ≤ 12 ∧ M.length ≤ 60 := by
    have := of_decide_eq_true hf
    exact ⟨this.1, this.2.1⟩
  have hSl : S.length ≤ 1000000000 := by omega
  have hMl : M.length ≤ 1000000000 := by omega
  obtain ⟨W, hW⟩ : ∃ W, W = w.alloc (.cells #[.slice aS S.length cS, .slice aM M.length cM, .int .i64 L] 24) := ⟨_, rfl⟩
  have HB : Hid (Below w.heap.size w W) := Lib.hid (by rw [hW]; exact (Below.refl _ _).alloc (Nat.le_refl _) _)
  have Hbox : Hid (Row W w.heap.size 24 [.slice aS S.length cS, .slice aM M.length cM, .int .i64 L]) := Lib.hid (by rw [hW]; exact Row.new w #[.slice aS S.length cS, .slice aM M.length cM, .int .i64 L] 24)
  have Hcell : Hid (∀ W', Below W.heap.size W W' → ∀ i, W'.cell? ⟨w.heap.size, i, none⟩ = ([.slice aS S.length cS, .slice aM M.length cM, .int .i64 L] : List Value)[i]?) := Lib.hid fun W' h i => (Hbox.out.later h Hbox.out.lt).cell i
  have HS := Lib.hid hS
  have HM := Lib.hid hM
  have H29 : Hid (∀ W', Below W.heap.size W W' → Calls Try.prog 29 #[.agg #[.slice aS S.length cS, .slice aM M.length cM, .int .i64 L]] W' fun e w' => e = .returned (.bool true) ∧ Below W'.heap.size W' w') := Lib.hid fun W' hW' => by
    rw [← hf]; exact few_any S M L aS aM cS cM W' (by unfold maxLen; omega) (by unfold maxLen; omega)
  have H39 : Hid (∀ W', Below W.heap.size W W' → Calls Try.prog 39 #[.agg #[.slice aS S.length cS, .slice aM M.length cM, .int .i64 L]] W' fun e w' => e = .returned (.bool false) ∧ Below W'.heap.size W' w') := Lib.hid fun W' hW' => by
    have hS' := HS.out.later (below_step HB.out hW')
    have hM' := HM.out.later (below_step HB.out hW')
    rw [← hv]; exact valid_any S M L aS aM cS cM W' hSl hMl hS' hM'
  clear hf hv hSl hMl hS hM hl
  go_enter Try.func8, Try.ntmps8
  go_wp2_with fail
  rw [← hW]
  clear hW
  refine (awake_any W).mono ?_
  rintro e w1 ⟨rfl, hb1⟩
  have Hb1 := Lib.hid (hb1)
  clear hb1
  have hc := Hcell.out w1 Hb1.out
  have hc0 := hc 0
  have hc1 := hc 1
  have hc2 := hc 2
  simp only [List.getElem?_cons_succ, List.getElem?_cons_zero] at hc0 hc1 hc2
  clear hc
  go_wp2_with fail
  refine (H29.out w1 Hb1.out).mono ?_
  rintro e w2 ⟨rfl, hb2⟩
  have Hb2 := Lib.hid (below_step Hb1.out hb2)
  clear hb2
  clear hc0 hc1 hc2
  have hc := Hcell.out w2 Hb2.out
  have hc0 := hc 0
  have hc1 := hc 1
  have hc2 := hc 2
  simp only [List.getElem?_cons_succ, List.getElem?_cons_zero] at hc0 hc1 hc2
  clear hc
  go_wp2_with fail
  refine (H39.out w2 Hb2.out).mono ?_
  rintro e w3 ⟨rfl, hb3⟩
  have Hb3 := Lib.hid (below_step Hb2.out hb3)
  clear hb3
  clear hc0 hc1 hc2
  have hc := Hcell.out w3 Hb3.out
  have hc0 := hc 0
  have hc1 := hc 1
  have hc2 := hc 2
  simp only [List.getElem?_cons_succ, List.getElem?_cons_zero] at hc0 hc1 hc2
  clear hc
  go_wp2_with fail
  refine (awake_any w3).mono ?_
  rintro e w4 ⟨rfl, hb4⟩
  have Hb4 := Lib.hid (below_step Hb3.out hb4)
  clear hb4
  clear hc0 hc1 hc2
  have hc := Hcell.out w4 Hb4.out
  have hc0 := hc 0
  have hc1 := hc 1
  have hc2 := hc 2
  simp only [List.getElem?_cons_succ, List.getElem?_cons_zero] at hc0 hc1 hc2
  clear hc
  go_wp2_with fail
  go_ret
  exact ⟨rfl, below_step HB.out Hb4.out⟩
set_option maxRecDepth 100000 in
set_option maxHeartbeats 4000000 in
theorem lsw_zero (S M : List Int) (L : Int) (aS aM : Option Addr) (cS cM : Nat) (k : Int) (w : World) (hf : fewB S M L = true) (hv : vldB S M L = true) (hn : S.length = 0) (hS : IntsAt w aS S) (hM : IntsAt w aM M) :
    Calls Try.prog 8 #[.agg #[.slice aS S.length cS, .slice aM M.length cM, .int .i64 L], .int .u8 k] w fun e w' => e = .returned (.bool true) ∧ Below w.heap.size w w' := by
  have hl : S.length ≤ 12 ∧ M.length ≤ 60 := by
    have := of_decide_eq_true hf
    exact ⟨this.1, this.2.1⟩
  have hSl : S.length ≤ 1000000000 := by omega
  have hMl : M.length ≤ 1000000000 := by omega
  obtain ⟨W, hW⟩ : ∃ W, W = w.alloc (.cells #[.slice aS S.length cS, .slice aM M.length cM, .int .i64 L] 24) := ⟨_, rfl⟩
  have HB : Hid (Below w.heap.size w W) := Lib.hid (by rw [hW]; exact (Below.refl _ _).alloc (Nat.le_refl _) _)
  have Hbox : Hid (Row W w.heap.size 24 [.slice aS S.length cS, .slice aM M.length cM, .int .i64 L]) := Lib.hid (by rw [hW]; exact Row.new w #[.slice aS S.length cS, .slice aM M.length cM, .int .i64 L] 24)
  have Hcell : Hid (∀ W', Below W.heap.size W W' → ∀ i, W'.cell? ⟨w.heap.size, i, none⟩ = ([.slice aS S.length cS, .slice aM M.length cM, .int .i64 L] : List Value)[i]?) := Lib.hid fun W' h i => (Hbox.out.later h Hbox.out.lt).cell i
  have HS := Lib.hid hS
  have HM := Lib.hid hM
  have H29 : Hid (∀ W', Below W.heap.size W W' → Calls Try.prog 29 #[.agg #[.slice aS S.length cS, .slice aM M.length cM, .int .i64 L]] W' fun e w' => e = .returned (.bool true) ∧ Below W'.heap.size W' w') := Lib.hid fun W' hW' => by
    rw [← hf]; exact few_any S M L aS aM cS cM W' (by unfold maxLen; omega) (by unfold maxLen; omega)
  have H39 : Hid (∀ W', Below W.heap.size W W' → Calls Try.prog 39 #[.agg #[.slice aS S.length cS, .slice aM M.length cM, .int .i64 L]] W' fun e w' => e = .returned (.bool true) ∧ Below W'.heap.size W' w') := Lib.hid fun W' hW' => by
    have hS' := HS.out.later (below_step HB.out hW')
    have hM' := HM.out.later (below_step HB.out hW')
    rw [← hv]; exact valid_any S M L aS aM cS cM W' hSl hMl hS' hM'
  have Hn := Lib.hid hn
  clear hf hv hSl hMl hS hM hl hn
  go_enter Try.func8, Try.ntmps8
  go_wp2_with fail
  rw [← hW]
  clear hW
  refine (awake_any W).mono ?_
  rintro e w1 ⟨rfl, hb1⟩
  have Hb1 := Lib.hid (hb1)
  clear hb1
  have hc := Hcell.out w1 Hb1.out
  have hc0 := hc 0
  have hc1 := hc 1
  have hc2 := hc 2
  simp only [List.getElem?_cons_succ, List.getElem?_cons_zero] at hc0 hc1 hc2
  clear hc
  go_wp2_with fail
  refine (H29.out w1 Hb1.out).mono ?_
  rintro e w2 ⟨rfl, hb2⟩
  have Hb2 := Lib.hid (below_step Hb1.out hb2)
  clear hb2
  clear hc0 hc1 hc2
  have hc := Hcell.out w2 Hb2.out
  have hc0 := hc 0
  have hc1 := hc 1
  have hc2 := hc 2
  simp only [List.getElem?_cons_succ, List.getElem?_cons_zero] at hc0 hc1 hc2
  clear hc
  go_wp2_with fail
  refine (H39.out w2 Hb2.out).mono ?_
  rintro e w3 ⟨rfl, hb3⟩
  have Hb3 := Lib.hid (below_step Hb2.out hb3)
  clear hb3
  clear hc0 hc1 hc2
  have hc := Hcell.out w3 Hb3.out
  have hc0 := hc 0
  have hc1 := hc 1
  have hc2 := hc 2
  simp only [List.getElem?_cons_succ, List.getElem?_cons_zero] at hc0 hc1 hc2
  clear hc
  have hn := Hn.out
  go_wp2_with fail
  clear hn
  refine (awake_any w3).mono ?_
  rintro e w4 ⟨rfl, hb4⟩
  have Hb4 := Lib.hid (below_step Hb3.out hb4)
  clear hb4
  clear hc0 hc1 hc2
  have hc := Hcell.out w4 Hb4.out
  have hc0 := hc 0
  have hc1 := hc 1
  have hc2 := hc 2
  simp only [List.getElem?_cons_succ, List.getElem?_cons_zero] at hc0 hc1 hc2
  clear hc
  go_wp2_with fail
  go_ret
  exact ⟨rfl, below_step HB.out Hb4.out⟩
set_option maxRecDepth 100000 in
set_option maxHeartbeats 16000000 in
theorem lsw_yes (S M : List Int) (L : Int) (aS aM : Option Addr) (cS cM : Nat) (k : Int) (w : World) (hf : fewB S M L = true) (hv : vldB S M L = true) (hn : 0 < S.length) (hk0 : 0 ≤ k) (hk1 : k ≤ 255) (hS : IntsAt w aS S) (hM : IntsAt w aM M) :
    Calls Try.prog 8 #[.agg #[.slice aS S.length cS, .slice aM M.length cM, .int .i64 L], .int .u8 k] w fun e w' => e = .returned (.bool true) ∧ Below w.heap.size w w' := by
  have hl : S.length ≤ 12 ∧ M.length ≤ 60 := by
    have := of_decide_eq_true hf
    exact ⟨this.1, this.2.1⟩
  have hSl : S.length ≤ 1000000000 := by omega
  have hMl : M.length ≤ 1000000000 := by omega
  obtain ⟨q, hq⟩ : ∃ q : Nat, k.tmod S.length = (q : Int) := ⟨(k.tmod S.length).toNat, by have := Int.tmod_nonneg (S.length : Int) hk0; omega⟩
  have hql : q < S.length := by have := Int.tmod_lt_of_pos k (show (0 : Int) < S.length by omega); omega
  obtain ⟨bS, oS, rfl, hbS, hSc⟩ := hS.open hn
  obtain ⟨W, hW⟩ : ∃ W, W = w.alloc (.cells #[.slice (some ⟨bS, oS, none⟩) S.length cS, .slice aM M.length cM, .int .i64 L] 24) := ⟨_, rfl⟩
  have HB : Hid (Below w.heap.size w W) := Lib.hid (by rw [hW]; exact (Below.refl _ _).alloc (Nat.le_refl _) _)
  have Hbox : Hid (Row W w.heap.size 24 [.slice (some ⟨bS, oS, none⟩) S.length cS, .slice aM M.length cM, .int .i64 L]) := Lib.hid (by rw [hW]; exact Row.new w #[.slice (some ⟨bS, oS, none⟩) S.length cS, .slice aM M.length cM, .int .i64 L] 24)
  have Hcell : Hid (∀ W', Below W.heap.size W W' → ∀ i, W'.cell? ⟨w.heap.size, i, none⟩ = ([.slice (some ⟨bS, oS, none⟩) S.length cS, .slice aM M.length cM, .int .i64 L] : List Value)[i]?) := Lib.hid fun W' h i => (Hbox.out.later h Hbox.out.lt).cell i
  have HS := Lib.hid hS
  have HM := Lib.hid hM
  have hwb := sumTo_bd S (ownF (strandsL S M L)) (fun _ _ => true) (vldB_shape hv).signBd S.length
  have htb := sumTo_bd S (ownF (strandsL S M L)) (fun u o => u != o) (vldB_shape hv).signBd S.length
  rw [writhe_wr] at hwb
  rw [total_tl hv] at htb
  have htb2 := tdiv2_bd (tl S M) (by omega)
  have hsb := (vldB_shape hv).signBd q
  have HlX : Hid ((mulS S (swS fun c => decide (c = q))).length = S.length ∧ (mvL (trn (swB S fun c => decide (c = q))) M).length = M.length) := Lib.hid ⟨mulS_len S _, mvL_len _ M⟩
  obtain ⟨SX, hSX⟩ : ∃ x, x = mulS S (swS fun c => decide (c = q)) := ⟨_, rfl⟩
  obtain ⟨MX, hMX⟩ : ∃ x, x = mvL (trn (swB S fun c => decide (c = q))) M := ⟨_, rfl⟩
  rw [← hSX, ← hMX] at HlX
  have HX : Hid (vldB SX MX L = true ∧ wr SX = wr S - 2 * nth S q ∧ (tl SX MX).tdiv 2 = (tl S M).tdiv 2 - (if lkB S M q = true then nth S q else 0)) := Lib.hid (by rw [hSX, hMX]; exact ⟨ex_valid hv _, sw_wr S q hql, sw_tl hv q hql⟩)
  have Hlk := Lib.hid (own_lk hv q hql)
  have Hls := Lib.hid (strandsL_lists hv)
  have HsC : Hid (∀ W', Below w.heap.size w W' → W'.cell? ⟨bS, oS + q, none⟩ = some (.int .i64 (nth S q))) := Lib.hid fun W' h => (h.cell (p := ⟨bS, oS + q, none⟩) hbS).trans (hSc q hql)
  have H29 : Hid (∀ W', Below W.heap.size W W' → Calls Try.prog 29 #[.agg #[.slice (some ⟨bS, oS, none⟩) S.length cS, .slice aM M.length cM, .int .i64 L]] W' fun e w' => e = .returned (.bool true) ∧ Below W'.heap.size W' w') := Lib.hid fun W' hW' => by
    rw [← hf]; exact few_any S M L (some ⟨bS, oS, none⟩) aM cS cM W' (by unfold maxLen; omega) (by unfold maxLen; omega)
  have H39 : Hid (∀ W', Below W.heap.size W W' → Calls Try.prog 39 #[.agg #[.slice (some ⟨bS, oS, none⟩) S.length cS, .slice aM M.length cM, .int .i64 L]] W' fun e w' => e = .returned (.bool true) ∧ Below W'.heap.size W' w') := Lib.hid fun W' hW' => by
    have hS' := HS.out.later (below_step HB.out hW')
    have hM' := HM.out.later (below_step HB.out hW')
    rw [← hv]; exact valid_any S M L (some ⟨bS, oS, none⟩) aM cS cM W' hSl hMl hS' hM'
  have H52 : Hid (∀ W', Below W.heap.size W W' → Calls Try.prog 52 #[.agg #[.slice (some ⟨bS, oS, none⟩) S.length cS, .slice aM M.length cM, .int .i64 L], .int .i64 (q : Int)] W' (DgR W' SX MX L 0)) := Lib.hid fun W' hW' => by
    rw [hSX, hMX]; exact switch_yes S M L (some ⟨bS, oS, none⟩) aM cS cM q W' hv hql (HS.out.later (below_step HB.out hW')) (HM.out.later (below_step HB.out hW'))
  have H54 : Hid (∀ W', Below W.heap.size W W' → Calls Try.prog 54 #[.agg #[.slice (some ⟨bS, oS, none⟩) S.length cS, .slice aM M.length cM, .int .i64 L]] W' fun e w' => ∃ a c, e = .returned (.slice a (strandsL S M L).length c) ∧ Below W'.heap.size W' w' ∧ OwnRows w' W'.heap.size a c ((strandsL S M L).map nats)) := Lib.hid fun W' hW' =>
    strands_any S M L (some ⟨bS, oS, none⟩) aM cS cM W' hSl hMl (HS.out.later (below_step HB.out hW')) (HM.out.later (below_step HB.out hW'))
  have H33 : Hid (∀ W', Below W.heap.size W W' → Calls Try.prog 33 #[.agg #[.slice (some ⟨bS, oS, none⟩) S.length cS, .slice aM M.length cM, .int .i64 L]] W' fun e w' => e = .returned (.int .i64 (wr S)) ∧ Below W'.heap.size W' w') := Lib.hid fun W' hW' => by
    have hS' := HS.out.later (below_step HB.out hW')
    have hM' := HM.out.later (below_step HB.out hW')
    refine (writhe_any S M L (some ⟨bS, oS, none⟩) aM cS cM W' hSl hMl hS' hM').mono ?_
    rintro e w' ⟨he, hb⟩
    rw [if_pos hv, writhe_wr] at he
    exact ⟨he, hb⟩
  have H35 : Hid (∀ W', Below W.heap.size W W' → Calls Try.prog 35 #[.agg #[.slice (some ⟨bS, oS, none⟩) S.length cS, .slice aM M.length cM, .int .i64 L]] W' fun e w' => e = .returned (.int .i64 ((tl S M).tdiv 2)) ∧ Below W'.heap.size W' w') := Lib.hid fun W' hW' => by
    have hS' := HS.out.later (below_step HB.out hW')
    have hM' := HM.out.later (below_step HB.out hW')
    refine (total_any S M L (some ⟨bS, oS, none⟩) aM cS cM W' hSl hMl hS' hM').mono ?_
    rintro e w' ⟨he, hb⟩
    rw [if_pos hv, total_tl hv] at he
    exact ⟨he, hb⟩
  have HW2 : Hid (∀ (a b : Option Addr) (c d : Nat) (W' : World), IntsAt W' a SX → IntsAt W' b MX → Calls Try.prog 33 #[.agg #[.slice a SX.length c, .slice b MX.length d, .int .i64 L]] W' fun e w' => e = .returned (.int .i64 (wr S - 2 * nth S q)) ∧ Below W'.heap.size W' w') := Lib.hid fun a b c d W' i1 i2 => by
    refine (writhe_any SX MX L a b c d W' (by rw [HlX.out.1]; exact hSl) (by rw [HlX.out.2]; exact hMl) i1 i2).mono ?_
    rintro e w' ⟨he, hb⟩
    rw [if_pos HX.out.1, writhe_wr, HX.out.2.1] at he
    exact ⟨he, hb⟩
  have HT2 : Hid (∀ (a b : Option Addr) (c d : Nat) (W' : World), IntsAt W' a SX → IntsAt W' b MX → Calls Try.prog 35 #[.agg #[.slice a SX.length c, .slice b MX.length d, .int .i64 L]] W' fun e w' => e = .returned (.int .i64 ((tl S M).tdiv 2 - (if (ownF (strandsL S M L) q).1 = (ownF (strandsL S M L) q).2 then 0 else nth S q))) ∧ Below W'.heap.size W' w') := Lib.hid fun a b c d W' i1 i2 => by
    refine (total_any SX MX L a b c d W' (by rw [HlX.out.1]; exact hSl) (by rw [HlX.out.2]; exact hMl) i1 i2).mono ?_
    rintro e w' ⟨he, hb⟩
    rw [if_pos HX.out.1, total_tl HX.out.1, HX.out.2.2, Hlk.out] at he
    refine ⟨?_, hb⟩
    rw [he]
    by_cases g : (ownF (strandsL S M L) q).1 = (ownF (strandsL S M L) q).2
    · rw [if_pos g, decide_eq_false (by simp [g])]; rfl
    · rw [if_neg g, decide_eq_true (by simpa using g)]; rfl
  have hwb1 : -64 ≤ wr S := by omega
  have hwb2 : wr S ≤ 64 := by omega
  have hS64 : S.length ≤ 64 := by omega
  have hn1 : decide (S.length = 0) = false := decide_eq_false (by omega)
  have hn2 : ¬ S.length = 0 := by omega
  obtain ⟨htb3, htb4⟩ := htb2
  obtain ⟨hsb1, hsb2⟩ := hsb
  have Hsl : Hid (ownF (strandsL S M L) = ownTo (strandsL S M L) (strandsL S M L).length) := Lib.hid rfl
  clear hf hv hS hM hl hSX hMX hwb htb HlX HX Hlk hSc hbS
  generalize ownF (strandsL S M L) = fO at *
  generalize wr S = wv at *
  generalize (tl S M).tdiv 2 = tv at *
  generalize nth S q = sv at *
  generalize strandsL S M L = ls at *
  have hfw := Hls.out.few
  go_enter Try.func8, Try.ntmps8
  go_wp2_with fail
  rw [← hW]
  clear hW
  refine (awake_any W).mono ?_
  rintro e w1 ⟨rfl, hb1⟩
  have Hb1 := Lib.hid (hb1)
  clear hb1
  have hc := Hcell.out w1 Hb1.out
  have hc0 := hc 0
  have hc1 := hc 1
  have hc2 := hc 2
  simp only [List.getElem?_cons_succ, List.getElem?_cons_zero] at hc0 hc1 hc2
  clear hc
  go_wp2_with fail
  refine (H29.out w1 Hb1.out).mono ?_
  rintro e w2 ⟨rfl, hb2⟩
  have Hb2 := Lib.hid (below_step Hb1.out hb2)
  clear hb2
  clear hc0 hc1 hc2
  have hc := Hcell.out w2 Hb2.out
  have hc0 := hc 0
  have hc1 := hc 1
  have hc2 := hc 2
  simp only [List.getElem?_cons_succ, List.getElem?_cons_zero] at hc0 hc1 hc2
  clear hc
  go_wp2_with fail
  refine (H39.out w2 Hb2.out).mono ?_
  rintro e w3 ⟨rfl, hb3⟩
  have Hb3 := Lib.hid (below_step Hb2.out hb3)
  clear hb3
  clear hc0 hc1 hc2
  have hc := Hcell.out w3 Hb3.out
  have hc0 := hc 0
  have hc1 := hc 1
  have hc2 := hc 2
  simp only [List.getElem?_cons_succ, List.getElem?_cons_zero] at hc0 hc1 hc2
  clear hc
  go_wp2_with fail
  refine (H52.out w3 Hb3.out).mono ?_
  rintro e w4 ⟨aX, bX, cX, dX, rfl, hiX, hjX, hb4⟩
  have Hb4 := Lib.hid (below_step Hb3.out hb4)
  obtain ⟨v4, hv4⟩ : ∃ x, x = w4.alloc (.cells #[.slice aX SX.length cX, .slice bX MX.length dX, .int .i64 L] 24) := ⟨_, rfl⟩
  have hbv : Below w4.heap.size w4 v4 := by rw [hv4]; exact (Below.refl _ _).alloc (Nat.le_refl _) _
  have HRX : Hid (Row v4 w4.heap.size 24 [.slice aX SX.length cX, .slice bX MX.length dX, .int .i64 L]) := Lib.hid (by rw [hv4]; exact Row.new w4 #[.slice aX SX.length cX, .slice bX MX.length dX, .int .i64 L] 24)
  have HIX : Hid (IntsAt v4 aX SX ∧ IntsAt v4 bX MX) := Lib.hid ⟨hiX.later hbv, hjX.later hbv⟩
  have Hb4v := Lib.hid (below_step Hb4.out hbv)
  have Hz4 : Hid (v4.heap.size = w4.heap.size + 1) := Lib.hid (by rw [hv4]; simp)
  have HBu : Hid (Below v4.heap.size v4 (v4.alloc (.map #[] 0))) := Lib.hid ((Below.refl _ _).alloc (Nat.le_refl _) _)
  have Hb4u := Lib.hid (below_step Hb4v.out HBu.out)
  have Hpm0 : Hid (BMap (v4.alloc (.map #[] 0)) (w4.heap.size + 1) 0 (0, 0)) := Lib.hid (by rw [← Hz4.out]; exact BMap.made v4)
  clear hb4 hbv hiX hjX hc0 hc1 hc2
  have hc := Hcell.out _ Hb4u.out
  have hc0 := hc 0
  have hc1 := hc 1
  have hc2 := hc 2
  simp only [List.getElem?_cons_succ, List.getElem?_cons_zero] at hc0 hc1 hc2
  clear hc
  rw [hv4] at hc0 hc1 hc2
  go_wp2_with (with_reducible refine wpList_makeMap44 rfl rfl ?_)
  rw [← hv4] at hc0 hc1 hc2
  rw [← hv4]
  clear hv4
  refine (H54.out _ Hb4u.out).mono ?_
  rintro e w5 ⟨A, c, rfl, hb5, hR⟩
  have Hb5 := Lib.hid (below_step HBu.out hb5)
  have Hpm5 := Lib.hid (Hpm0.out.later hb5 Hpm0.out.lt)
  have HR5 := Lib.hid (hR.mono (B' := v4.heap.size) (by simp))
  clear hb5 hR hc0 hc1 hc2
  go_wp2_with fail
  go_loopg [49] ls.length (fun g i wr => ∃ i' N : Nat, i' ≤ ls.length ∧ g = ls.length - i' ∧ i = .int .i64 i' ∧ Below v4.heap.size v4 wr ∧ N ≤ 256 * i' ∧ BMap wr (w4.heap.size + 1) N (ownTo ls i' q) ∧ OwnRows wr v4.heap.size A c (ls.map nats))
  case atStart => exact ⟨0, 0, Nat.zero_le _, rfl, rfl, Hb5.out, Nat.le_refl _, Hpm5.out, HR5.out⟩
  case round =>
    clear Hb5 Hpm5 HR5
    obtain ⟨i', N, hi', rfl, rfl, hb, hN, hpm, hR⟩ := hrel
    by_cases hil : i' < ls.length
    · obtain ⟨l, hl⟩ : ∃ l, ls[i']? = some l := ⟨_, List.getElem?_eq_getElem hil⟩
      obtain ⟨b, off, rfl, _, hbF, hF⟩ := hR.open (by simpa using (show 0 < ls.length by omega))
      obtain ⟨aR, cR, hcF, hoR⟩ := hF i' (nats l) (by rw [List.getElem?_map, hl]; rfl)
      rw [nats_length] at hcF
      have hll := Hls.out.len i' l hl
      have Hlt := Lib.hid (fun j x => Hls.out.lt i' l j x hl)
      have Hown : Hid (ownTo ls (i' + 1) = l.foldl (own1 i') (ownTo ls i')) := Lib.hid (by
        rw [ownTo, List.getD_eq_getElem?_getD, hl]; rfl)
      generalize ownTo ls i' = f at *
      clear hF hl
      go_wp2_with fail
      go_loopg [56] l.length (fun g i wi => ∃ j : Nat, j ≤ l.length ∧ g = l.length - j ∧ i = .int .i64 j ∧ Below v4.heap.size v4 wi ∧ BMap wi (w4.heap.size + 1) (N + j) ((l.take j).foldl (own1 i') f q) ∧ OwnRows wi v4.heap.size (some ⟨b, off, none⟩) c (ls.map nats) ∧ Own wi v4.heap.size 3 aR cR (ints (nats l)))
      case atStart => exact ⟨0, Nat.zero_le _, rfl, rfl, hb, by simpa using hpm, hR, hoR⟩
      case round =>
        clear hb hpm hR hoR hcF hbF
        obtain ⟨j, hj, rfl, rfl, hb, hpm, hR, hoR⟩ := hrel
        by_cases hjl : j < l.length
        · obtain ⟨x, hx⟩ : ∃ x, l[j]? = some x := ⟨_, List.getElem?_eq_getElem hjl⟩
          have hx4 := Hlt.out j x hx
          obtain ⟨bR, oR, rfl, _, hbR, hcR, _⟩ := hoR.open (by rw [ints_length, nats_length]; omega)
          have hcx := hcR j _ (ints_get _ _ (by rw [nats_length]; exact hjl))
          have hxd : l.getD j 0 = x := by rw [List.getD_eq_getElem?_getD, hx]; rfl
          rw [nth_nats _ _ hjl, hxd] at hcx
          have hst := own_take i' f l j x hx
          have Hst : Hid ((l.take (j + 1)).foldl (own1 i') f q = if x / 4 = q then bput ((l.take j).foldl (own1 i') f q) (decide (x % 2 = 0)) i' else (l.take j).foldl (own1 i') f q) := Lib.hid (by rw [hst, own1_put])
          generalize (l.take j).foldl (own1 i') f q = f1 at *
          have Hb := Lib.hid hb
          have Hpm := Lib.hid hpm
          have HR := Lib.hid hR
          have HoR := Lib.hid hoR
          have Hmb := Lib.hid (show v4.heap.size ≤ w4.heap.size + 1 from by rw [Hz4.out]; omega)
          clear hcR hpm hR hoR hx hxd hst hb
          by_cases hxq : x / 4 = q
          · have hxi : (x : Int) / 4 = (q : Int) := by omega
            rcases Nat.mod_two_eq_zero_or_one x with hx2 | hx2
            · have hx2' : (x : Int) % 2 = 0 := by omega
              have Ho1 : Hid ((l.take (j + 1)).foldl (own1 i') f q = bput f1 true i') := Lib.hid (by rw [Hst.out, if_pos hxq, decide_eq_true (by omega)])
              clear hx2 hxq
              go_wp2_with (with_reducible refine wpList_store_bool rfl (.tmp 64) (.tmp 67) (.tmp 68) rfl _ _ f1 true (i' : Int) rfl rfl rfl Hpm.out (by omega) ?_; intro w6 hp6 ht6)
              go_roundg (l.length - (j + 1))
              case measure => omega
              case rel =>
                refine ⟨j + 1, by omega, rfl, by go_num, below_mapTurned Hb.out ht6 Hmb.out, by rw [Ho1.out]; exact hp6, ?_, ?_⟩
                · exact HR.out.kept fun b' cur E _ hb' => mapTurned_cells ht6 b' cur E _ hb'
                · exact HoR.out.keptT fun b' cur hb' => mapTurned_cells ht6 b' cur 3 _ hb'
            · have hx2' : (x : Int) % 2 = 1 := by omega
              have Ho1 : Hid ((l.take (j + 1)).foldl (own1 i') f q = bput f1 false i') := Lib.hid (by rw [Hst.out, if_pos hxq, decide_eq_false (by omega)])
              clear hx2 hxq
              go_wp2_with (with_reducible refine wpList_store_bool rfl (.tmp 64) (.tmp 67) (.tmp 68) rfl _ _ f1 false (i' : Int) rfl rfl rfl Hpm.out (by omega) ?_; intro w6 hp6 ht6)
              go_roundg (l.length - (j + 1))
              case measure => omega
              case rel =>
                refine ⟨j + 1, by omega, rfl, by go_num, below_mapTurned Hb.out ht6 Hmb.out, by rw [Ho1.out]; exact hp6, ?_, ?_⟩
                · exact HR.out.kept fun b' cur E _ hb' => mapTurned_cells ht6 b' cur E _ hb'
                · exact HoR.out.keptT fun b' cur hb' => mapTurned_cells ht6 b' cur 3 _ hb'
          · have hxi : ¬ (x : Int) / 4 = (q : Int) := by omega
            have hxj : ((x : Int) / 4 == (q : Int)) = false := by rw [beq_eq_false_iff_ne]; exact hxi
            have Ho1 : Hid ((l.take (j + 1)).foldl (own1 i') f q = f1) := Lib.hid (by rw [Hst.out, if_neg hxq])
            clear hxq
            go_wp2_with fail
            go_roundg (l.length - (j + 1))
            case measure => omega
            case rel =>
              exact ⟨j + 1, by omega, rfl, by go_num, Hb.out, by rw [Ho1.out]; exact Hpm.out.mono (by omega), HR.out, HoR.out⟩
        · obtain rfl : j = l.length := by omega
          rw [List.take_length, ← Hown.out] at hpm
          go_wp2_with fail
          go_roundg (ls.length - (i' + 1))
          case measure => omega
          case rel => exact ⟨i' + 1, N + l.length, by omega, rfl, by go_num, hb, by omega, hpm, hR⟩
    · obtain rfl : i' = ls.length := by omega
      rw [← Hsl.out] at hpm
      have Hbr := Lib.hid (below_of Hb4v.out hb Hb4v.out.size)
      have HRXr := Lib.hid (HRX.out.later hb HRX.out.lt)
      have HIXr : Hid (IntsAt wr aX SX ∧ IntsAt wr bX MX) := Lib.hid ⟨HIX.out.1.later hb, HIX.out.2.later hb⟩
      have Hpmr := Lib.hid hpm
      clear hpm hR hb
      have hc := Hcell.out wr Hbr.out
      have hc0 := hc 0
      have hc1 := hc 1
      have hc2 := hc 2
      simp only [List.getElem?_cons_succ, List.getElem?_cons_zero] at hc0 hc1 hc2
      clear hc
      go_wp2_with fail
      refine (H35.out wr Hbr.out).mono ?_
      rintro e w7 ⟨rfl, hb7⟩
      have Hb7 := Lib.hid (below_step Hbr.out hb7)
      have HRX7 := Lib.hid (HRXr.out.later hb7 HRXr.out.lt)
      have HIX7 : Hid (IntsAt w7 aX SX ∧ IntsAt w7 bX MX) := Lib.hid ⟨HIXr.out.1.later hb7, HIXr.out.2.later hb7⟩
      have Hpm7 := Lib.hid (Hpmr.out.later hb7 Hpmr.out.lt)
      clear hb7 hc0 hc1 hc2
      have hc := Hcell.out w7 Hb7.out
      have hc0 := hc 0
      have hc1 := hc 1
      have hc2 := hc 2
      simp only [List.getElem?_cons_succ, List.getElem?_cons_zero] at hc0 hc1 hc2
      clear hc
      have hcs := HsC.out w7 (below_step HB.out Hb7.out)
      obtain ⟨u, o, huo⟩ : ∃ u o, fO q = (u, o) := ⟨_, _, rfl⟩
      have Huo := Lib.hid huo
      rw [huo] at Hpm7
      clear huo
      have HbT : Hid (bsel (u, o) true = u) := Lib.hid rfl
      have HbF : Hid (bsel (u, o) false = o) := Lib.hid rfl
      by_cases hu : u = o
      · go_wp2_with (first | (with_reducible refine wpList_lookup_bool rfl (.tmp 73) _ rfl _ _ (u, o) true u rfl rfl Hpm7.out HbT.out ?_) | (with_reducible refine wpList_lookup_bool rfl (.tmp 75) _ rfl _ _ (u, o) false o rfl rfl Hpm7.out HbF.out ?_))
        clear hcs
        clear hc0 hc1 hc2
        have HQX : Hid (∀ W', Below w7.heap.size w7 W' → Row W' (w4.heap.size) 24 [.slice aX SX.length cX, .slice bX MX.length dX, .int .i64 L]) := Lib.hid fun W' h => HRX7.out.later h HRX7.out.lt
        have HQ : Hid (∀ W', Below w7.heap.size w7 W' → Row W' w.heap.size 24 [.slice (some ⟨bS, oS, none⟩) S.length cS, .slice aM M.length cM, .int .i64 L]) := Lib.hid fun W' h => Hbox.out.later (below_step Hb7.out h) Hbox.out.lt
        have HQc : Hid (∀ W', Below w7.heap.size w7 W' → W'.cell? ⟨w.heap.size, 0, none⟩ = some (.slice (some ⟨bS, oS, none⟩) S.length cS)) := Lib.hid fun W' h => Hcell.out W' (below_step Hb7.out h) 0
        have HQs : Hid (∀ W', Below w7.heap.size w7 W' → W'.cell? ⟨bS, oS + q, none⟩ = some (.int .i64 sv)) := Lib.hid fun W' h => HsC.out W' (below_step HB.out (below_step Hb7.out h))
        have HWrX : Hid (∀ W', Below w7.heap.size w7 W' → Calls Try.prog 33 #[.agg #[.slice aX SX.length cX, .slice bX MX.length dX, .int .i64 L]] W' fun e w' => e = .returned (.int .i64 (wv - 2 * sv)) ∧ Below w7.heap.size w7 w') := Lib.hid fun W' h => (HW2.out aX bX cX dX W' (HIX7.out.1.later h) (HIX7.out.2.later h)).mono fun e w' ⟨he, hb⟩ => ⟨he, below_step h hb⟩
        have HToX : Hid (∀ W', Below w7.heap.size w7 W' → Calls Try.prog 35 #[.agg #[.slice aX SX.length cX, .slice bX MX.length dX, .int .i64 L]] W' fun e w' => e = .returned (.int .i64 (tv)) ∧ Below w7.heap.size w7 w') := Lib.hid fun W' h => (HT2.out aX bX cX dX W' (HIX7.out.1.later h) (HIX7.out.2.later h)).mono fun e w' ⟨he, hb⟩ => ⟨by rw [he, Huo.out]; simp [hu], below_step h hb⟩
        have HWr : Hid (∀ W', Below w7.heap.size w7 W' → Calls Try.prog 33 #[.agg #[.slice (some ⟨bS, oS, none⟩) S.length cS, .slice aM M.length cM, .int .i64 L]] W' fun e w' => e = .returned (.int .i64 wv) ∧ Below w7.heap.size w7 w') := Lib.hid fun W' h => (H33.out W' (below_step Hb7.out h)).mono fun e w' ⟨he, hb⟩ => ⟨he, below_step h hb⟩
        refine wp_region_class (fun W' => Below w7.heap.size w7 W') (by kernel_rfl) (by kernel_rfl) ((Below.refl _ _).drew) ?_
        refine wpQuiet_move (.tmp 7) (.int .i64 0) rfl rfl rfl ?_
        simp only [Act.put, List.setIfInBounds_toArray, List.set_cons_succ, List.set_cons_zero]
        refine wpQuiet_val (.bool true) rfl (fun W' hW' => ?_) ?_
        · go_simp
        simp only [Act.put, List.setIfInBounds_toArray, List.set_cons_succ, List.set_cons_zero]
        refine wpQuiet_move (.tmp 86) (.bool true) rfl rfl rfl ?_
        simp only [Act.put, List.setIfInBounds_toArray, List.set_cons_succ, List.set_cons_zero]
        refine wpQuietW_loadRow (.tmp 6) 24 (w4.heap.size) 24 [.slice aX SX.length cX, .slice bX MX.length dX, .int .i64 L] (by rfl) rfl rfl Try.isAgg24 Try.sizeOf24 HQX.out ?_
        simp only [Act.put, List.setIfInBounds_toArray, List.set_cons_succ, List.set_cons_zero]
        refine wpQuietW_call (.int .i64 (wv - 2 * sv)) 33 _ _ [.agg #[.slice aX SX.length cX, .slice bX MX.length dX, .int .i64 L]] (by rfl) rfl rfl Try.call33 (HWrX.out) ?_
        simp only [Act.put, List.setIfInBounds_toArray, List.set_cons_succ, List.set_cons_zero]
        refine wpQuietW_loadRow (.tmp 2) 24 (w.heap.size) 24 [.slice (some ⟨bS, oS, none⟩) S.length cS, .slice aM M.length cM, .int .i64 L] (by rfl) rfl rfl Try.isAgg24 Try.sizeOf24 HQ.out ?_
        simp only [Act.put, List.setIfInBounds_toArray, List.set_cons_succ, List.set_cons_zero]
        refine wpQuietW_call (.int .i64 wv) 33 _ _ [.agg #[.slice (some ⟨bS, oS, none⟩) S.length cS, .slice aM M.length cM, .int .i64 L]] (by rfl) rfl rfl Try.call33 (HWr.out) ?_
        simp only [Act.put, List.setIfInBounds_toArray, List.set_cons_succ, List.set_cons_zero]
        refine wpQuietW_val (.pointer (some ⟨w.heap.size, 0, none⟩)) (by rfl) (fun W' hW' => ?_) ?_
        · go_simp
        simp only [Act.put, List.setIfInBounds_toArray, List.set_cons_succ, List.set_cons_zero]
        refine wpQuietW_val (.slice (some ⟨bS, oS, none⟩) S.length cS) (by rfl) (fun W' hW' => ?_) ?_
        · have hz := HQc.out W' hW'
          go_simp
        simp only [Act.put, List.setIfInBounds_toArray, List.set_cons_succ, List.set_cons_zero]
        refine wpQuietW_move (.tmp 5) (.int .i64 (q : Int)) (by rfl) rfl rfl ?_
        simp only [Act.put, List.setIfInBounds_toArray, List.set_cons_succ, List.set_cons_zero]
        refine wpQuietW_val (.pointer (some ⟨bS, oS + q, none⟩)) (by rfl) (fun W' hW' => ?_) ?_
        · go_simp
        simp only [Act.put, List.setIfInBounds_toArray, List.set_cons_succ, List.set_cons_zero]
        refine wpQuietW_val (.int .i64 sv) (by rfl) (fun W' hW' => ?_) ?_
        · have hz := HQs.out W' hW'
          go_simp
        simp only [Act.put, List.setIfInBounds_toArray, List.set_cons_succ, List.set_cons_zero]
        refine wpQuietW_val (.int .i64 (2 * sv)) (by rfl) (fun W' hW' => ?_) ?_
        · go_simp
          rw [IntKind.wrap_i64]; omega
        simp only [Act.put, List.setIfInBounds_toArray, List.set_cons_succ, List.set_cons_zero]
        refine wpQuietW_val (.int .i64 (wv - 2 * sv)) (by rfl) (fun W' hW' => ?_) ?_
        · go_simp
          rw [IntKind.wrap_i64]; omega
        simp only [Act.put, List.setIfInBounds_toArray, List.set_cons_succ, List.set_cons_zero]
        refine wpQuietW_val (.bool true) (by rfl) (fun W' hW' => ?_) ?_
        · go_simp
        simp only [Act.put, List.setIfInBounds_toArray, List.set_cons_succ, List.set_cons_zero]
        refine wpQuiet_val (.bool true) rfl (fun W' hW' => ?_) ?_
        · go_simp
        simp only [Act.put, List.setIfInBounds_toArray, List.set_cons_succ, List.set_cons_zero]
        refine wpQuiet_move (.tmp 100) (.bool true) rfl rfl rfl ?_
        simp only [Act.put, List.setIfInBounds_toArray, List.set_cons_succ, List.set_cons_zero]
        refine wpQuietW_loadRow (.tmp 6) 24 (w4.heap.size) 24 [.slice aX SX.length cX, .slice bX MX.length dX, .int .i64 L] (by rfl) rfl rfl Try.isAgg24 Try.sizeOf24 HQX.out ?_
        simp only [Act.put, List.setIfInBounds_toArray, List.set_cons_succ, List.set_cons_zero]
        refine wpQuietW_call (.int .i64 (tv)) 35 _ _ [.agg #[.slice aX SX.length cX, .slice bX MX.length dX, .int .i64 L]] (by rfl) rfl rfl Try.call35 (HToX.out) ?_
        simp only [Act.put, List.setIfInBounds_toArray, List.set_cons_succ, List.set_cons_zero]
        refine wpQuietW_move (.tmp 13) (.int .i64 (tv)) (by rfl) rfl rfl ?_
        simp only [Act.put, List.setIfInBounds_toArray, List.set_cons_succ, List.set_cons_zero]
        refine wpQuietW_val (.bool true) (by rfl) (fun W' hW' => ?_) ?_
        · go_simp
        simp only [Act.put, List.setIfInBounds_toArray, List.set_cons_succ, List.set_cons_zero]
        refine wpQuiet_val (.bool true) rfl (fun W' hW' => ?_) ?_
        · go_simp
        simp only [Act.put, List.setIfInBounds_toArray, List.set_cons_succ, List.set_cons_zero]
        refine wpQuiet_assign (.tmp 106) (.bool true) rfl rfl rfl ?_
        simp only [Act.put, List.setIfInBounds_toArray, List.set_cons_succ, List.set_cons_zero]
        refine wpQuiet_end ?_
        intro w8 hb8
        have Hb8 := Lib.hid (below_step HB.out (below_step Hb7.out hb8))
        clear hb8
        go_wp2_with fail
        go_ret
        exact ⟨rfl, Hb8.out⟩
      · have hu2 : (u == o) = false := by rw [beq_eq_false_iff_ne]; exact hu
        go_wp2_with (first | (with_reducible refine wpList_lookup_bool rfl (.tmp 73) _ rfl _ _ (u, o) true u rfl rfl Hpm7.out HbT.out ?_) | (with_reducible refine wpList_lookup_bool rfl (.tmp 75) _ rfl _ _ (u, o) false o rfl rfl Hpm7.out HbF.out ?_))
        clear hcs
        clear hc0 hc1 hc2
        have HQX : Hid (∀ W', Below w7.heap.size w7 W' → Row W' (w4.heap.size) 24 [.slice aX SX.length cX, .slice bX MX.length dX, .int .i64 L]) := Lib.hid fun W' h => HRX7.out.later h HRX7.out.lt
        have HQ : Hid (∀ W', Below w7.heap.size w7 W' → Row W' w.heap.size 24 [.slice (some ⟨bS, oS, none⟩) S.length cS, .slice aM M.length cM, .int .i64 L]) := Lib.hid fun W' h => Hbox.out.later (below_step Hb7.out h) Hbox.out.lt
        have HQc : Hid (∀ W', Below w7.heap.size w7 W' → W'.cell? ⟨w.heap.size, 0, none⟩ = some (.slice (some ⟨bS, oS, none⟩) S.length cS)) := Lib.hid fun W' h => Hcell.out W' (below_step Hb7.out h) 0
        have HQs : Hid (∀ W', Below w7.heap.size w7 W' → W'.cell? ⟨bS, oS + q, none⟩ = some (.int .i64 sv)) := Lib.hid fun W' h => HsC.out W' (below_step HB.out (below_step Hb7.out h))
        have HWrX : Hid (∀ W', Below w7.heap.size w7 W' → Calls Try.prog 33 #[.agg #[.slice aX SX.length cX, .slice bX MX.length dX, .int .i64 L]] W' fun e w' => e = .returned (.int .i64 (wv - 2 * sv)) ∧ Below w7.heap.size w7 w') := Lib.hid fun W' h => (HW2.out aX bX cX dX W' (HIX7.out.1.later h) (HIX7.out.2.later h)).mono fun e w' ⟨he, hb⟩ => ⟨he, below_step h hb⟩
        have HToX : Hid (∀ W', Below w7.heap.size w7 W' → Calls Try.prog 35 #[.agg #[.slice aX SX.length cX, .slice bX MX.length dX, .int .i64 L]] W' fun e w' => e = .returned (.int .i64 (tv - sv)) ∧ Below w7.heap.size w7 w') := Lib.hid fun W' h => (HT2.out aX bX cX dX W' (HIX7.out.1.later h) (HIX7.out.2.later h)).mono fun e w' ⟨he, hb⟩ => ⟨by rw [he, Huo.out]; simp [hu], below_step h hb⟩
        have HWr : Hid (∀ W', Below w7.heap.size w7 W' → Calls Try.prog 33 #[.agg #[.slice (some ⟨bS, oS, none⟩) S.length cS, .slice aM M.length cM, .int .i64 L]] W' fun e w' => e = .returned (.int .i64 wv) ∧ Below w7.heap.size w7 w') := Lib.hid fun W' h => (H33.out W' (below_step Hb7.out h)).mono fun e w' ⟨he, hb⟩ => ⟨he, below_step h hb⟩
        refine wp_region_class (fun W' => Below w7.heap.size w7 W') (by kernel_rfl) (by kernel_rfl) ((Below.refl _ _).drew) ?_
        refine wpQuiet_move (.tmp 7) (.int .i64 0) rfl rfl rfl ?_
        simp only [Act.put, List.setIfInBounds_toArray, List.set_cons_succ, List.set_cons_zero]
        refine wpQuiet_val (.bool true) rfl (fun W' hW' => ?_) ?_
        · go_simp
        simp only [Act.put, List.setIfInBounds_toArray, List.set_cons_succ, List.set_cons_zero]
        refine wpQuiet_move (.tmp 86) (.bool true) rfl rfl rfl ?_
        simp only [Act.put, List.setIfInBounds_toArray, List.set_cons_succ, List.set_cons_zero]
        refine wpQuietW_loadRow (.tmp 6) 24 (w4.heap.size) 24 [.slice aX SX.length cX, .slice bX MX.length dX, .int .i64 L] (by rfl) rfl rfl Try.isAgg24 Try.sizeOf24 HQX.out ?_
        simp only [Act.put, List.setIfInBounds_toArray, List.set_cons_succ, List.set_cons_zero]
        refine wpQuietW_call (.int .i64 (wv - 2 * sv)) 33 _ _ [.agg #[.slice aX SX.length cX, .slice bX MX.length dX, .int .i64 L]] (by rfl) rfl rfl Try.call33 (HWrX.out) ?_
        simp only [Act.put, List.setIfInBounds_toArray, List.set_cons_succ, List.set_cons_zero]
        refine wpQuietW_loadRow (.tmp 2) 24 (w.heap.size) 24 [.slice (some ⟨bS, oS, none⟩) S.length cS, .slice aM M.length cM, .int .i64 L] (by rfl) rfl rfl Try.isAgg24 Try.sizeOf24 HQ.out ?_
        simp only [Act.put, List.setIfInBounds_toArray, List.set_cons_succ, List.set_cons_zero]
        refine wpQuietW_call (.int .i64 wv) 33 _ _ [.agg #[.slice (some ⟨bS, oS, none⟩) S.length cS, .slice aM M.length cM, .int .i64 L]] (by rfl) rfl rfl Try.call33 (HWr.out) ?_
        simp only [Act.put, List.setIfInBounds_toArray, List.set_cons_succ, List.set_cons_zero]
        refine wpQuietW_val (.pointer (some ⟨w.heap.size, 0, none⟩)) (by rfl) (fun W' hW' => ?_) ?_
        · go_simp
        simp only [Act.put, List.setIfInBounds_toArray, List.set_cons_succ, List.set_cons_zero]
        refine wpQuietW_val (.slice (some ⟨bS, oS, none⟩) S.length cS) (by rfl) (fun W' hW' => ?_) ?_
        · have hz := HQc.out W' hW'
          go_simp
        simp only [Act.put, List.setIfInBounds_toArray, List.set_cons_succ, List.set_cons_zero]
        refine wpQuietW_move (.tmp 5) (.int .i64 (q : Int)) (by rfl) rfl rfl ?_
        simp only [Act.put, List.setIfInBounds_toArray, List.set_cons_succ, List.set_cons_zero]
        refine wpQuietW_val (.pointer (some ⟨bS, oS + q, none⟩)) (by rfl) (fun W' hW' => ?_) ?_
        · go_simp
        simp only [Act.put, List.setIfInBounds_toArray, List.set_cons_succ, List.set_cons_zero]
        refine wpQuietW_val (.int .i64 sv) (by rfl) (fun W' hW' => ?_) ?_
        · have hz := HQs.out W' hW'
          go_simp
        simp only [Act.put, List.setIfInBounds_toArray, List.set_cons_succ, List.set_cons_zero]
        refine wpQuietW_val (.int .i64 (2 * sv)) (by rfl) (fun W' hW' => ?_) ?_
        · go_simp
          rw [IntKind.wrap_i64]; omega
        simp only [Act.put, List.setIfInBounds_toArray, List.set_cons_succ, List.set_cons_zero]
        refine wpQuietW_val (.int .i64 (wv - 2 * sv)) (by rfl) (fun W' hW' => ?_) ?_
        · go_simp
          rw [IntKind.wrap_i64]; omega
        simp only [Act.put, List.setIfInBounds_toArray, List.set_cons_succ, List.set_cons_zero]
        refine wpQuietW_val (.bool true) (by rfl) (fun W' hW' => ?_) ?_
        · go_simp
        simp only [Act.put, List.setIfInBounds_toArray, List.set_cons_succ, List.set_cons_zero]
        refine wpQuiet_val (.bool true) rfl (fun W' hW' => ?_) ?_
        · go_simp
        simp only [Act.put, List.setIfInBounds_toArray, List.set_cons_succ, List.set_cons_zero]
        refine wpQuiet_move (.tmp 100) (.bool true) rfl rfl rfl ?_
        simp only [Act.put, List.setIfInBounds_toArray, List.set_cons_succ, List.set_cons_zero]
        refine wpQuietW_loadRow (.tmp 6) 24 (w4.heap.size) 24 [.slice aX SX.length cX, .slice bX MX.length dX, .int .i64 L] (by rfl) rfl rfl Try.isAgg24 Try.sizeOf24 HQX.out ?_
        simp only [Act.put, List.setIfInBounds_toArray, List.set_cons_succ, List.set_cons_zero]
        refine wpQuietW_call (.int .i64 (tv - sv)) 35 _ _ [.agg #[.slice aX SX.length cX, .slice bX MX.length dX, .int .i64 L]] (by rfl) rfl rfl Try.call35 (HToX.out) ?_
        simp only [Act.put, List.setIfInBounds_toArray, List.set_cons_succ, List.set_cons_zero]
        refine wpQuietW_move (.tmp 13) (.int .i64 (tv - sv)) (by rfl) rfl rfl ?_
        simp only [Act.put, List.setIfInBounds_toArray, List.set_cons_succ, List.set_cons_zero]
        refine wpQuietW_val (.bool true) (by rfl) (fun W' hW' => ?_) ?_
        · go_simp
        simp only [Act.put, List.setIfInBounds_toArray, List.set_cons_succ, List.set_cons_zero]
        refine wpQuiet_val (.bool true) rfl (fun W' hW' => ?_) ?_
        · go_simp
        simp only [Act.put, List.setIfInBounds_toArray, List.set_cons_succ, List.set_cons_zero]
        refine wpQuiet_assign (.tmp 106) (.bool true) rfl rfl rfl ?_
        simp only [Act.put, List.setIfInBounds_toArray, List.set_cons_succ, List.set_cons_zero]
        refine wpQuiet_end ?_
        intro w8 hb8
        have Hb8 := Lib.hid (below_step HB.out (below_step Hb7.out hb8))
        clear hb8
        go_wp2_with fail
        go_ret
        exact ⟨rfl, Hb8.out⟩

theorem lsw_any (S M : List Int) (L : Int) (aS aM : Option Addr) (cS cM : Nat) (k : Int) (w : World) (hSl : S.length ≤ maxLen) (hMl : M.length ≤ maxLen) (_ : (Lit.int .i64 L).wf = true) (hS : IntsAt w aS S) (hM : IntsAt w aM M) (hk : (Lit.int .u8 k).wf = true) :
    Calls Try.prog 8 #[.agg #[.slice aS S.length cS, .slice aM M.length cM, .int .i64 L], .int .u8 k] w fun e w' => e = .returned (.bool true) ∧ Below w.heap.size w w' := by
  by_cases hf : fewB S M L = true
  · by_cases hv : vldB S M L = true
    · rcases Nat.eq_zero_or_pos S.length with hn | hn
      · exact lsw_zero S M L aS aM cS cM k w hf hv hn hS hM
      · simp only [Lit.wf, Bool.and_eq_true, decide_eq_true_eq] at hk
        have h1 : IntKind.u8.min = 0 := rfl
        have h2 : IntKind.u8.max = 255 := rfl
        rw [h1, h2] at hk
        exact lsw_yes S M L aS aM cS cM k w hf hv hn hk.1 hk.2 hS hM
    · exact lsw_no S M L aS aM cS cM k w hf (by simpa using hv) hS hM
  · exact lsw_large S M L aS aM cS cM k w hSl hMl (by simpa using hf)
end Go.Proofs.Ytkopbcehfbmnmaa
