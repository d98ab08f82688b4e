/- The walk of the law LinkingLoops. -/
import Derived.Test.YtkopbcehfbmnmaaTellsW
import Derived.Test.YtkopbcehfbmnmaaCloneW
import Derived.Test.YtkopbcehfbmnmaaLoopA
import Derived.Deep.DeepCutAuto
namespace Go.Proofs.Ytkopbcehfbmnmaa
open Go Go.RowKit
set_option maxRecDepth 100000 in
set_option maxHeartbeats 4000000 in
theorem llo_large (S M : List Int) (L : Int) (aS aM : Option Addr) (cS cM : Nat) (k : Int) (w : World) (hSl : S.length ≤ maxLen) (hMl : M.length ≤ maxLen) (hf : fewB S M L = false) :
    Calls Try.prog 9 #[.agg #[.slice aS S.length cS, .slice aM M.length cM, .int .i64 L], .int .u8 k] w fun e w' => e = .returned (.bool true) ∧ Below w.heap.size w w' := by
  obtain ⟨W, hW⟩ : ∃ W, W = w.alloc (.cells #[.slice aS S.length cS, .slice aM M.length cM, .int .i64 L] 24) := ⟨_, rfl⟩
  have HB : Hid (Below w.heap.size w W) := Lib.hid (by rw [hW]; exact (Below.refl _ _).alloc (Nat.le_refl _) _)
  have Hbox : Hid (Row W w.heap.size 24 [.slice aS S.length cS, .slice aM M.length cM, .int .i64 L]) := Lib.hid (by rw [hW]; exact Row.new w #[.slice aS S.length cS, .slice aM M.length cM, .int .i64 L] 24)
  have Hcell : Hid (∀ W', Below W.heap.size W W' → ∀ i, W'.cell? ⟨w.heap.size, i, none⟩ = ([.slice aS S.length cS, .slice aM M.length cM, .int .i64 L] : List Value)[i]?) := Lib.hid fun W' h i => (Hbox.out.later h Hbox.out.lt).cell i
  have HF : Hid (∀ W', Calls Try.prog 29 #[.agg #[.slice aS S.length cS, .slice aM M.length cM, .int .i64 L]] W' fun e w' => e = .returned (.bool false) ∧ Below W'.heap.size W' w') := Lib.hid fun W' => by rw [← hf]; exact few_any S M L aS aM cS cM W' hSl hMl
  clear hf hSl hMl
  go_enter Try.func9, Try.ntmps9
  go_wp2_with fail
  rw [← hW]
  clear hW
  refine (awake_any W).mono ?_
  rintro e w1 ⟨rfl, hb1⟩
  have Hb1 := Lib.hid (hb1)
  clear hb1
  have hc := Hcell.out w1 Hb1.out
  have hc0 := hc 0
  have hc1 := hc 1
  have hc2 := hc 2
  simp only [List.getElem?_cons_succ, List.getElem?_cons_zero] at hc0 hc1 hc2
  clear hc
  go_wp2_with fail
  refine (HF.out w1).mono ?_
  rintro e w2 ⟨rfl, hb2⟩
  have Hb2 := Lib.hid (below_step Hb1.out hb2)
  clear hb2
  clear hc0 hc1 hc2
  have hc := Hcell.out w2 Hb2.out
  have hc0 := hc 0
  have hc1 := hc 1
  have hc2 := hc 2
  simp only [List.getElem?_cons_succ, List.getElem?_cons_zero] at hc0 hc1 hc2
  clear hc
  go_wp2_with fail
  refine (awake_any w2).mono ?_
  rintro e w3 ⟨rfl, hb3⟩
  have Hb3 := Lib.hid (below_step Hb2.out hb3)
  clear hb3
  clear hc0 hc1 hc2
  have hc := Hcell.out w3 Hb3.out
  have hc0 := hc 0
  have hc1 := hc 1
  have hc2 := hc 2
  simp only [List.getElem?_cons_succ, List.getElem?_cons_zero] at hc0 hc1 hc2
  clear hc
  go_wp2_with fail
  go_ret
  exact ⟨rfl, below_step HB.out Hb3.out⟩
set_option maxRecDepth 100000 in
set_option maxHeartbeats 4000000 in
theorem llo_no (S M : List Int) (L : Int) (aS aM : Option Addr) (cS cM : Nat) (k : Int) (w : World) (hf : fewB S M L = true) (hv : vldB S M L = false) (hS : IntsAt w aS S) (hM : IntsAt w aM M) :
    Calls Try.prog 9 #[.agg #[.slice aS S.length cS, .slice aM M.length cM, .int .i64 L], .int .u8 k] w fun e w' => e = .returned (.bool true) ∧ Below w.heap.size w w' := by
  have hl : S.length ≤ 12 ∧ M.length ≤ 60 := by
    have := of_decide_eq_true hf
    exact ⟨this.1, this.2.1⟩
  have hSl : S.length ≤ 1000000000 := by omega
  have hMl : M.length ≤ 1000000000 := by omega
  obtain ⟨W, hW⟩ : ∃ W, W = w.alloc (.cells #[.slice aS S.length cS, .slice aM M.length cM, .int .i64 L] 24) := ⟨_, rfl⟩
  have HB : Hid (Below w.heap.size w W) := Lib.hid (by rw [hW]; exact (Below.refl _ _).alloc (Nat.le_refl _) _)
  have Hbox : Hid (Row W w.heap.size 24 [.slice aS S.length cS, .slice aM M.length cM, .int .i64 L]) := Lib.hid (by rw [hW]; exact Row.new w #[.slice aS S.length cS, .slice aM M.length cM, .int .i64 L] 24)
  have Hcell : Hid (∀ W', Below W.heap.size W W' → ∀ i, W'.cell? ⟨w.heap.size, i, none⟩ = ([.slice aS S.length cS, .slice aM M.length cM, .int .i64 L] : List Value)[i]?) := Lib.hid fun W' h i => (Hbox.out.later h Hbox.out.lt).cell i
  have HS := Lib.hid hS
  have HM := Lib.hid hM
  have H29 : Hid (∀ W', Below W.heap.size W W' → Calls Try.prog 29 #[.agg #[.slice aS S.length cS, .slice aM M.length cM, .int .i64 L]] W' fun e w' => e = .returned (.bool true) ∧ Below W'.heap.size W' w') := Lib.hid fun W' hW' => by
    rw [← hf]; exact few_any S M L aS aM cS cM W' (by unfold maxLen; omega) (by unfold maxLen; omega)
  have H39 : Hid (∀ W', Below W.heap.size W W' → Calls Try.prog 39 #[.agg #[.slice aS S.length cS, .slice aM M.length cM, .int .i64 L]] W' fun e w' => e = .returned (.bool false) ∧ Below W'.heap.size W' w') := Lib.hid fun W' hW' => by
    have hS' := HS.out.later (below_step HB.out hW')
    have hM' := HM.out.later (below_step HB.out hW')
    rw [← hv]; exact valid_any S M L aS aM cS cM W' hSl hMl hS' hM'
  clear hf hv hSl hMl hS hM hl
  go_enter Try.func9, Try.ntmps9
  go_wp2_with fail
  rw [← hW]
  clear hW
  refine (awake_any W).mono ?_
  rintro e w1 ⟨rfl, hb1⟩
  have Hb1 := Lib.hid (hb1)
  clear hb1
  have hc := Hcell.out w1 Hb1.out
  have hc0 := hc 0
  have hc1 := hc 1
  have hc2 := hc 2
  simp only [List.getElem?_cons_succ, List.getElem?_cons_zero] at hc0 hc1 hc2
  clear hc
  go_wp2_with fail
  refine (H29.out w1 Hb1.out).mono ?_
  rintro e w2 ⟨rfl, hb2⟩
  have Hb2 := Lib.hid (below_step Hb1.out hb2)
  clear hb2
  clear hc0 hc1 hc2
  have hc := Hcell.out w2 Hb2.out
  have hc0 := hc 0
  have hc1 := hc 1
  have hc2 := hc 2
  simp only [List.getElem?_cons_succ, List.getElem?_cons_zero] at hc0 hc1 hc2
  clear hc
  go_wp2_with fail
  refine (H39.out w2 Hb2.out).mono ?_
  rintro e w3 ⟨rfl, hb3⟩
  have Hb3 := Lib.hid (below_step Hb2.out hb3)
  clear hb3
  clear hc0 hc1 hc2
  have hc := Hcell.out w3 Hb3.out
  have hc0 := hc 0
  have hc1 := hc 1
  have hc2 := hc 2
  simp only [List.getElem?_cons_succ, List.getElem?_cons_zero] at hc0 hc1 hc2
  clear hc
  go_wp2_with fail
  refine (awake_any w3).mono ?_
  rintro e w4 ⟨rfl, hb4⟩
  have Hb4 := Lib.hid (below_step Hb3.out hb4)
  clear hb4
  clear hc0 hc1 hc2
  have hc := Hcell.out w4 Hb4.out
  have hc0 := hc 0
  have hc1 := hc 1
  have hc2 := hc 2
  simp only [List.getElem?_cons_succ, List.getElem?_cons_zero] at hc0 hc1 hc2
  clear hc
  go_wp2_with fail
  go_ret
  exact ⟨rfl, below_step HB.out Hb4.out⟩
set_option maxRecDepth 100000 in
set_option maxHeartbeats 16000000 in
theorem llo_yes (S M : List Int) (L : Int) (aS aM : Option Addr) (cS cM : Nat) (k : Int) (w : World) (hf : fewB S M L = true) (hv : vldB S M L = true) (hk0 : 0 ≤ k) (hk1 : k ≤ 255) (hS : IntsAt w aS S) (hM : IntsAt w aM M) :
    Calls Try.prog 9 #[.agg #[.slice aS S.length cS, .slice aM M.length cM, .int .i64 L], .int .u8 k] w fun e w' => e = .returned (.bool true) ∧ Below w.heap.size w w' := by
  have hl : S.length ≤ 12 ∧ M.length ≤ 60 := by
    have := of_decide_eq_true hf
    exact ⟨this.1, this.2.1⟩
  have hSl : S.length ≤ 1000000000 := by omega
  have hMl : M.length ≤ 1000000000 := by omega
  have hL0 := (vldB_shape hv).lo
  have hL1 : L ≤ 12 := by
    have h1 := (vldB_shape hv).hi
    have h2 := of_decide_eq_true hf
    omega
  obtain ⟨q, hq⟩ : ∃ q : Nat, k.tmod 4 = (q : Int) := ⟨(k.tmod 4).toNat, by have := Int.tmod_nonneg 4 hk0; omega⟩
  have hq4 : q < 4 := by have := Int.tmod_lt_of_pos k (show (0 : Int) < 4 by omega); omega
  have hv2 : vldB S M (L + (q : Int)) = true := loops_valid hv (by omega) (by omega)
  have hst : strandsL S M (L + (q : Int)) = strandsL S M L := loops_strands hv hv2
  obtain ⟨N, hN, hNl, hNs⟩ := compsN_nat hv
  have hfw := (strandsL_lists hv).few
  have hNe : (N : Int) = ((strandsL S M L).length : Int) + L := by rw [← hN, compsN, if_pos hv]
  have hN2 : compsN S M (L + (q : Int)) = ((N + q : Nat) : Int) := by rw [compsN, if_pos hv2, hst]; omega
  obtain ⟨W, hW⟩ : ∃ W, W = w.alloc (.cells #[.slice aS S.length cS, .slice aM M.length cM, .int .i64 L] 24) := ⟨_, rfl⟩
  have HB : Hid (Below w.heap.size w W) := Lib.hid (by rw [hW]; exact (Below.refl _ _).alloc (Nat.le_refl _) _)
  have Hbox : Hid (Row W w.heap.size 24 [.slice aS S.length cS, .slice aM M.length cM, .int .i64 L]) := Lib.hid (by rw [hW]; exact Row.new w #[.slice aS S.length cS, .slice aM M.length cM, .int .i64 L] 24)
  have Hcell : Hid (∀ W', Below W.heap.size W W' → ∀ i, W'.cell? ⟨w.heap.size, i, none⟩ = ([.slice aS S.length cS, .slice aM M.length cM, .int .i64 L] : List Value)[i]?) := Lib.hid fun W' h i => (Hbox.out.later h Hbox.out.lt).cell i
  have HS := Lib.hid hS
  have HM := Lib.hid hM
  have H29 : Hid (∀ W', Below W.heap.size W W' → Calls Try.prog 29 #[.agg #[.slice aS S.length cS, .slice aM M.length cM, .int .i64 L]] W' fun e w' => e = .returned (.bool true) ∧ Below W'.heap.size W' w') := Lib.hid fun W' hW' => by
    rw [← hf]; exact few_any S M L aS aM cS cM W' (by unfold maxLen; omega) (by unfold maxLen; omega)
  have H39 : Hid (∀ W', Below W.heap.size W W' → Calls Try.prog 39 #[.agg #[.slice aS S.length cS, .slice aM M.length cM, .int .i64 L]] W' fun e w' => e = .returned (.bool true) ∧ Below W'.heap.size W' w') := Lib.hid fun W' hW' => by
    have hS' := HS.out.later (below_step HB.out hW')
    have hM' := HM.out.later (below_step HB.out hW')
    rw [← hv]; exact valid_any S M L aS aM cS cM W' hSl hMl hS' hM'
  have H55 : Hid (∀ W', Below W.heap.size W W' → Calls Try.prog 55 #[.agg #[.slice aS S.length cS, .slice aM M.length cM, .int .i64 L]] W' fun e w' => ∃ a b c d, e = .returned (.agg #[.slice a S.length c, .slice b M.length d, .int .i64 L]) ∧ IntsAt w' a S ∧ IntsAt w' b M ∧ Below W'.heap.size W' w') := Lib.hid fun W' hW' =>
    clone_any S M L aS aM cS cM W' (by omega) (by omega) (HS.out.later (below_step HB.out hW')) (HM.out.later (below_step HB.out hW'))
  have H54 : Hid (∀ W', Below W.heap.size W W' → Calls Try.prog 54 #[.agg #[.slice aS S.length cS, .slice aM M.length cM, .int .i64 L]] W' fun e w' => ∃ a c, e = .returned (.slice a (strandsL S M L).length c) ∧ Below W'.heap.size W' w' ∧ OwnRows w' W'.heap.size a c ((strandsL S M L).map nats)) := Lib.hid fun W' hW' =>
    strands_any S M L aS aM cS cM W' hSl hMl (HS.out.later (below_step HB.out hW')) (HM.out.later (below_step HB.out hW'))
  have H31 : Hid (∀ W', Below W.heap.size W W' → Calls Try.prog 31 #[.agg #[.slice aS S.length cS, .slice aM M.length cM, .int .i64 L]] W' fun e w' => ∃ a c, e = .returned (.slice a N c) ∧ Below W'.heap.size W' w' ∧ OwnRows w' W'.heap.size a c (matL S (ownF (strandsL S M L)) N)) := Lib.hid fun W' hW' =>
    matrix_yes S M L aS aM cS cM N W' hv hN hNl (HS.out.later (below_step HB.out hW')) (HM.out.later (below_step HB.out hW'))
  have H35 : Hid (∀ W', Below W.heap.size W W' → Calls Try.prog 35 #[.agg #[.slice aS S.length cS, .slice aM M.length cM, .int .i64 L]] W' fun e w' => e = .returned (.int .i64 ((tl S M).tdiv 2)) ∧ Below W'.heap.size W' w') := Lib.hid fun W' hW' => by
    have hS' := HS.out.later (below_step HB.out hW')
    have hM' := HM.out.later (below_step HB.out hW')
    refine (total_any S M L aS aM cS cM W' hSl hMl hS' hM').mono ?_
    rintro e w' ⟨he, hb⟩
    rw [if_pos hv, total_tl hv] at he
    exact ⟨he, hb⟩
  have HM2 : Hid (∀ (a b : Option Addr) (c d : Nat) (W' : World), IntsAt W' a S → IntsAt W' b M → Calls Try.prog 31 #[.agg #[.slice a S.length c, .slice b M.length d, .int .i64 (L + (q : Int))]] W' fun e w' => ∃ a c, e = .returned (.slice a (N + q) c) ∧ Below W'.heap.size W' w' ∧ OwnRows w' W'.heap.size a c (matL S (ownF (strandsL S M L)) (N + q))) := Lib.hid fun a b c d W' i1 i2 => by
    have := matrix_yes S M (L + (q : Int)) a b c d (N + q) W' hv2 hN2 (by omega) i1 i2
    rw [hst] at this
    exact this
  have HT2 : Hid (∀ (a b : Option Addr) (c d : Nat) (W' : World), IntsAt W' a S → IntsAt W' b M → Calls Try.prog 35 #[.agg #[.slice a S.length c, .slice b M.length d, .int .i64 (L + (q : Int))]] W' fun e w' => e = .returned (.int .i64 ((tl S M).tdiv 2)) ∧ Below W'.heap.size W' w') := Lib.hid fun a b c d W' i1 i2 => by
    refine (total_any S M (L + (q : Int)) a b c d W' hSl hMl i1 i2).mono ?_
    rintro e w' ⟨he, hb⟩
    rw [if_pos hv2, total_tl hv2] at he
    exact ⟨he, hb⟩
  have Hno := Lib.hid (matE_none hv)
  obtain ⟨N2, hN2e⟩ : ∃ N2, N2 = N + q := ⟨_, rfl⟩
  rw [← hN2e] at HM2
  have HN2 := Lib.hid hN2e
  have hN2b : N2 ≤ 2000 := by omega
  clear hN2e
  clear hf hv hv2 hS hM hl hst hN hN2
  generalize (tl S M).tdiv 2 = tv at *
  generalize ownF (strandsL S M L) = f at *
  generalize strandsL S M L = ls at *
  obtain ⟨n, hn⟩ : ∃ n, n = ls.length := ⟨_, rfl⟩
  rw [← hn] at H54 hNe hNs Hno
  have HNe := Lib.hid hNe
  clear hn hNe
  go_enter Try.func9, Try.ntmps9
  go_wp2_with fail
  rw [← hW]
  clear hW
  refine (awake_any W).mono ?_
  rintro e w1 ⟨rfl, hb1⟩
  have Hb1 := Lib.hid (hb1)
  clear hb1
  have hc := Hcell.out w1 Hb1.out
  have hc0 := hc 0
  have hc1 := hc 1
  have hc2 := hc 2
  simp only [List.getElem?_cons_succ, List.getElem?_cons_zero] at hc0 hc1 hc2
  clear hc
  go_wp2_with fail
  refine (H29.out w1 Hb1.out).mono ?_
  rintro e w2 ⟨rfl, hb2⟩
  have Hb2 := Lib.hid (below_step Hb1.out hb2)
  clear hb2
  clear hc0 hc1 hc2
  have hc := Hcell.out w2 Hb2.out
  have hc0 := hc 0
  have hc1 := hc 1
  have hc2 := hc 2
  simp only [List.getElem?_cons_succ, List.getElem?_cons_zero] at hc0 hc1 hc2
  clear hc
  go_wp2_with fail
  refine (H39.out w2 Hb2.out).mono ?_
  rintro e w3 ⟨rfl, hb3⟩
  have Hb3 := Lib.hid (below_step Hb2.out hb3)
  clear hb3
  clear hc0 hc1 hc2
  have hc := Hcell.out w3 Hb3.out
  have hc0 := hc 0
  have hc1 := hc 1
  have hc2 := hc 2
  simp only [List.getElem?_cons_succ, List.getElem?_cons_zero] at hc0 hc1 hc2
  clear hc
  go_wp2_with fail
  refine (H55.out w3 Hb3.out).mono ?_
  rintro e w4 ⟨aX, bX, cX, dX, rfl, hiX, hjX, hb4⟩
  have Hb4 := Lib.hid (below_step Hb3.out hb4)
  have HiX := Lib.hid hiX
  have HjX := Lib.hid hjX
  clear hb4 hiX hjX hc0 hc1 hc2
  go_upto_region 5 with fail
  obtain ⟨v5, hv5⟩ : ∃ x, x = w4.alloc (.cells #[.slice aX S.length cX, .slice bX M.length dX, .int .i64 (L + (q : Int))] 24) := ⟨_, rfl⟩
  rw [← hv5]
  have hbv : Below w4.heap.size w4 v5 := by rw [hv5]; exact (Below.refl _ _).alloc (Nat.le_refl _) _
  have HRX : Hid (Row v5 w4.heap.size 24 [.slice aX S.length cX, .slice bX M.length dX, .int .i64 (L + (q : Int))]) := Lib.hid (by rw [hv5]; exact Row.new w4 #[.slice aX S.length cX, .slice bX M.length dX, .int .i64 (L + (q : Int))] 24)
  have HIX : Hid (IntsAt v5 aX S ∧ IntsAt v5 bX M) := Lib.hid ⟨HiX.out.later hbv, HjX.out.later hbv⟩
  have Hb5 := Lib.hid (below_step Hb4.out hbv)
  clear hv5 hbv
  have HQX : Hid (∀ W', Below v5.heap.size v5 W' → Row W' w4.heap.size 24 [.slice aX S.length cX, .slice bX M.length dX, .int .i64 (L + (q : Int))]) := Lib.hid fun W' h => HRX.out.later h HRX.out.lt
  have HmD : Hid (∀ W', Below v5.heap.size v5 W' → Calls Try.prog 31 #[.agg #[.slice aS S.length cS, .slice aM M.length cM, .int .i64 L]] W' fun e w' => ∃ a c, e = .returned (.slice a N c) ∧ Below W'.heap.size W' w' ∧ OwnRows w' v5.heap.size a c (matL S f N)) := Lib.hid fun W' h => (H31.out W' (below_step Hb5.out h)).mono fun e w' ⟨a, c, he, hb, ho⟩ => ⟨a, c, he, hb, ho.mono h.size⟩
  have HmX : Hid (∀ W', Below v5.heap.size v5 W' → Calls Try.prog 31 #[.agg #[.slice aX S.length cX, .slice bX M.length dX, .int .i64 (L + (q : Int))]] W' fun e w' => ∃ a c, e = .returned (.slice a N2 c) ∧ Below W'.heap.size W' w' ∧ OwnRows w' v5.heap.size a c (matL S f N2)) := Lib.hid fun W' h => (HM2.out aX bX cX dX W' (HIX.out.1.later h) (HIX.out.2.later h)).mono fun e w' ⟨a, c, he, hb, ho⟩ => ⟨a, c, he, hb, ho.mono h.size⟩
  have hq := Hcell.out _ (below_step Hb5.out (Below.refl _ _))
  have hg0 := hq 0
  have hg1 := hq 1
  have hg2 := hq 2
  have hz := HQX.out _ (Below.refl _ _)
  have hy0 := hz.cell 0
  have hy1 := hz.cell 1
  have hy2 := hz.cell 2
  simp only [List.getElem?_cons_succ, List.getElem?_cons_zero] at hg0 hg1 hg2 hy0 hy1 hy2
  clear hq hz
  go_cut [6, 7] (fun s6 s7 wx => ∃ a6 c6 a7 c7, s6 = .slice a6 N c6 ∧ s7 = .slice a7 N2 c7 ∧ Below v5.heap.size v5 wx ∧ OwnRows wx v5.heap.size a6 c6 (matL S f N) ∧ OwnRows wx v5.heap.size a7 c7 (matL S f N2))
  case first =>
    go_region_with (first
      | (with_reducible refine (HmD.out _ ((Below.refl _ _).drew)).mono ?_; rintro e u1 ⟨a1, c1, rfl, hb1, ho1⟩; clear hg0 hg1 hg2 hy0 hy1 hy2; have hq := Hcell.out _ (below_step Hb5.out (below_step (Below.refl _ _).drew hb1)); have hq0 := hq 0; have hq1 := hq 1; have hq2 := hq 2; have hz := HQX.out _ (below_step (Below.refl _ _).drew hb1); have hy0 := hz.cell 0; have hy1 := hz.cell 1; have hy2 := hz.cell 2; simp only [List.getElem?_cons_succ, List.getElem?_cons_zero] at hq0 hq1 hq2 hy0 hy1 hy2; clear hq hz)
      | (with_reducible refine (HmX.out _ ((Below.refl _ _).drew)).mono ?_; rintro e u1 ⟨a1, c1, rfl, hb1, ho1⟩; clear hg0 hg1 hg2 hy0 hy1 hy2; have hq := Hcell.out _ (below_step Hb5.out (below_step (Below.refl _ _).drew hb1)); have hq0 := hq 0; have hq1 := hq 1; have hq2 := hq 2; have hz := HQX.out _ (below_step (Below.refl _ _).drew hb1); have hy0 := hz.cell 0; have hy1 := hz.cell 1; have hy2 := hz.cell 2; simp only [List.getElem?_cons_succ, List.getElem?_cons_zero] at hq0 hq1 hq2 hy0 hy1 hy2; clear hq hz)
      | (with_reducible refine (HmX.out _ (below_step ((Below.refl _ _).drew) hb1)).mono ?_; rintro e u2 ⟨a2, c2, rfl, hb2, ho2⟩)
      | (with_reducible refine (HmD.out _ (below_step ((Below.refl _ _).drew) hb1)).mono ?_; rintro e u2 ⟨a2, c2, rfl, hb2, ho2⟩))
    all_goals (go_wp2_with fail; go_meet)
    all_goals first
      | exact ⟨a1, c1, a2, c2, rfl, rfl, below_step (below_step (Below.refl _ _).drew hb1) hb2, ho1.later hb2 (Nat.le_refl _), ho2⟩
      | exact ⟨a2, c2, a1, c1, rfl, rfl, below_step (below_step (Below.refl _ _).drew hb1) hb2, ho2, ho1.later hb2 (Nat.le_refl _)⟩
  case rest =>
    obtain ⟨a6, c6, a7, c7, rfl, rfl, hbx, ho6, ho7⟩ := hcut
    have Hbc := Lib.hid hbx
    have Ho6 := Lib.hid ho6
    have Ho7 := Lib.hid ho7
    clear hbx ho6 ho7 hg0 hg1 hg2 hy0 hy1 hy2
    have hc := Hcell.out wc (below_step Hb5.out Hbc.out)
    have hc0 := hc 0
    have hc1 := hc 1
    have hc2 := hc 2
    simp only [List.getElem?_cons_succ, List.getElem?_cons_zero] at hc0 hc1 hc2
    clear hc
    go_wp2_with fail
    refine (H54.out wc (below_step Hb5.out Hbc.out)).mono ?_
    rintro e w6 ⟨A, c, rfl, hb6, _⟩
    have Hb6 := Lib.hid (below_step Hbc.out hb6)
    have Ho6b := Lib.hid (Ho6.out.later hb6 (Nat.le_refl _))
    have Ho7b := Lib.hid (Ho7.out.later hb6 (Nat.le_refl _))
    clear hb6 hc0 hc1 hc2 Ho6 Ho7 Hbc
    have hc2 := Hcell.out w6 (below_step Hb5.out Hb6.out) 2
    have hy2 := (HQX.out w6 Hb6.out).cell 2
    simp only [List.getElem?_cons_succ, List.getElem?_cons_zero] at hc2 hy2
    have hA1 : (n : Int) + (L + (q : Int)) = (N2 : Int) := by have := HN2.out; have := HNe.out; omega
    have hA2 : (n : Int) + L = (N : Int) := by have := HNe.out; omega
    go_wp2_with fail
    clear hc2 hy2 hA1 hA2
    go_loopg [58] N2 (fun g p wr => ∃ i : Nat, i ≤ N2 ∧ g = N2 - i ∧ p = .int .i64 i ∧ Below v5.heap.size v5 wr ∧ OwnRows wr v5.heap.size a6 c6 (matL S f N) ∧ OwnRows wr v5.heap.size a7 c7 (matL S f N2))
    case atStart => exact ⟨0, Nat.zero_le _, rfl, rfl, Hb6.out, Ho6b.out, Ho7b.out⟩
    case round =>
      clear Hb6 Ho6b Ho7b
      obtain ⟨i, hi, rfl, rfl, hbr, ho6, ho7⟩ := hrel
      have Hbr := Lib.hid hbr
      have Ho6 := Lib.hid ho6
      have Ho7 := Lib.hid ho7
      clear hbr ho6 ho7
      by_cases hil : i < N2
      · go_wp2_with fail
        go_loopg [63] N2 (fun g p wr => ∃ j : Nat, j ≤ N2 ∧ g = N2 - j ∧ p = .int .i64 j ∧ Below v5.heap.size v5 wr ∧ OwnRows wr v5.heap.size a6 c6 (matL S f N) ∧ OwnRows wr v5.heap.size a7 c7 (matL S f N2))
        case atStart => exact ⟨0, Nat.zero_le _, rfl, rfl, Hbr.out, Ho6.out, Ho7.out⟩
        case round =>
          clear Hbr Ho6 Ho7
          obtain ⟨j, hj, rfl, rfl, hbr, ho6, ho7⟩ := hrel
          have Hbr := Lib.hid hbr
          have Ho6 := Lib.hid ho6
          have Ho7 := Lib.hid ho7
          clear hbr ho6 ho7
          by_cases hjl : j < N2
          · obtain ⟨b7, o7, rfl, _, _, hY7⟩ := Ho7.out.open (by rw [matL, tab_len]; omega)
            obtain ⟨aR, cR, hcR, hoR⟩ := hY7 i _ (tab_get _ _ _ _ hil)
            rw [row_len] at hcR
            obtain ⟨bR, oR, rfl, _, _, hRc, _⟩ := hoR.open (by rw [ints_length, row_len]; omega)
            have hcE := hRc j _ (ints_get _ _ (by rw [row_len]; exact hjl))
            rw [nth_row _ _ _ hjl] at hcE
            clear hY7 hoR hRc
            by_cases hin : i < n
            · have di1 : decide (i < n) = true := decide_eq_true hin
              have di2 : decide (n ≤ i) = false := decide_eq_false (by omega)
              by_cases hjn : j < n
              · have dj1 : decide (j < n) = true := decide_eq_true hjn
                have dj2 : decide (n ≤ j) = false := decide_eq_false (by omega)
                obtain ⟨b6, o6, rfl, _, _, hY6⟩ := Ho6.out.open (by rw [matL, tab_len]; omega)
                obtain ⟨aP, cP, hcP, hoP⟩ := hY6 i _ (tab_get _ _ _ _ (by omega))
                rw [row_len] at hcP
                obtain ⟨bP, oP, rfl, _, _, hPc, _⟩ := hoP.open (by rw [ints_length, row_len]; omega)
                have hcF := hPc j _ (ints_get _ _ (by rw [row_len]; omega))
                rw [nth_row _ _ _ (by omega)] at hcF
                clear hY6 hoP hPc
                generalize matE S f i j = v at *
                go_wp2_with fail
                go_quiet (fail)
                have Hbz := Lib.hid (below_drewNN Hbr.out nq)
                have Ho6z : Hid (OwnRows (wr.drewN nq) v5.heap.size (some ⟨b6, o6, none⟩) c6 (matL S f N)) := Lib.hid Ho6.out
                have Ho7z : Hid (OwnRows (wr.drewN nq) v5.heap.size (some ⟨b7, o7, none⟩) c7 (matL S f N2)) := Lib.hid Ho7.out
                go_wp2_with fail
                go_roundg (N2 - (j + 1))
                case measure => omega
                case rel => exact ⟨j + 1, by omega, rfl, by go_num, Hbz.out, Ho6z.out, Ho7z.out⟩
              · have dj1 : decide (j < n) = false := decide_eq_false hjn
                have dj2 : decide (n ≤ j) = true := decide_eq_true (by omega)
                rw [Hno.out i j (.inr (by omega))] at hcE
                go_wp2_with fail
                go_quiet (fail)
                have Hbz := Lib.hid (below_drewNN Hbr.out nq)
                have Ho6z : Hid (OwnRows (wr.drewN nq) v5.heap.size a6 c6 (matL S f N)) := Lib.hid Ho6.out
                have Ho7z : Hid (OwnRows (wr.drewN nq) v5.heap.size (some ⟨b7, o7, none⟩) c7 (matL S f N2)) := Lib.hid Ho7.out
                go_wp2_with fail
                go_roundg (N2 - (j + 1))
                case measure => omega
                case rel => exact ⟨j + 1, by omega, rfl, by go_num, Hbz.out, Ho6z.out, Ho7z.out⟩
            · have di1 : decide (i < n) = false := decide_eq_false hin
              have di2 : decide (n ≤ i) = true := decide_eq_true (by omega)
              rw [Hno.out i j (.inl (by omega))] at hcE
              by_cases hjn : j < n
              · have dj1 : decide (j < n) = true := decide_eq_true hjn
                have dj2 : decide (n ≤ j) = false := decide_eq_false (by omega)
                go_wp2_with fail
                go_quiet (fail)
                have Hbz := Lib.hid (below_drewNN Hbr.out nq)
                have Ho6z : Hid (OwnRows (wr.drewN nq) v5.heap.size a6 c6 (matL S f N)) := Lib.hid Ho6.out
                have Ho7z : Hid (OwnRows (wr.drewN nq) v5.heap.size (some ⟨b7, o7, none⟩) c7 (matL S f N2)) := Lib.hid Ho7.out
                go_wp2_with fail
                go_roundg (N2 - (j + 1))
                case measure => omega
                case rel => exact ⟨j + 1, by omega, rfl, by go_num, Hbz.out, Ho6z.out, Ho7z.out⟩
              · have dj1 : decide (j < n) = false := decide_eq_false hjn
                have dj2 : decide (n ≤ j) = true := decide_eq_true (by omega)
                go_wp2_with fail
                go_quiet (fail)
                have Hbz := Lib.hid (below_drewNN Hbr.out nq)
                have Ho6z : Hid (OwnRows (wr.drewN nq) v5.heap.size a6 c6 (matL S f N)) := Lib.hid Ho6.out
                have Ho7z : Hid (OwnRows (wr.drewN nq) v5.heap.size (some ⟨b7, o7, none⟩) c7 (matL S f N2)) := Lib.hid Ho7.out
                go_wp2_with fail
                go_roundg (N2 - (j + 1))
                case measure => omega
                case rel => exact ⟨j + 1, by omega, rfl, by go_num, Hbz.out, Ho6z.out, Ho7z.out⟩
          · have hje : N2 = j := by omega
            subst hje
            go_wp2_with fail
            go_roundg (N2 - (i + 1))
            case measure => omega
            case rel => exact ⟨i + 1, by omega, rfl, by go_num, Hbr.out, Ho6.out, Ho7.out⟩
      · have hie : N2 = i := by omega
        subst hie
        have HQ5 : Hid (∀ W', Below wr.heap.size wr W' → Row W' w4.heap.size 24 [.slice aX S.length cX, .slice bX M.length dX, .int .i64 (L + (q : Int))]) := Lib.hid fun W' h => HQX.out W' (below_step Hbr.out h)
        have HQ2 : Hid (∀ W', Below wr.heap.size wr W' → Row W' w.heap.size 24 [.slice aS S.length cS, .slice aM M.length cM, .int .i64 L]) := Lib.hid fun W' h => Hbox.out.later (below_step Hb5.out (below_step Hbr.out h)) Hbox.out.lt
        have HT5 : Hid (∀ W', Below wr.heap.size wr W' → Calls Try.prog 35 #[.agg #[.slice aX S.length cX, .slice bX M.length dX, .int .i64 (L + (q : Int))]] W' fun e w' => e = .returned (.int .i64 tv) ∧ Below wr.heap.size wr w') := Lib.hid fun W' h => (HT2.out aX bX cX dX W' (HIX.out.1.later (below_step Hbr.out h)) (HIX.out.2.later (below_step Hbr.out h))).mono fun e w' ⟨he, hb⟩ => ⟨he, below_step h hb⟩
        have HT0 : Hid (∀ W', Below wr.heap.size wr W' → Calls Try.prog 35 #[.agg #[.slice aS S.length cS, .slice aM M.length cM, .int .i64 L]] W' fun e w' => e = .returned (.int .i64 tv) ∧ Below wr.heap.size wr w') := Lib.hid fun W' h => (H35.out W' (below_step Hb5.out (below_step Hbr.out h))).mono fun e w' ⟨he, hb⟩ => ⟨he, below_step h hb⟩
        go_wp2_with fail
        refine wp_region_class (fun W' => Below wr.heap.size wr W') (by kernel_rfl) (by kernel_rfl) ((Below.refl _ _).drew) ?_
        refine wpQuiet_loadRow (.tmp 5) 24 (w4.heap.size) 24 [.slice aX S.length cX, .slice bX M.length dX, .int .i64 (L + (q : Int))] rfl rfl rfl Try.isAgg24 Try.sizeOf24 HQ5.out ?_
        simp only [Act.put, List.setIfInBounds_toArray, List.set_cons_succ, List.set_cons_zero]
        refine wpQuiet_call (.int .i64 tv) 35 _ _ [.agg #[.slice aX S.length cX, .slice bX M.length dX, .int .i64 (L + (q : Int))]] rfl rfl rfl Try.call35 (HT5.out) ?_
        simp only [Act.put, List.setIfInBounds_toArray, List.set_cons_succ, List.set_cons_zero]
        refine wpQuiet_loadRow (.tmp 2) 24 (w.heap.size) 24 [.slice aS S.length cS, .slice aM M.length cM, .int .i64 L] rfl rfl rfl Try.isAgg24 Try.sizeOf24 HQ2.out ?_
        simp only [Act.put, List.setIfInBounds_toArray, List.set_cons_succ, List.set_cons_zero]
        refine wpQuiet_call (.int .i64 tv) 35 _ _ [.agg #[.slice aS S.length cS, .slice aM M.length cM, .int .i64 L]] rfl rfl rfl Try.call35 (HT0.out) ?_
        simp only [Act.put, List.setIfInBounds_toArray, List.set_cons_succ, List.set_cons_zero]
        refine wpQuiet_val (.bool true) rfl (fun W' hW' => ?_) ?_
        · go_simp
        simp only [Act.put, List.setIfInBounds_toArray, List.set_cons_succ, List.set_cons_zero]
        refine wpQuiet_assign (.tmp 127) (.bool true) rfl rfl rfl ?_
        simp only [Act.put, List.setIfInBounds_toArray, List.set_cons_succ, List.set_cons_zero]
        refine wpQuiet_end ?_
        intro w7 hb7
        have Hb7 := Lib.hid (below_step HB.out (below_step Hb5.out (below_step Hbr.out hb7)))
        clear hb7
        go_wp2_with fail
        go_ret
        exact ⟨rfl, Hb7.out⟩
theorem llo_any (S M : List Int) (L : Int) (aS aM : Option Addr) (cS cM : Nat) (k : Int) (w : World) (hSl : S.length ≤ maxLen) (hMl : M.length ≤ maxLen) (_ : (Lit.int .i64 L).wf = true) (hS : IntsAt w aS S) (hM : IntsAt w aM M) (hk : (Lit.int .u8 k).wf = true) :
    Calls Try.prog 9 #[.agg #[.slice aS S.length cS, .slice aM M.length cM, .int .i64 L], .int .u8 k] w fun e w' => e = .returned (.bool true) ∧ Below w.heap.size w w' := by
  by_cases hf : fewB S M L = true
  · by_cases hv : vldB S M L = true
    · simp only [Lit.wf, Bool.and_eq_true, decide_eq_true_eq] at hk
      have h1 : IntKind.u8.min = 0 := rfl
      have h2 : IntKind.u8.max = 255 := rfl
      rw [h1, h2] at hk
      exact llo_yes S M L aS aM cS cM k w hf hv hk.1 hk.2 hS hM
    · exact llo_no S M L aS aM cS cM k w hf (by simpa using hv) hS hM
  · exact llo_large S M L aS aM cS cM k w hSl hMl (by simpa using hf)
end Go.Proofs.Ytkopbcehfbmnmaa
