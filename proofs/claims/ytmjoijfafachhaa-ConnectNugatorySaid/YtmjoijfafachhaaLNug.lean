/- The walk of the law ConnectNugatory. -/
import Derived.Test.YtmjoijfafachhaaRFeW
import Derived.Test.YtmjoijfafachhaaBadW
import Derived.Test.YtmjoijfafachhaaCtnW
import Derived.Test.YtmjoijfafachhaaRefValidW
import Derived.Test.YtmjoijfafachhaaGreatW
import Derived.Test.YtmjoijfafachhaaAwkW
import Derived.Deep.RegionHeld3
namespace Go.Proofs.Ytmjoijfafachhaa
open Go Go.RowKit
set_option maxRecDepth 100000 in
set_option maxHeartbeats 1000000 in
theorem lnug_great (S M : List Int) (L : Int) (aS aM : Option Addr) (cS cM : Nat) (w : World) (hg : greatB S M L = true) :
    Calls Try.prog 8 #[.agg #[.slice aS S.length cS, .slice aM M.length cM, .int .i64 L]] w fun e w' => e = .returned (.bool true) ∧ Below w.heap.size w w' := by
  have HG : Hid (∀ W', Calls Try.prog 13 #[.agg #[.slice aS S.length cS, .slice aM M.length cM, .int .i64 L]] W' fun e w' => e = .returned (.bool true) ∧ Below W'.heap.size W' w') := Lib.hid fun W' => by
    have g := great_any S M L aS aM cS cM W'
    rw [hg] at g; exact g
  have H0 := Lib.hid ((HH.start w).alloc #[.slice aS S.length cS, .slice aM M.length cM, .int .i64 L] 24 rfl rfl)
  clear hg
  go_enter Try.func8, Try.ntmps8
  go_wp2_with fail
  refine (awake_any _).mono ?_
  rintro e w1 ⟨rfl, hb⟩
  have H1 := Lib.hid (H0.out.call hb)
  clear hb H0 
  have k00 := H1.out.cell (k := 0) (i := 0) rfl rfl
  have k01 := H1.out.cell (k := 0) (i := 1) rfl rfl
  have k02 := H1.out.cell (k := 0) (i := 2) rfl rfl
  go_wp2_with fail
  clear k00 k01 k02
  refine (HG.out _).mono ?_
  rintro e w2 ⟨rfl, hb⟩
  have H2 := Lib.hid (H1.out.call hb)
  clear hb H1 
  go_wp2_with fail
  go_ret
  exact ⟨rfl, H2.out.below⟩
set_option maxRecDepth 100000 in
set_option maxHeartbeats 1000000 in
theorem lnug_no (S M : List Int) (L : Int) (aS aM : Option Addr) (cS cM : Nat) (w : World) (hg : greatB S M L = false) (hv : vldB S M L = false) (hS : IntsAt w aS S) (hM : IntsAt w aM M) :
    Calls Try.prog 8 #[.agg #[.slice aS S.length cS, .slice aM M.length cM, .int .i64 L]] w fun e w' => e = .returned (.bool true) ∧ Below w.heap.size w w' := by
  obtain ⟨hg1, hg2⟩ := greatB_no hg
  have HG : Hid (∀ W', Calls Try.prog 13 #[.agg #[.slice aS S.length cS, .slice aM M.length cM, .int .i64 L]] W' fun e w' => e = .returned (.bool false) ∧ Below W'.heap.size W' w') := Lib.hid fun W' => by
    have g := great_any S M L aS aM cS cM W'
    rw [hg] at g; exact g
  have HRV : Hid (∀ W', Below w.heap.size w W' → Calls Try.prog 15 #[.agg #[.slice aS S.length cS, .slice aM M.length cM, .int .i64 L]] W' fun e w' => e = .returned (.bool false) ∧ Below W'.heap.size W' w') := Lib.hid fun W' h => by
    have g := rvalid_any S M L aS aM cS cM W' (by omega) (by omega) (hS.later h) (hM.later h)
    rw [hv] at g; exact g
  have HNg : Hid (∀ W', Below w.heap.size w W' → Calls Try.prog 35 #[.agg #[.slice aS S.length cS, .slice aM M.length cM, .int .i64 L]] W' fun e w' => e = .returned (.slice none 0 0) ∧ Below W'.heap.size W' w') := Lib.hid fun W' h => nugatory_no S M L aS aM cS cM W' (by omega) (by omega) hv (hS.later h) (hM.later h)
  have HRd : Hid (∀ W', Below w.heap.size w W' → Calls Try.prog 36 #[.agg #[.slice aS S.length cS, .slice aM M.length cM, .int .i64 L]] W' fun e w' => e = .returned (.bool false) ∧ Below W'.heap.size W' w') := Lib.hid fun W' h => reduced_no S M L aS aM cS cM W' (by omega) (by omega) hv (hS.later h) (hM.later h)
  have HAl : Hid (∀ W', Below w.heap.size w W' → Calls Try.prog 37 #[.agg #[.slice aS S.length cS, .slice aM M.length cM, .int .i64 L]] W' fun e w' => e = .returned (.bool false) ∧ Below W'.heap.size W' w') := Lib.hid fun W' h => alternating_no S M L aS aM cS cM W' (by omega) (by omega) hv (hS.later h) (hM.later h)
  have HCu : Hid (∀ W', Below w.heap.size w W' → Calls Try.prog 27 #[.agg #[.slice aS S.length cS, .slice aM M.length cM, .int .i64 L]] W' fun e w' => e = .returned (.slice none 0 0) ∧ Below W'.heap.size W' w') := Lib.hid fun W' h => cuts_no S M L aS aM cS cM W' (by omega) (by omega) hv (hS.later h) (hM.later h)
  have H0 := Lib.hid ((HH.start w).alloc #[.slice aS S.length cS, .slice aM M.length cM, .int .i64 L] 24 rfl rfl)
  clear hg hv hS hM
  generalize S.length = n at *
  generalize M.length = N at *
  go_enter Try.func8, Try.ntmps8
  go_wp2_with fail
  refine (awake_any _).mono ?_
  rintro e w1 ⟨rfl, hb⟩
  have H1 := Lib.hid (H0.out.call hb)
  clear hb H0 
  have k00 := H1.out.cell (k := 0) (i := 0) rfl rfl
  have k01 := H1.out.cell (k := 0) (i := 1) rfl rfl
  have k02 := H1.out.cell (k := 0) (i := 2) rfl rfl
  go_wp2_with fail
  clear k00 k01 k02
  refine (HG.out _).mono ?_
  rintro e w2 ⟨rfl, hb⟩
  have H2 := Lib.hid (H1.out.call hb)
  clear hb H1 
  have k00 := H2.out.cell (k := 0) (i := 0) rfl rfl
  have k01 := H2.out.cell (k := 0) (i := 1) rfl rfl
  have k02 := H2.out.cell (k := 0) (i := 2) rfl rfl
  go_wp2_with fail
  clear k00 k01 k02
  refine (HRV.out _ H2.out.below).mono ?_
  rintro e w3 ⟨rfl, hb⟩
  have H3 := Lib.hid (H2.out.call hb)
  clear hb H2 
  have k00 := H3.out.cell (k := 0) (i := 0) rfl rfl
  have k01 := H3.out.cell (k := 0) (i := 1) rfl rfl
  have k02 := H3.out.cell (k := 0) (i := 2) rfl rfl
  go_wp2_with fail
  clear k00 k01 k02
  refine (HNg.out _ H3.out.below).mono ?_
  rintro e w4 ⟨rfl, hb⟩
  have H4 := Lib.hid (H3.out.call hb)
  clear hb H3 
  have k00 := H4.out.cell (k := 0) (i := 0) rfl rfl
  have k01 := H4.out.cell (k := 0) (i := 1) rfl rfl
  have k02 := H4.out.cell (k := 0) (i := 2) rfl rfl
  go_wp2_with fail
  clear k00 k01 k02
  refine (HRd.out _ H4.out.below).mono ?_
  rintro e w5 ⟨rfl, hb⟩
  have H5 := Lib.hid (H4.out.call hb)
  clear hb H4 
  have k00 := H5.out.cell (k := 0) (i := 0) rfl rfl
  have k01 := H5.out.cell (k := 0) (i := 1) rfl rfl
  have k02 := H5.out.cell (k := 0) (i := 2) rfl rfl
  go_wp2_with fail
  clear k00 k01 k02
  refine (HAl.out _ H5.out.below).mono ?_
  rintro e w6 ⟨rfl, hb⟩
  have H6 := Lib.hid (H5.out.call hb)
  clear hb H5 
  have k00 := H6.out.cell (k := 0) (i := 0) rfl rfl
  have k01 := H6.out.cell (k := 0) (i := 1) rfl rfl
  have k02 := H6.out.cell (k := 0) (i := 2) rfl rfl
  go_wp2_with fail
  clear k00 k01 k02
  refine (HCu.out _ H6.out.below).mono ?_
  rintro e w7 ⟨rfl, hb⟩
  have H7 := Lib.hid (H6.out.call hb)
  clear hb H6 
  go_wp2_with fail
  go_ret
  exact ⟨rfl, H7.out.below⟩
set_option maxRecDepth 100000 in
set_option maxHeartbeats 1000000 in
theorem lnug_yes (S M : List Int) (L : Int) (aS aM : Option Addr) (cS cM : Nat) (w : World) (hg : greatB S M L = false) (hv : vldB S M L = true) (hS : IntsAt w aS S) (hM : IntsAt w aM M) :
    Calls Try.prog 8 #[.agg #[.slice aS S.length cS, .slice aM M.length cM, .int .i64 L]] w fun e w' => e = .returned (.bool true) ∧ Below w.heap.size w w' := by
  obtain ⟨hg1, hg2⟩ := greatB_no hg
  have HG : Hid (∀ W', Calls Try.prog 13 #[.agg #[.slice aS S.length cS, .slice aM M.length cM, .int .i64 L]] W' fun e w' => e = .returned (.bool false) ∧ Below W'.heap.size W' w') := Lib.hid fun W' => by
    have g := great_any S M L aS aM cS cM W'
    rw [hg] at g; exact g
  have HRV : Hid (∀ W', Below w.heap.size w W' → Calls Try.prog 15 #[.agg #[.slice aS S.length cS, .slice aM M.length cM, .int .i64 L]] W' fun e w' => e = .returned (.bool true) ∧ Below W'.heap.size W' w') := Lib.hid fun W' h => by
    have g := rvalid_any S M L aS aM cS cM W' (by omega) (by omega) (hS.later h) (hM.later h)
    rw [hv] at g; exact g
  have HNg : Hid (∀ W', Below w.heap.size w W' → Calls Try.prog 35 #[.agg #[.slice aS S.length cS, .slice aM M.length cM, .int .i64 L]] W' fun e w' => ∃ A C, e = .returned (.slice A (nugL S M).length C) ∧ Own w' W'.heap.size 3 A C (ints (nats (nugL S M))) ∧ Below W'.heap.size W' w') := Lib.hid fun W' h => nugatory_yes S M L aS aM cS cM W' hv (hS.later h) (hM.later h)
  have HRn : Hid (∀ W', Below w.heap.size w W' → Calls Try.prog 38 #[.agg #[.slice aS S.length cS, .slice aM M.length cM, .int .i64 L]] W' fun e w' => ∃ A C, e = .returned (.slice A (nugL S M).length C) ∧ Own w' W'.heap.size 3 A C (ints (nats (nugL S M))) ∧ Below W'.heap.size W' w') := Lib.hid fun W' h => rnug_any S M L aS aM cS cM W' hv (hS.later h) (hM.later h)
  have HRd : Hid (∀ W', Below w.heap.size w W' → Calls Try.prog 36 #[.agg #[.slice aS S.length cS, .slice aM M.length cM, .int .i64 L]] W' fun e w' => e = .returned (.bool (decide (nugL S M = []))) ∧ Below W'.heap.size W' w') := Lib.hid fun W' h => reduced_yes S M L aS aM cS cM W' hv (hS.later h) (hM.later h)
  have HAl : Hid (∀ W', Below w.heap.size w W' → Calls Try.prog 37 #[.agg #[.slice aS S.length cS, .slice aM M.length cM, .int .i64 L]] W' fun e w' => e = .returned (.bool (altTo M (4 * S.length))) ∧ Below W'.heap.size W' w') := Lib.hid fun W' h => alternating_yes S M L aS aM cS cM W' hv (hS.later h) (hM.later h)
  have HRa : Hid (∀ W', Below w.heap.size w W' → Calls Try.prog 40 #[.agg #[.slice aS S.length cS, .slice aM M.length cM, .int .i64 L]] W' fun e w' => e = .returned (.bool (altTo M (4 * S.length))) ∧ Below W'.heap.size W' w') := Lib.hid fun W' h => ralt_any S M L aS aM cS cM W' hv (hS.later h) (hM.later h)
  have HCu : Hid (∀ W', Below w.heap.size w W' → Calls Try.prog 27 #[.agg #[.slice aS S.length cS, .slice aM M.length cM, .int .i64 L]] W' fun e w' => ∃ A C, e = .returned (.slice A (cutsL S M).length C) ∧ Own w' W'.heap.size 45 A (C * 2) (prs (cutsL S M)) ∧ Below W'.heap.size W' w') := Lib.hid fun W' h => (cuts_yes S M L aS aM cS cM W' hv (hS.later h) (hM.later h)).mono fun e w' ⟨A, C, h1, _, h2, h3⟩ => ⟨A, C, h1, h2, h3⟩
  have HRc : Hid (∀ W', Below w.heap.size w W' → Calls Try.prog 42 #[.agg #[.slice aS S.length cS, .slice aM M.length cM, .int .i64 L]] W' fun e w' => ∃ A C, e = .returned (.slice A (cutsL S M).length C) ∧ Own w' W'.heap.size 45 A (C * 2) (prs (cutsL S M)) ∧ Below W'.heap.size W' w') := Lib.hid fun W' h => (rcuts_any S M L aS aM cS cM W' hv (hS.later h) (hM.later h)).mono fun e w' ⟨A, C, h1, _, h2, h3⟩ => ⟨A, C, h1, h2, h3⟩
  have hnl : (nugL S M).length ≤ 1000 := by have := nugTo_len (leftL M S.length) S.length; unfold nugL; omega
  have hKl : (cutsL S M).length ≤ 65536 := by
    have := cutTo_len S (leftL M S.length) M (4 * S.length) (4 * S.length)
    have h2 : 4 * S.length * (4 * S.length) ≤ 256 * 256 := Nat.mul_le_mul (by omega) (by omega)
    unfold cutsL; omega
  have HE : Hid (∀ (A B : Option Addr) (C D : Nat) W', IntsAt W' A (nats (nugL S M)) → IntsAt W' B (nats (nugL S M)) → Calls Try.prog 39 #[.slice A (nugL S M).length C, .slice B (nugL S M).length D] W' fun e w' => e = .returned (.bool true) ∧ Below W'.heap.size W' w') := Lib.hid fun A B C D W' h1 h2 => by
    have g := sEq_any (nats (nugL S M)) (nats (nugL S M)) A B C D W' (by rw [nats_length]; omega) h1 h2
    rw [decide_eq_true rfl, nats_length] at g; exact g
  have HP : Hid (∀ (A B : Option Addr) (C D : Nat) W', VAt W' A (prs (cutsL S M)) → VAt W' B (prs (cutsL S M)) → Calls Try.prog 41 #[.slice A (cutsL S M).length C, .slice B (cutsL S M).length D] W' fun e w' => e = .returned (.bool true) ∧ Below W'.heap.size W' w') := Lib.hid fun A B C D W' h1 h2 => peq_any _ _ A B C D W' (by omega) h1 h2 rfl
  have hz : ((((nugL S M).length : Nat) : Int) == 0) = decide (nugL S M = []) := by
    rw [Bool.eq_iff_iff, beq_iff_eq, decide_eq_true_eq, ← List.length_eq_zero_iff]; omega
  have hz2 : ((nugL S M).length == 0) = decide (nugL S M = []) := by
    rw [Bool.eq_iff_iff, beq_iff_eq, decide_eq_true_eq, ← List.length_eq_zero_iff]
  have H0 := Lib.hid ((HH.start w).alloc #[.slice aS S.length cS, .slice aM M.length cM, .int .i64 L] 24 rfl rfl)
  clear hg hv hS hM
  generalize hKe : nats (nugL S M) = K at *
  clear hKe
  generalize decide (nugL S M = []) = r at *
  generalize (nugL S M).length = nn at *
  generalize altTo M (4 * S.length) = al at *
  generalize hPe : prs (cutsL S M) = P at *
  clear hPe
  generalize (cutsL S M).length = kk at *
  have er : (r == r) = true := beq_self_eq_true r
  have ea : (al == al) = true := beq_self_eq_true al
  generalize S.length = n at *
  generalize M.length = N at *
  have HKS : Hid (∀ (W' : World) (s : List SlO), HH w W' [(w.heap.size, rowO 24 [.slice aS n cS, .slice aM N cM, .int .i64 L])] s → W'.cell? ⟨w.heap.size, 0, none⟩ = some (.slice aS n cS) ∧ W'.cell? ⟨w.heap.size, 1, none⟩ = some (.slice aM N cM) ∧ W'.cell? ⟨w.heap.size, 2, none⟩ = some (.int .i64 L)) := Lib.hid fun W' s h => ⟨h.cell (k := 0) (i := 0) rfl rfl, h.cell (k := 0) (i := 1) rfl rfl, h.cell (k := 0) (i := 2) rfl rfl⟩
  go_enter Try.func8, Try.ntmps8
  go_wp2_with fail
  refine (awake_any _).mono ?_
  rintro e w1 ⟨rfl, hb⟩
  have H1 := Lib.hid (H0.out.call hb)
  clear hb H0 
  have k00 := H1.out.cell (k := 0) (i := 0) rfl rfl
  have k01 := H1.out.cell (k := 0) (i := 1) rfl rfl
  have k02 := H1.out.cell (k := 0) (i := 2) rfl rfl
  go_wp2_with fail
  clear k00 k01 k02
  refine (HG.out _).mono ?_
  rintro e w2 ⟨rfl, hb⟩
  have H2 := Lib.hid (H1.out.call hb)
  clear hb H1 
  have k00 := H2.out.cell (k := 0) (i := 0) rfl rfl
  have k01 := H2.out.cell (k := 0) (i := 1) rfl rfl
  have k02 := H2.out.cell (k := 0) (i := 2) rfl rfl
  go_wp2_with fail
  clear k00 k01 k02
  refine (HRV.out _ H2.out.below).mono ?_
  rintro e w3 ⟨rfl, hb⟩
  have H3 := Lib.hid (H2.out.call hb)
  clear hb H2 
  have k00 := H3.out.cell (k := 0) (i := 0) rfl rfl
  have k01 := H3.out.cell (k := 0) (i := 1) rfl rfl
  have k02 := H3.out.cell (k := 0) (i := 2) rfl rfl
  go_wp2_with fail
  clear k00 k01 k02
  refine (HRn.out _ H3.out.below).mono ?_
  rintro e w4 ⟨A4, C4, rfl, ho, hb⟩
  have H4 := Lib.hid (H3.out.addSl hb ho).drew
  have Q0 := Lib.hid (HKS.out _ _ H4.out)
  have hq0 := Q0.out
  clear ho hb H3 HG HRV HRn
  go_upto_region 8 with fail
  go_region_held3 (fun W' => W'.cell? ⟨w.heap.size, 0, none⟩ = some (.slice aS n cS) ∧ W'.cell? ⟨w.heap.size, 1, none⟩ = some (.slice aM N cM) ∧ W'.cell? ⟨w.heap.size, 2, none⟩ = some (.int .i64 L))
    (first
      | with_reducible exact Q0.out
      | with_reducible exact Q5.out
      | with_reducible exact Q6.out
      | with_reducible exact Q7.out
      | with_reducible exact Q8.out
      | with_reducible exact Q9.out
      | with_reducible exact Q10.out
      | with_reducible exact Q11.out
      | with_reducible exact Q12.out)
    (first
      | ((with_reducible refine (HNg.out _ H4.out.below).mono ?_); rintro e w5 ⟨A5, C5, rfl, ho, hb⟩; have H5 := Lib.hid (H4.out.addSl hb ho); have Q5 := Lib.hid (HKS.out _ _ H5.out); clear hb ho)
      | ((with_reducible refine (HE.out A5 A4 C5 C4 _ (H5.out.sl (k := 1) rfl).ints (H5.out.sl (k := 0) rfl).ints).mono ?_); rintro e w6 ⟨rfl, hb⟩; have H6 := Lib.hid (H5.out.call hb); have Q6 := Lib.hid (HKS.out _ _ H6.out); clear hb)
      | ((with_reducible refine (HRd.out _ H6.out.below).mono ?_); rintro e w7 ⟨rfl, hb⟩; have H7 := Lib.hid (H6.out.call hb); have Q7 := Lib.hid (HKS.out _ _ H7.out); clear hb)
      | ((with_reducible refine (HAl.out _ H7.out.below).mono ?_); rintro e w8 ⟨rfl, hb⟩; have H8 := Lib.hid (H7.out.call hb); have Q8 := Lib.hid (HKS.out _ _ H8.out); clear hb)
      | ((with_reducible refine (HRa.out _ H8.out.below).mono ?_); rintro e w9 ⟨rfl, hb⟩; have H9 := Lib.hid (H8.out.call hb); have Q9 := Lib.hid (HKS.out _ _ H9.out); clear hb)
      | ((with_reducible refine (HCu.out _ H9.out.below).mono ?_); rintro e w10 ⟨A10, C10, rfl, ho, hb⟩; have H10 := Lib.hid (H9.out.addSl hb ho); have Q10 := Lib.hid (HKS.out _ _ H10.out); clear hb ho)
      | ((with_reducible refine (HRc.out _ H10.out.below).mono ?_); rintro e w11 ⟨A11, C11, rfl, ho, hb⟩; have H11 := Lib.hid (H10.out.addSl hb ho); have Q11 := Lib.hid (HKS.out _ _ H11.out); clear hb ho)
      | ((with_reducible refine (HP.out A10 A11 C10 C11 _ (H11.out.sl (k := 2) rfl).at (H11.out.sl (k := 3) rfl).at).mono ?_); rintro e w12 ⟨rfl, hb⟩; have H12 := Lib.hid (H11.out.call hb); have Q12 := Lib.hid (HKS.out _ _ H12.out); clear hb))
  go_wp2_with fail
  go_ret
  exact ⟨rfl, H12.out.below⟩
theorem lnug_any (S M : List Int) (L : Int) (aS aM : Option Addr) (cS cM : Nat) (w : World) (_ : S.length ≤ maxLen) (_ : M.length ≤ maxLen) (_ : (Lit.int .i64 L).wf = true) (hS : IntsAt w aS S) (hM : IntsAt w aM M) :
    Calls Try.prog 8 #[.agg #[.slice aS S.length cS, .slice aM M.length cM, .int .i64 L]] w fun e w' => e = .returned (.bool true) ∧ Below w.heap.size w w' := by
  cases hg : greatB S M L
  · cases hv : vldB S M L
    · exact lnug_no S M L aS aM cS cM w hg hv hS hM
    · exact lnug_yes S M L aS aM cS cM w hg hv hS hM
  · exact lnug_great S M L aS aM cS cM w hg
end Go.Proofs.Ytmjoijfafachhaa
