/- The walk of the law MirrorParts: a crossing that exists. -/
import Derived.Test.YtkopbcehfbmnmaaMPaA
namespace Go.Proofs.Ytkopbcehfbmnmaa
open Go Go.RowKit
set_option maxRecDepth 100000 in
set_option maxHeartbeats 16000000 in
theorem mpa_big_ok (S M : List Int) (L : Int) (aS aM : Option Addr) (cS cM : Nat) (i N : Nat) (w : World) (hf : few6B S M = true) (hv : vldB S M L = true) (hN : compsN S M L = (N : Int)) (hk : N ≤ i) (hq : i < S.length) (hL : (L + (newL M (pS S i) i : Nat)) ≤ 64) (hS : IntsAt w aS S) (hM : IntsAt w aM M) :
    Calls Try.prog 14 #[.agg #[.slice aS S.length cS, .slice aM M.length cM, .int .i64 L], .int .i64 (i : Int)] w fun e w' => e = .returned (.bool true) ∧ Below w.heap.size w w' := by
  have hl : S.length ≤ 14 ∧ M.length ≤ 70 := by
    have := of_decide_eq_true hf
    exact ⟨this.1, this.2⟩
  have hSl : S.length ≤ 1000000000 := by omega
  have hMl : M.length ≤ 1000000000 := by omega
  obtain ⟨W, hW⟩ : ∃ W, W = (w.alloc (.cells #[.slice aS S.length cS, .slice aM M.length cM, .int .i64 L] 24)) := ⟨_, rfl⟩
  have h0 : HH w W [(w.heap.size, rowO 24 [.slice aS S.length cS, .slice aM M.length cM, .int .i64 L])] [] := by rw [hW]; exact ((HH.start w).alloc #[.slice aS S.length cS, .slice aM M.length cM, .int .i64 L] 24 rfl rfl)
  have H0 := Lib.hid h0
  have H42 : Hid (∀ W', Below w.heap.size w W' → Calls Try.prog 42 #[.agg #[.slice aS S.length cS, .slice aM M.length cM, .int .i64 L]] W' fun e w' => e = .returned (.bool true) ∧ Below W'.heap.size W' w') := Lib.hid fun W' hW' => by rw [← hf]; exact few6_any S M L aS aM cS cM W' (by unfold maxLen; omega) (by unfold maxLen; omega)
  have H32 : Hid (∀ W', Below w.heap.size w W' → Calls Try.prog 32 #[.agg #[.slice aS S.length cS, .slice aM M.length cM, .int .i64 L]] W' fun e w' => e = .returned (.bool true) ∧ Below W'.heap.size W' w') := Lib.hid fun W' hW' => by rw [← hv]; exact rvalid_any S M L aS aM cS cM W' hSl hMl (hS.later hW') (hM.later hW')
  have H58 : Hid (∀ W', Below w.heap.size w W' → Calls Try.prog 58 #[.agg #[.slice aS S.length cS, .slice aM M.length cM, .int .i64 L]] W' fun e w' => e = .returned (.int .i64 (N : Int)) ∧ Below W'.heap.size W' w') := Lib.hid fun W' hW' => by rw [← hN]; exact rcomponents_any S M L aS aM cS cM W' hv (hS.later hW') (hM.later hW')
  have hN2 := hN
  rw [compsN, if_pos hv] at hN2
  have HA : Hid (∀ W', Below w.heap.size w W' → Calls Try.prog 56 #[.agg #[.slice aS S.length cS, .slice aM M.length cM, .int .i64 L], .int .i64 (i : Int)] W' (fun e w' => ∃ (a b : Option Addr) (c d : Nat), e = .returned (.tuple #[.agg #[.slice a 0 c, .slice b 0 d, .int .i64 0], .int .i64 2]) ∧ (IntsAt w' a [] ∧ IntsAt w' b []) ∧ Below W'.heap.size W' w')) := Lib.hid fun W' hW' => (rone_out S M L aS aM cS cM (i : Int) W' hv (.inr (by omega)) (hS.later hW') (hM.later hW')).mono fun e w' ⟨a, b, c, d, he, h1, h2, hb⟩ => ⟨a, b, c, d, he, ⟨h1, h2⟩, hb⟩
  have lB1 : (mulS S (swS fun c => decide (c = i))).length = S.length := mulS_len _ _
  have lB2 : (mvL (trn (swB S fun c => decide (c = i))) M).length = M.length := mvL_len _ _
  have HB : Hid (∀ W', Below w.heap.size w W' → Calls Try.prog 52 #[.agg #[.slice aS S.length cS, .slice aM M.length cM, .int .i64 L], .int .i64 (i : Int)] W' (fun e w' => ∃ (a b : Option Addr) (c d : Nat), e = .returned (.tuple #[.agg #[.slice a S.length c, .slice b M.length d, .int .i64 L], .int .i64 0]) ∧ (IntsAt w' a (mulS S (swS fun c => decide (c = i))) ∧ IntsAt w' b (mvL (trn (swB S fun c => decide (c = i))) M)) ∧ Below W'.heap.size W' w')) := Lib.hid fun W' hW' => (switch_yes S M L aS aM cS cM i W' hv hq (hS.later hW') (hM.later hW')).mono fun e w' ⟨a, b, c, d, he, h1, h2, hb⟩ => ⟨a, b, c, d, (by rw [lB1, lB2] at he; exact he), ⟨h1, h2⟩, hb⟩
  have HRW : Hid (∀ W', Below w.heap.size w W' → Calls Try.prog 60 #[.agg #[.slice aS S.length cS, .slice aM M.length cM, .int .i64 L], .int .i64 (i : Int)] W' (fun e w' => ∃ (a b : Option Addr) (c d : Nat), e = .returned (.agg #[.slice a (smS S i).length c, .slice b (smM S M i).length d, .int .i64 (L + (newL M (pS S i) i : Nat))]) ∧ (IntsAt w' a (smS S i) ∧ IntsAt w' b (smM S M i)) ∧ Below W'.heap.size W' w')) := Lib.hid fun W' hW' => (rsmooth_any S M L aS aM cS cM i W' hv hq (hS.later hW') (hM.later hW')).mono fun e w' ⟨a, b, c, d, he, h1, h2, hb⟩ => ⟨a, b, c, d, he, ⟨h1.ints, h2.ints⟩, hb⟩
  have HRB : Hid (∀ W', Below w.heap.size w W' → Calls Try.prog 61 #[.agg #[.slice aS S.length cS, .slice aM M.length cM, .int .i64 L], .int .i64 (i : Int)] W' (fun e w' => ∃ (a b : Option Addr) (c d : Nat), e = .returned (.agg #[.slice a S.length c, .slice b M.length d, .int .i64 L]) ∧ (IntsAt w' a (mulS S (swS fun c => decide (c = i))) ∧ IntsAt w' b (mvL (trn (swB S fun c => decide (c = i))) M)) ∧ Below W'.heap.size W' w')) := Lib.hid fun W' hW' => (rswitch_some S M L aS aM cS cM i W' hv hq (hS.later hW') (hM.later hW')).mono fun e w' ⟨a, b, c, d, he, h1, h2, hb⟩ => ⟨a, b, c, d, he, ⟨h1.ints, h2.ints⟩, hb⟩
  have HEB : Hid (∀ (a b a' b' : Option Addr) (c d c' d' : Nat) (W' : World), IntsAt W' a (mulS S (swS fun c => decide (c = i))) → IntsAt W' b (mvL (trn (swB S fun c => decide (c = i))) M) → IntsAt W' a' (mulS S (swS fun c => decide (c = i))) → IntsAt W' b' (mvL (trn (swB S fun c => decide (c = i))) M) → Calls Try.prog 47 #[.agg #[.slice a S.length c, .slice b M.length d, .int .i64 L], .agg #[.slice a' S.length c', .slice b' M.length d', .int .i64 L]] W' (fun e w' => e = .returned (.bool true) ∧ Below W'.heap.size W' w')) := Lib.hid fun a b a' b' c d c' d' W' i1 i2 i3 i4 => by
    have h := equalR_any (mulS S (swS fun c => decide (c = i))) (mvL (trn (swB S fun c => decide (c = i))) M) (mulS S (swS fun c => decide (c = i))) (mvL (trn (swB S fun c => decide (c = i))) M) L L a b a' b' c d c' d' W' (by rw [lB1]; omega) (by rw [lB2]; omega) i1 i2 i3 i4
    rw [show eqD (mulS S (swS fun c => decide (c = i))) (mvL (trn (swB S fun c => decide (c = i))) M) L (mulS S (swS fun c => decide (c = i))) (mvL (trn (swB S fun c => decide (c = i))) M) L = true from decide_eq_true ⟨rfl, rfl, rfl⟩, lB1, lB2] at h
    exact h
  have lC1 : (smS S i).length = (smS S i).length := rfl
  have lC2 : (smM S M i).length = (smM S M i).length := rfl
  have lC3 := smS_len S i hq
  have lC4 := smM_len S M i
  have HEC : Hid (∀ (a b a' b' : Option Addr) (c d c' d' : Nat) (W' : World), IntsAt W' a (smS S i) → IntsAt W' b (smM S M i) → IntsAt W' a' (smS S i) → IntsAt W' b' (smM S M i) → Calls Try.prog 47 #[.agg #[.slice a (smS S i).length c, .slice b (smM S M i).length d, .int .i64 (L + (newL M (pS S i) i : Nat))], .agg #[.slice a' (smS S i).length c', .slice b' (smM S M i).length d', .int .i64 (L + (newL M (pS S i) i : Nat))]] W' (fun e w' => e = .returned (.bool true) ∧ Below W'.heap.size W' w')) := Lib.hid fun a b a' b' c d c' d' W' i1 i2 i3 i4 => by
    have h := equalR_any (smS S i) (smM S M i) (smS S i) (smM S M i) (L + (newL M (pS S i) i : Nat)) (L + (newL M (pS S i) i : Nat)) a b a' b' c d c' d' W' (by rw [lC1]; omega) (by rw [lC2]; omega) i1 i2 i3 i4
    rw [show eqD (smS S i) (smM S M i) (L + (newL M (pS S i) i : Nat)) (smS S i) (smM S M i) (L + (newL M (pS S i) i : Nat)) = true from decide_eq_true ⟨rfl, rfl, rfl⟩, lC1, lC2] at h
    exact h
  have HC : Hid (∀ W', Below w.heap.size w W' → Calls Try.prog 57 #[.agg #[.slice aS S.length cS, .slice aM M.length cM, .int .i64 L], .int .i64 (i : Int)] W' (fun e w' => ∃ (a b : Option Addr) (c d : Nat), e = .returned (.tuple #[.agg #[.slice a (smS S i).length c, .slice b (smM S M i).length d, .int .i64 (L + (newL M (pS S i) i : Nat))], .int .i64 0]) ∧ (IntsAt w' a (smS S i) ∧ IntsAt w' b (smM S M i)) ∧ Below W'.heap.size W' w')) := Lib.hid fun W' hW' => smooth_yes S M L aS aM cS cM i W' _ (fun _ e w' ⟨a, b, c, d, he, h1, h2, hb⟩ => ⟨a, b, c, d, he, ⟨h1, h2⟩, hb⟩) (fun g => absurd hL g) hv hq (hS.later hW') (hM.later hW')
  have d1 : decide ((i : Int) < 0) = false := decide_eq_false (by omega)
  have d2 : decide ((N : Int) ≤ (i : Int)) = true := decide_eq_true (by omega)
  have d3 : decide (N ≤ i) = true := decide_eq_true (by omega)
  have d4 : decide ((S.length : Int) ≤ (i : Int)) = false := decide_eq_false (by omega)
  have d5 : decide (S.length ≤ i) = false := decide_eq_false (by omega)
  have d6 : decide (64 < (L + (newL M (pS S i) i : Nat))) = false := decide_eq_false (by omega)
  obtain ⟨SB, hSB⟩ : ∃ x, x = (mulS S (swS fun c => decide (c = i))) := ⟨_, rfl⟩
  rw [← hSB] at HB HRB HEB
  clear hSB
  obtain ⟨MB, hMB⟩ : ∃ x, x = (mvL (trn (swB S fun c => decide (c = i))) M) := ⟨_, rfl⟩
  rw [← hMB] at HB HRB HEB
  clear hMB
  obtain ⟨SC, hSC⟩ : ∃ x, x = smS S i := ⟨_, rfl⟩
  rw [← hSC] at HRW HC HEC
  obtain ⟨MC, hMC⟩ : ∃ x, x = smM S M i := ⟨_, rfl⟩
  rw [← hMC] at HRW HC HEC
  obtain ⟨LC, hLC⟩ : ∃ x : Int, x = (L + (newL M (pS S i) i : Nat)) := ⟨_, rfl⟩
  rw [← hLC] at HRW HC HEC d6
  clear hSC hMC hLC hL
  clear hf hv hSl hMl hS hM hl h0 hN hN2 lB1 lB2 lC1 lC2 lC3 lC4
  go_enter Try.func14, Try.ntmps14
  go_wp2_with fail
  rw [← hW]
  clear hW
  refine (awake6_any W).mono ?_
  rintro e w1 ⟨rfl, hb1⟩
  have H1 := Lib.hid (H0.out.call hb1)
  clear hb1 H0
  have hc0_0 := H1.out.cell (k := 0) (i := 0) rfl rfl
  have hc0_1 := H1.out.cell (k := 0) (i := 1) rfl rfl
  have hc0_2 := H1.out.cell (k := 0) (i := 2) rfl rfl
  go_wp2_with fail
  refine (H42.out w1 H1.out.below).mono ?_
  rintro e w2 ⟨rfl, hb2⟩
  have H2 := Lib.hid (H1.out.call hb2)
  clear hb2 H1
  clear hc0_0 hc0_1 hc0_2
  have hc0 := H2.out.cell (k := 0) (i := 0) rfl rfl
  have hc1 := H2.out.cell (k := 0) (i := 1) rfl rfl
  have hc2 := H2.out.cell (k := 0) (i := 2) rfl rfl
  go_wp2_with fail
  refine (HA.out w2 H2.out.below).mono ?_
  rintro e w3 ⟨aA, bA, cA, dA, rfl, hiA, hb3⟩
  have H3 := Lib.hid (H2.out.call hb3)
  clear hb3 H2 hc0 hc1 hc2
  go_upto_region 4 with fail
  obtain ⟨v3, hv3⟩ : ∃ x, x = w3.alloc (.cells #[.slice aA 0 cA, .slice bA 0 dA, .int .i64 0] 24) := ⟨_, rfl⟩
  rw [← hv3]
  have h3v : HH w v3 [(w.heap.size, rowO 24 [.slice aS S.length cS, .slice aM M.length cM, .int .i64 L]), (w3.heap.size, rowO 24 [.slice aA 0 cA, .slice bA 0 dA, .int .i64 0])] [] := by
    rw [hv3]; exact H3.out.alloc #[.slice aA 0 cA, .slice bA 0 dA, .int .i64 0] 24 rfl rfl
  have hb3v : Below w3.heap.size w3 v3 := by rw [hv3]; exact (Below.refl _ _).alloc (Nat.le_refl _) _
  have HIA : Hid (∀ W', Below v3.heap.size v3 W' → IntsAt W' aA ([] : List Int) ∧ IntsAt W' bA ([] : List Int)) := Lib.hid fun W' h => ⟨(hiA.1.later hb3v).later h, (hiA.2.later hb3v).later h⟩
  have H3v := Lib.hid h3v
  generalize w3.heap.size = qA at *
  clear hv3 h3v hb3v hiA H3
  have hc0 := H3v.out.cell (k := 0) (i := 0) rfl rfl
  have hc1 := H3v.out.cell (k := 0) (i := 1) rfl rfl
  have hc2 := H3v.out.cell (k := 0) (i := 2) rfl rfl
  go_wp2_with fail
  refine (HB.out v3 H3v.out.below).mono ?_
  rintro e w4 ⟨aB, bB, cB, dB, rfl, hiB, hb4⟩
  have H4 := Lib.hid (H3v.out.call hb4)
  have HIAn : Hid (∀ W', Below w4.heap.size w4 W' → IntsAt W' aA ([] : List Int) ∧ IntsAt W' bA ([] : List Int)) := Lib.hid fun W' h => HIA.out W' (below_step hb4 h)
  clear HIA
  clear hb4 H3v hc0 hc1 hc2
  go_upto_region 5 with fail
  obtain ⟨v4, hv4⟩ : ∃ x, x = w4.alloc (.cells #[.slice aB S.length cB, .slice bB M.length dB, .int .i64 L] 24) := ⟨_, rfl⟩
  rw [← hv4]
  have h4v : HH w v4 [(w.heap.size, rowO 24 [.slice aS S.length cS, .slice aM M.length cM, .int .i64 L]), (qA, rowO 24 [.slice aA 0 cA, .slice bA 0 dA, .int .i64 0]), (w4.heap.size, rowO 24 [.slice aB S.length cB, .slice bB M.length dB, .int .i64 L])] [] := by
    rw [hv4]; exact H4.out.alloc #[.slice aB S.length cB, .slice bB M.length dB, .int .i64 L] 24 rfl rfl
  have hb4v : Below w4.heap.size w4 v4 := by rw [hv4]; exact (Below.refl _ _).alloc (Nat.le_refl _) _
  have HIB : Hid (∀ W', Below v4.heap.size v4 W' → IntsAt W' aB SB ∧ IntsAt W' bB MB) := Lib.hid fun W' h => ⟨(hiB.1.later hb4v).later h, (hiB.2.later hb4v).later h⟩
  have HIA : Hid (∀ W', Below v4.heap.size v4 W' → IntsAt W' aA ([] : List Int) ∧ IntsAt W' bA ([] : List Int)) := Lib.hid fun W' h => HIAn.out W' (below_step hb4v h)
  clear HIAn
  have H4v := Lib.hid h4v
  generalize w4.heap.size = qB at *
  clear hv4 h4v hb4v hiB H4
  have hc0 := H4v.out.cell (k := 0) (i := 0) rfl rfl
  have hc1 := H4v.out.cell (k := 0) (i := 1) rfl rfl
  have hc2 := H4v.out.cell (k := 0) (i := 2) rfl rfl
  go_wp2_with fail
  refine (HC.out v4 H4v.out.below).mono ?_
  rintro e w5 ⟨aC, bC, cC, dC, rfl, hiC, hb5⟩
  have H5 := Lib.hid (H4v.out.call hb5)
  have HIAn : Hid (∀ W', Below w5.heap.size w5 W' → IntsAt W' aA ([] : List Int) ∧ IntsAt W' bA ([] : List Int)) := Lib.hid fun W' h => HIA.out W' (below_step hb5 h)
  clear HIA
  have HIBn : Hid (∀ W', Below w5.heap.size w5 W' → IntsAt W' aB SB ∧ IntsAt W' bB MB) := Lib.hid fun W' h => HIB.out W' (below_step hb5 h)
  clear HIB
  clear hb5 H4v hc0 hc1 hc2
  go_upto_region 6 with fail
  obtain ⟨v5, hv5⟩ : ∃ x, x = w5.alloc (.cells #[.slice aC SC.length cC, .slice bC MC.length dC, .int .i64 LC] 24) := ⟨_, rfl⟩
  rw [← hv5]
  have h5v : HH w v5 [(w.heap.size, rowO 24 [.slice aS S.length cS, .slice aM M.length cM, .int .i64 L]), (qA, rowO 24 [.slice aA 0 cA, .slice bA 0 dA, .int .i64 0]), (qB, rowO 24 [.slice aB S.length cB, .slice bB M.length dB, .int .i64 L]), (w5.heap.size, rowO 24 [.slice aC SC.length cC, .slice bC MC.length dC, .int .i64 LC])] [] := by
    rw [hv5]; exact H5.out.alloc #[.slice aC SC.length cC, .slice bC MC.length dC, .int .i64 LC] 24 rfl rfl
  have hb5v : Below w5.heap.size w5 v5 := by rw [hv5]; exact (Below.refl _ _).alloc (Nat.le_refl _) _
  have HIC : Hid (∀ W', Below v5.heap.size v5 W' → IntsAt W' aC SC ∧ IntsAt W' bC MC) := Lib.hid fun W' h => ⟨(hiC.1.later hb5v).later h, (hiC.2.later hb5v).later h⟩
  have HIA : Hid (∀ W', Below v5.heap.size v5 W' → IntsAt W' aA ([] : List Int) ∧ IntsAt W' bA ([] : List Int)) := Lib.hid fun W' h => HIAn.out W' (below_step hb5v h)
  clear HIAn
  have HIB : Hid (∀ W', Below v5.heap.size v5 W' → IntsAt W' aB SB ∧ IntsAt W' bB MB) := Lib.hid fun W' h => HIBn.out W' (below_step hb5v h)
  clear HIBn
  have H5v := Lib.hid h5v
  generalize w5.heap.size = qC at *
  clear hv5 h5v hb5v hiC H5
  have hc0 := H5v.out.cell (k := 0) (i := 0) rfl rfl
  have hc1 := H5v.out.cell (k := 0) (i := 1) rfl rfl
  have hc2 := H5v.out.cell (k := 0) (i := 2) rfl rfl
  go_wp2_with fail
  refine (H32.out v5 H5v.out.below).mono ?_
  rintro e w6 ⟨rfl, hb6⟩
  have H6 := Lib.hid (H5v.out.call hb6)
  have HIAn : Hid (∀ W', Below w6.heap.size w6 W' → IntsAt W' aA ([] : List Int) ∧ IntsAt W' bA ([] : List Int)) := Lib.hid fun W' h => HIA.out W' (below_step hb6 h)
  clear HIA
  have HIA := HIAn
  clear HIAn
  have HIBn : Hid (∀ W', Below w6.heap.size w6 W' → IntsAt W' aB SB ∧ IntsAt W' bB MB) := Lib.hid fun W' h => HIB.out W' (below_step hb6 h)
  clear HIB
  have HIB := HIBn
  clear HIBn
  have HICn : Hid (∀ W', Below w6.heap.size w6 W' → IntsAt W' aC SC ∧ IntsAt W' bC MC) := Lib.hid fun W' h => HIC.out W' (below_step hb6 h)
  clear HIC
  have HIC := HICn
  clear HICn
  clear hb6 H5v hc0 hc1 hc2
  have hc0 := H6.out.cell (k := 0) (i := 0) rfl rfl
  have hc1 := H6.out.cell (k := 0) (i := 1) rfl rfl
  have hc2 := H6.out.cell (k := 0) (i := 2) rfl rfl
  go_wp2_with fail
  refine (H58.out w6 H6.out.below).mono ?_
  rintro e w7 ⟨rfl, hb7⟩
  have H7 := Lib.hid (H6.out.call hb7)
  have HIAn : Hid (∀ W', Below w7.heap.size w7 W' → IntsAt W' aA ([] : List Int) ∧ IntsAt W' bA ([] : List Int)) := Lib.hid fun W' h => HIA.out W' (below_step hb7 h)
  clear HIA
  have HIA := HIAn
  clear HIAn
  have HIBn : Hid (∀ W', Below w7.heap.size w7 W' → IntsAt W' aB SB ∧ IntsAt W' bB MB) := Lib.hid fun W' h => HIB.out W' (below_step hb7 h)
  clear HIB
  have HIB := HIBn
  clear HIBn
  have HICn : Hid (∀ W', Below w7.heap.size w7 W' → IntsAt W' aC SC ∧ IntsAt W' bC MC) := Lib.hid fun W' h => HIC.out W' (below_step hb7 h)
  clear HIC
  have HIC := HICn
  clear HICn
  clear hb7 H6 hc0 hc1 hc2
  have hc0 := H7.out.cell (k := 1) (i := 0) rfl rfl
  have hc1 := H7.out.cell (k := 1) (i := 1) rfl rfl
  have hc2 := H7.out.cell (k := 1) (i := 2) rfl rfl
  go_wp2_with fail
  refine (zero_yes aA bA cA dA w7).mono ?_
  rintro e w8 ⟨rfl, hb8⟩
  have H8 := Lib.hid (H7.out.call hb8)
  have HIAn : Hid (∀ W', Below w8.heap.size w8 W' → IntsAt W' aA ([] : List Int) ∧ IntsAt W' bA ([] : List Int)) := Lib.hid fun W' h => HIA.out W' (below_step hb8 h)
  clear HIA
  have HIA := HIAn
  clear HIAn
  have HIBn : Hid (∀ W', Below w8.heap.size w8 W' → IntsAt W' aB SB ∧ IntsAt W' bB MB) := Lib.hid fun W' h => HIB.out W' (below_step hb8 h)
  clear HIB
  have HIB := HIBn
  clear HIBn
  have HICn : Hid (∀ W', Below w8.heap.size w8 W' → IntsAt W' aC SC ∧ IntsAt W' bC MC) := Lib.hid fun W' h => HIC.out W' (below_step hb8 h)
  clear HIC
  have HIC := HICn
  clear HICn
  clear hb8 H7 hc0 hc1 hc2
  have hc0 := H8.out.cell (k := 0) (i := 0) rfl rfl
  have hc1 := H8.out.cell (k := 0) (i := 1) rfl rfl
  have hc2 := H8.out.cell (k := 0) (i := 2) rfl rfl
  go_wp2_with fail
  refine (HRW.out w8 H8.out.below).mono ?_
  rintro e w9 ⟨aW, bW, cW, dW, rfl, hiW, hb9⟩
  have H9 := Lib.hid (H8.out.call hb9)
  have HIAn : Hid (∀ W', Below w9.heap.size w9 W' → IntsAt W' aA ([] : List Int) ∧ IntsAt W' bA ([] : List Int)) := Lib.hid fun W' h => HIA.out W' (below_step hb9 h)
  clear HIA
  have HIBn : Hid (∀ W', Below w9.heap.size w9 W' → IntsAt W' aB SB ∧ IntsAt W' bB MB) := Lib.hid fun W' h => HIB.out W' (below_step hb9 h)
  clear HIB
  have HICn : Hid (∀ W', Below w9.heap.size w9 W' → IntsAt W' aC SC ∧ IntsAt W' bC MC) := Lib.hid fun W' h => HIC.out W' (below_step hb9 h)
  clear HIC
  clear hb9 H8 hc0 hc1 hc2
  go_upto_region 16 with fail
  obtain ⟨v9, hv9⟩ : ∃ x, x = w9.alloc (.cells #[.slice aW SC.length cW, .slice bW MC.length dW, .int .i64 LC] 24) := ⟨_, rfl⟩
  rw [← hv9]
  have h9v : HH w v9 [(w.heap.size, rowO 24 [.slice aS S.length cS, .slice aM M.length cM, .int .i64 L]), (qA, rowO 24 [.slice aA 0 cA, .slice bA 0 dA, .int .i64 0]), (qB, rowO 24 [.slice aB S.length cB, .slice bB M.length dB, .int .i64 L]), (qC, rowO 24 [.slice aC SC.length cC, .slice bC MC.length dC, .int .i64 LC]), (w9.heap.size, rowO 24 [.slice aW SC.length cW, .slice bW MC.length dW, .int .i64 LC])] [] := by
    rw [hv9]; exact H9.out.alloc #[.slice aW SC.length cW, .slice bW MC.length dW, .int .i64 LC] 24 rfl rfl
  have hb9v : Below w9.heap.size w9 v9 := by rw [hv9]; exact (Below.refl _ _).alloc (Nat.le_refl _) _
  have HIW : Hid (∀ W', Below v9.heap.size v9 W' → IntsAt W' aW SC ∧ IntsAt W' bW MC) := Lib.hid fun W' h => ⟨(hiW.1.later hb9v).later h, (hiW.2.later hb9v).later h⟩
  have HIA : Hid (∀ W', Below v9.heap.size v9 W' → IntsAt W' aA ([] : List Int) ∧ IntsAt W' bA ([] : List Int)) := Lib.hid fun W' h => HIAn.out W' (below_step hb9v h)
  clear HIAn
  have HIB : Hid (∀ W', Below v9.heap.size v9 W' → IntsAt W' aB SB ∧ IntsAt W' bB MB) := Lib.hid fun W' h => HIBn.out W' (below_step hb9v h)
  clear HIBn
  have HIC : Hid (∀ W', Below v9.heap.size v9 W' → IntsAt W' aC SC ∧ IntsAt W' bC MC) := Lib.hid fun W' h => HICn.out W' (below_step hb9v h)
  clear HICn
  have H9v := Lib.hid h9v
  generalize w9.heap.size = qW at *
  clear hv9 h9v hb9v hiW H9
  have hc0 := H9v.out.cell (k := 4) (i := 0) rfl rfl
  have hc1 := H9v.out.cell (k := 4) (i := 1) rfl rfl
  have hc2 := H9v.out.cell (k := 4) (i := 2) rfl rfl
  go_upto_region 18 with fail
  clear hc0 hc1 hc2
  have HK : Hid (∀ w', Below v9.heap.size v9 w' → HH w w' [(w.heap.size, rowO 24 [.slice aS S.length cS, .slice aM M.length cM, .int .i64 L]), (qA, rowO 24 [.slice aA 0 cA, .slice bA 0 dA, .int .i64 0]), (qB, rowO 24 [.slice aB S.length cB, .slice bB M.length dB, .int .i64 L]), (qC, rowO 24 [.slice aC SC.length cC, .slice bC MC.length dC, .int .i64 LC]), (qW, rowO 24 [.slice aW SC.length cW, .slice bW MC.length dW, .int .i64 LC])] []) := Lib.hid fun w' h => H9v.out.call h
  have HKS : Hid (∀ w', Below v9.heap.size v9 w' → w'.cell? ⟨w.heap.size, 0, none⟩ = some (.slice aS S.length cS) ∧ w'.cell? ⟨w.heap.size, 1, none⟩ = some (.slice aM M.length cM) ∧ w'.cell? ⟨w.heap.size, 2, none⟩ = some (.int .i64 L) ∧ w'.cell? ⟨qB, 0, none⟩ = some (.slice aB S.length cB) ∧ w'.cell? ⟨qB, 1, none⟩ = some (.slice bB M.length dB) ∧ w'.cell? ⟨qB, 2, none⟩ = some (.int .i64 L) ∧ w'.cell? ⟨qC, 0, none⟩ = some (.slice aC SC.length cC) ∧ w'.cell? ⟨qC, 1, none⟩ = some (.slice bC MC.length dC) ∧ w'.cell? ⟨qC, 2, none⟩ = some (.int .i64 LC) ∧ w'.cell? ⟨qW, 0, none⟩ = some (.slice aW SC.length cW) ∧ w'.cell? ⟨qW, 1, none⟩ = some (.slice bW MC.length dW) ∧ w'.cell? ⟨qW, 2, none⟩ = some (.int .i64 LC)) := Lib.hid fun w' h => ⟨(HK.out _ h).cell (k := 0) (i := 0) rfl rfl, (HK.out _ h).cell (k := 0) (i := 1) rfl rfl, (HK.out _ h).cell (k := 0) (i := 2) rfl rfl, (HK.out _ h).cell (k := 2) (i := 0) rfl rfl, (HK.out _ h).cell (k := 2) (i := 1) rfl rfl, (HK.out _ h).cell (k := 2) (i := 2) rfl rfl, (HK.out _ h).cell (k := 3) (i := 0) rfl rfl, (HK.out _ h).cell (k := 3) (i := 1) rfl rfl, (HK.out _ h).cell (k := 3) (i := 2) rfl rfl, (HK.out _ h).cell (k := 4) (i := 0) rfl rfl, (HK.out _ h).cell (k := 4) (i := 1) rfl rfl, (HK.out _ h).cell (k := 4) (i := 2) rfl rfl⟩
  have Hr := Lib.hid ((Below.refl v9.heap.size v9).drew)
  go_region_held3 (fun w' => w'.cell? ⟨w.heap.size, 0, none⟩ = some (.slice aS S.length cS) ∧ w'.cell? ⟨w.heap.size, 1, none⟩ = some (.slice aM M.length cM) ∧ w'.cell? ⟨w.heap.size, 2, none⟩ = some (.int .i64 L) ∧ w'.cell? ⟨qB, 0, none⟩ = some (.slice aB S.length cB) ∧ w'.cell? ⟨qB, 1, none⟩ = some (.slice bB M.length dB) ∧ w'.cell? ⟨qB, 2, none⟩ = some (.int .i64 L) ∧ w'.cell? ⟨qC, 0, none⟩ = some (.slice aC SC.length cC) ∧ w'.cell? ⟨qC, 1, none⟩ = some (.slice bC MC.length dC) ∧ w'.cell? ⟨qC, 2, none⟩ = some (.int .i64 LC) ∧ w'.cell? ⟨qW, 0, none⟩ = some (.slice aW SC.length cW) ∧ w'.cell? ⟨qW, 1, none⟩ = some (.slice bW MC.length dW) ∧ w'.cell? ⟨qW, 2, none⟩ = some (.int .i64 LC))
    (first
      | with_reducible exact HKS.out _ Hr.out)
    (first
      | ((with_reducible refine (HRB.out _ (HK.out _ Hr.out).below).mono ?_); rintro e wn ⟨aG, bG, cG, dG, rfl, hiG, hbx⟩; have HGG := Lib.hid hiG; clear hiG; replace Hr := Lib.hid (below_of Hr.out hbx Hr.out.size); clear hbx)
      | ((with_reducible refine (HEB.out aB bB aG bG cB dB cG dG _ (HIB.out _ Hr.out).1 (HIB.out _ Hr.out).2 HGG.out.1 HGG.out.2).mono ?_); rintro e wn ⟨rfl, hbx⟩; clear HGG; replace Hr := Lib.hid (below_of Hr.out hbx Hr.out.size); clear hbx)
      | ((with_reducible refine (HEC.out aC bC aW bW cC dC cW dW _ (HIC.out _ Hr.out).1 (HIC.out _ Hr.out).2 (HIW.out _ Hr.out).1 (HIW.out _ Hr.out).2).mono ?_); rintro e wn ⟨rfl, hbx⟩; replace Hr := Lib.hid (below_of Hr.out hbx Hr.out.size); clear hbx))
  all_goals
    go_wp2_with fail
    go_ret
    exact ⟨rfl, (HK.out _ Hr.out).below⟩
set_option maxRecDepth 100000 in
set_option maxHeartbeats 16000000 in
theorem mpa_big_full (S M : List Int) (L : Int) (aS aM : Option Addr) (cS cM : Nat) (i N : Nat) (w : World) (hf : few6B S M = true) (hv : vldB S M L = true) (hN : compsN S M L = (N : Int)) (hk : N ≤ i) (hq : i < S.length) (hL : 64 < (L + (newL M (pS S i) i : Nat))) (hS : IntsAt w aS S) (hM : IntsAt w aM M) :
    Calls Try.prog 14 #[.agg #[.slice aS S.length cS, .slice aM M.length cM, .int .i64 L], .int .i64 (i : Int)] w fun e w' => e = .returned (.bool true) ∧ Below w.heap.size w w' := by
  have hl : S.length ≤ 14 ∧ M.length ≤ 70 := by
    have := of_decide_eq_true hf
    exact ⟨this.1, this.2⟩
  have hSl : S.length ≤ 1000000000 := by omega
  have hMl : M.length ≤ 1000000000 := by omega
  obtain ⟨W, hW⟩ : ∃ W, W = (w.alloc (.cells #[.slice aS S.length cS, .slice aM M.length cM, .int .i64 L] 24)) := ⟨_, rfl⟩
  have h0 : HH w W [(w.heap.size, rowO 24 [.slice aS S.length cS, .slice aM M.length cM, .int .i64 L])] [] := by rw [hW]; exact ((HH.start w).alloc #[.slice aS S.length cS, .slice aM M.length cM, .int .i64 L] 24 rfl rfl)
  have H0 := Lib.hid h0
  have H42 : Hid (∀ W', Below w.heap.size w W' → Calls Try.prog 42 #[.agg #[.slice aS S.length cS, .slice aM M.length cM, .int .i64 L]] W' fun e w' => e = .returned (.bool true) ∧ Below W'.heap.size W' w') := Lib.hid fun W' hW' => by rw [← hf]; exact few6_any S M L aS aM cS cM W' (by unfold maxLen; omega) (by unfold maxLen; omega)
  have H32 : Hid (∀ W', Below w.heap.size w W' → Calls Try.prog 32 #[.agg #[.slice aS S.length cS, .slice aM M.length cM, .int .i64 L]] W' fun e w' => e = .returned (.bool true) ∧ Below W'.heap.size W' w') := Lib.hid fun W' hW' => by rw [← hv]; exact rvalid_any S M L aS aM cS cM W' hSl hMl (hS.later hW') (hM.later hW')
  have H58 : Hid (∀ W', Below w.heap.size w W' → Calls Try.prog 58 #[.agg #[.slice aS S.length cS, .slice aM M.length cM, .int .i64 L]] W' fun e w' => e = .returned (.int .i64 (N : Int)) ∧ Below W'.heap.size W' w') := Lib.hid fun W' hW' => by rw [← hN]; exact rcomponents_any S M L aS aM cS cM W' hv (hS.later hW') (hM.later hW')
  have hN2 := hN
  rw [compsN, if_pos hv] at hN2
  have HA : Hid (∀ W', Below w.heap.size w W' → Calls Try.prog 56 #[.agg #[.slice aS S.length cS, .slice aM M.length cM, .int .i64 L], .int .i64 (i : Int)] W' (fun e w' => ∃ (a b : Option Addr) (c d : Nat), e = .returned (.tuple #[.agg #[.slice a 0 c, .slice b 0 d, .int .i64 0], .int .i64 2]) ∧ (IntsAt w' a [] ∧ IntsAt w' b []) ∧ Below W'.heap.size W' w')) := Lib.hid fun W' hW' => (rone_out S M L aS aM cS cM (i : Int) W' hv (.inr (by omega)) (hS.later hW') (hM.later hW')).mono fun e w' ⟨a, b, c, d, he, h1, h2, hb⟩ => ⟨a, b, c, d, he, ⟨h1, h2⟩, hb⟩
  have lB1 : (mulS S (swS fun c => decide (c = i))).length = S.length := mulS_len _ _
  have lB2 : (mvL (trn (swB S fun c => decide (c = i))) M).length = M.length := mvL_len _ _
  have HB : Hid (∀ W', Below w.heap.size w W' → Calls Try.prog 52 #[.agg #[.slice aS S.length cS, .slice aM M.length cM, .int .i64 L], .int .i64 (i : Int)] W' (fun e w' => ∃ (a b : Option Addr) (c d : Nat), e = .returned (.tuple #[.agg #[.slice a S.length c, .slice b M.length d, .int .i64 L], .int .i64 0]) ∧ (IntsAt w' a (mulS S (swS fun c => decide (c = i))) ∧ IntsAt w' b (mvL (trn (swB S fun c => decide (c = i))) M)) ∧ Below W'.heap.size W' w')) := Lib.hid fun W' hW' => (switch_yes S M L aS aM cS cM i W' hv hq (hS.later hW') (hM.later hW')).mono fun e w' ⟨a, b, c, d, he, h1, h2, hb⟩ => ⟨a, b, c, d, (by rw [lB1, lB2] at he; exact he), ⟨h1, h2⟩, hb⟩
  have HRW : Hid (∀ W', Below w.heap.size w W' → Calls Try.prog 60 #[.agg #[.slice aS S.length cS, .slice aM M.length cM, .int .i64 L], .int .i64 (i : Int)] W' (fun e w' => ∃ (a b : Option Addr) (c d : Nat), e = .returned (.agg #[.slice a (smS S i).length c, .slice b (smM S M i).length d, .int .i64 (L + (newL M (pS S i) i : Nat))]) ∧ (IntsAt w' a (smS S i) ∧ IntsAt w' b (smM S M i)) ∧ Below W'.heap.size W' w')) := Lib.hid fun W' hW' => (rsmooth_any S M L aS aM cS cM i W' hv hq (hS.later hW') (hM.later hW')).mono fun e w' ⟨a, b, c, d, he, h1, h2, hb⟩ => ⟨a, b, c, d, he, ⟨h1.ints, h2.ints⟩, hb⟩
  have HC : Hid (∀ W', Below w.heap.size w W' → Calls Try.prog 57 #[.agg #[.slice aS S.length cS, .slice aM M.length cM, .int .i64 L], .int .i64 (i : Int)] W' (fun e w' => ∃ (a b : Option Addr) (c d : Nat), e = .returned (.tuple #[.agg #[.slice a 0 c, .slice b 0 d, .int .i64 0], .int .i64 5]) ∧ (IntsAt w' a [] ∧ IntsAt w' b []) ∧ Below W'.heap.size W' w')) := Lib.hid fun W' hW' => smooth_yes S M L aS aM cS cM i W' _ (fun g => absurd g (by omega)) (fun _ e w' ⟨a, b, c, d, he, h1, h2, hb⟩ => ⟨a, b, c, d, he, ⟨h1, h2⟩, hb⟩) hv hq (hS.later hW') (hM.later hW')
  have d1 : decide ((i : Int) < 0) = false := decide_eq_false (by omega)
  have d2 : decide ((N : Int) ≤ (i : Int)) = true := decide_eq_true (by omega)
  have d3 : decide (N ≤ i) = true := decide_eq_true (by omega)
  have d4 : decide ((S.length : Int) ≤ (i : Int)) = false := decide_eq_false (by omega)
  have d5 : decide (S.length ≤ i) = false := decide_eq_false (by omega)
  have d6 : decide (64 < (L + (newL M (pS S i) i : Nat))) = true := decide_eq_true (by omega)
  obtain ⟨SB, hSB⟩ : ∃ x, x = (mulS S (swS fun c => decide (c = i))) := ⟨_, rfl⟩
  rw [← hSB] at HB
  clear hSB
  obtain ⟨MB, hMB⟩ : ∃ x, x = (mvL (trn (swB S fun c => decide (c = i))) M) := ⟨_, rfl⟩
  rw [← hMB] at HB
  clear hMB
  obtain ⟨SC, hSC⟩ : ∃ x, x = smS S i := ⟨_, rfl⟩
  rw [← hSC] at HRW
  obtain ⟨MC, hMC⟩ : ∃ x, x = smM S M i := ⟨_, rfl⟩
  rw [← hMC] at HRW
  obtain ⟨LC, hLC⟩ : ∃ x : Int, x = (L + (newL M (pS S i) i : Nat)) := ⟨_, rfl⟩
  rw [← hLC] at HRW d6
  clear hSC hMC hLC hL
  clear hf hv hSl hMl hS hM hl h0 hN hN2 lB1 lB2
  go_enter Try.func14, Try.ntmps14
  go_wp2_with fail
  rw [← hW]
  clear hW
  refine (awake6_any W).mono ?_
  rintro e w1 ⟨rfl, hb1⟩
  have H1 := Lib.hid (H0.out.call hb1)
  clear hb1 H0
  have hc0_0 := H1.out.cell (k := 0) (i := 0) rfl rfl
  have hc0_1 := H1.out.cell (k := 0) (i := 1) rfl rfl
  have hc0_2 := H1.out.cell (k := 0) (i := 2) rfl rfl
  go_wp2_with fail
  refine (H42.out w1 H1.out.below).mono ?_
  rintro e w2 ⟨rfl, hb2⟩
  have H2 := Lib.hid (H1.out.call hb2)
  clear hb2 H1
  clear hc0_0 hc0_1 hc0_2
  have hc0 := H2.out.cell (k := 0) (i := 0) rfl rfl
  have hc1 := H2.out.cell (k := 0) (i := 1) rfl rfl
  have hc2 := H2.out.cell (k := 0) (i := 2) rfl rfl
  go_wp2_with fail
  refine (HA.out w2 H2.out.below).mono ?_
  rintro e w3 ⟨aA, bA, cA, dA, rfl, hiA, hb3⟩
  have H3 := Lib.hid (H2.out.call hb3)
  clear hb3 H2 hc0 hc1 hc2
  go_upto_region 4 with fail
  obtain ⟨v3, hv3⟩ : ∃ x, x = w3.alloc (.cells #[.slice aA 0 cA, .slice bA 0 dA, .int .i64 0] 24) := ⟨_, rfl⟩
  rw [← hv3]
  have h3v : HH w v3 [(w.heap.size, rowO 24 [.slice aS S.length cS, .slice aM M.length cM, .int .i64 L]), (w3.heap.size, rowO 24 [.slice aA 0 cA, .slice bA 0 dA, .int .i64 0])] [] := by
    rw [hv3]; exact H3.out.alloc #[.slice aA 0 cA, .slice bA 0 dA, .int .i64 0] 24 rfl rfl
  have hb3v : Below w3.heap.size w3 v3 := by rw [hv3]; exact (Below.refl _ _).alloc (Nat.le_refl _) _
  have HIA : Hid (∀ W', Below v3.heap.size v3 W' → IntsAt W' aA ([] : List Int) ∧ IntsAt W' bA ([] : List Int)) := Lib.hid fun W' h => ⟨(hiA.1.later hb3v).later h, (hiA.2.later hb3v).later h⟩
  have H3v := Lib.hid h3v
  generalize w3.heap.size = qA at *
  clear hv3 h3v hb3v hiA H3
  have hc0 := H3v.out.cell (k := 0) (i := 0) rfl rfl
  have hc1 := H3v.out.cell (k := 0) (i := 1) rfl rfl
  have hc2 := H3v.out.cell (k := 0) (i := 2) rfl rfl
  go_wp2_with fail
  refine (HB.out v3 H3v.out.below).mono ?_
  rintro e w4 ⟨aB, bB, cB, dB, rfl, hiB, hb4⟩
  have H4 := Lib.hid (H3v.out.call hb4)
  have HIAn : Hid (∀ W', Below w4.heap.size w4 W' → IntsAt W' aA ([] : List Int) ∧ IntsAt W' bA ([] : List Int)) := Lib.hid fun W' h => HIA.out W' (below_step hb4 h)
  clear HIA
  clear hb4 H3v hc0 hc1 hc2
  go_upto_region 5 with fail
  obtain ⟨v4, hv4⟩ : ∃ x, x = w4.alloc (.cells #[.slice aB S.length cB, .slice bB M.length dB, .int .i64 L] 24) := ⟨_, rfl⟩
  rw [← hv4]
  have h4v : HH w v4 [(w.heap.size, rowO 24 [.slice aS S.length cS, .slice aM M.length cM, .int .i64 L]), (qA, rowO 24 [.slice aA 0 cA, .slice bA 0 dA, .int .i64 0]), (w4.heap.size, rowO 24 [.slice aB S.length cB, .slice bB M.length dB, .int .i64 L])] [] := by
    rw [hv4]; exact H4.out.alloc #[.slice aB S.length cB, .slice bB M.length dB, .int .i64 L] 24 rfl rfl
  have hb4v : Below w4.heap.size w4 v4 := by rw [hv4]; exact (Below.refl _ _).alloc (Nat.le_refl _) _
  have HIB : Hid (∀ W', Below v4.heap.size v4 W' → IntsAt W' aB SB ∧ IntsAt W' bB MB) := Lib.hid fun W' h => ⟨(hiB.1.later hb4v).later h, (hiB.2.later hb4v).later h⟩
  have HIA : Hid (∀ W', Below v4.heap.size v4 W' → IntsAt W' aA ([] : List Int) ∧ IntsAt W' bA ([] : List Int)) := Lib.hid fun W' h => HIAn.out W' (below_step hb4v h)
  clear HIAn
  have H4v := Lib.hid h4v
  generalize w4.heap.size = qB at *
  clear hv4 h4v hb4v hiB H4
  have hc0 := H4v.out.cell (k := 0) (i := 0) rfl rfl
  have hc1 := H4v.out.cell (k := 0) (i := 1) rfl rfl
  have hc2 := H4v.out.cell (k := 0) (i := 2) rfl rfl
  go_wp2_with fail
  refine (HC.out v4 H4v.out.below).mono ?_
  rintro e w5 ⟨aC, bC, cC, dC, rfl, hiC, hb5⟩
  have H5 := Lib.hid (H4v.out.call hb5)
  have HIAn : Hid (∀ W', Below w5.heap.size w5 W' → IntsAt W' aA ([] : List Int) ∧ IntsAt W' bA ([] : List Int)) := Lib.hid fun W' h => HIA.out W' (below_step hb5 h)
  clear HIA
  have HIBn : Hid (∀ W', Below w5.heap.size w5 W' → IntsAt W' aB SB ∧ IntsAt W' bB MB) := Lib.hid fun W' h => HIB.out W' (below_step hb5 h)
  clear HIB
  clear hb5 H4v hc0 hc1 hc2
  go_upto_region 6 with fail
  obtain ⟨v5, hv5⟩ : ∃ x, x = w5.alloc (.cells #[.slice aC 0 cC, .slice bC 0 dC, .int .i64 0] 24) := ⟨_, rfl⟩
  rw [← hv5]
  have h5v : HH w v5 [(w.heap.size, rowO 24 [.slice aS S.length cS, .slice aM M.length cM, .int .i64 L]), (qA, rowO 24 [.slice aA 0 cA, .slice bA 0 dA, .int .i64 0]), (qB, rowO 24 [.slice aB S.length cB, .slice bB M.length dB, .int .i64 L]), (w5.heap.size, rowO 24 [.slice aC 0 cC, .slice bC 0 dC, .int .i64 0])] [] := by
    rw [hv5]; exact H5.out.alloc #[.slice aC 0 cC, .slice bC 0 dC, .int .i64 0] 24 rfl rfl
  have hb5v : Below w5.heap.size w5 v5 := by rw [hv5]; exact (Below.refl _ _).alloc (Nat.le_refl _) _
  have HIC : Hid (∀ W', Below v5.heap.size v5 W' → IntsAt W' aC ([] : List Int) ∧ IntsAt W' bC ([] : List Int)) := Lib.hid fun W' h => ⟨(hiC.1.later hb5v).later h, (hiC.2.later hb5v).later h⟩
  have HIA : Hid (∀ W', Below v5.heap.size v5 W' → IntsAt W' aA ([] : List Int) ∧ IntsAt W' bA ([] : List Int)) := Lib.hid fun W' h => HIAn.out W' (below_step hb5v h)
  clear HIAn
  have HIB : Hid (∀ W', Below v5.heap.size v5 W' → IntsAt W' aB SB ∧ IntsAt W' bB MB) := Lib.hid fun W' h => HIBn.out W' (below_step hb5v h)
  clear HIBn
  have H5v := Lib.hid h5v
  generalize w5.heap.size = qC at *
  clear hv5 h5v hb5v hiC H5
  have hc0 := H5v.out.cell (k := 0) (i := 0) rfl rfl
  have hc1 := H5v.out.cell (k := 0) (i := 1) rfl rfl
  have hc2 := H5v.out.cell (k := 0) (i := 2) rfl rfl
  go_wp2_with fail
  refine (H32.out v5 H5v.out.below).mono ?_
  rintro e w6 ⟨rfl, hb6⟩
  have H6 := Lib.hid (H5v.out.call hb6)
  have HIAn : Hid (∀ W', Below w6.heap.size w6 W' → IntsAt W' aA ([] : List Int) ∧ IntsAt W' bA ([] : List Int)) := Lib.hid fun W' h => HIA.out W' (below_step hb6 h)
  clear HIA
  have HIA := HIAn
  clear HIAn
  have HIBn : Hid (∀ W', Below w6.heap.size w6 W' → IntsAt W' aB SB ∧ IntsAt W' bB MB) := Lib.hid fun W' h => HIB.out W' (below_step hb6 h)
  clear HIB
  have HIB := HIBn
  clear HIBn
  have HICn : Hid (∀ W', Below w6.heap.size w6 W' → IntsAt W' aC ([] : List Int) ∧ IntsAt W' bC ([] : List Int)) := Lib.hid fun W' h => HIC.out W' (below_step hb6 h)
  clear HIC
  have HIC := HICn
  clear HICn
  clear hb6 H5v hc0 hc1 hc2
  have hc0 := H6.out.cell (k := 0) (i := 0) rfl rfl
  have hc1 := H6.out.cell (k := 0) (i := 1) rfl rfl
  have hc2 := H6.out.cell (k := 0) (i := 2) rfl rfl
  go_wp2_with fail
  refine (H58.out w6 H6.out.below).mono ?_
  rintro e w7 ⟨rfl, hb7⟩
  have H7 := Lib.hid (H6.out.call hb7)
  have HIAn : Hid (∀ W', Below w7.heap.size w7 W' → IntsAt W' aA ([] : List Int) ∧ IntsAt W' bA ([] : List Int)) := Lib.hid fun W' h => HIA.out W' (below_step hb7 h)
  clear HIA
  have HIA := HIAn
  clear HIAn
  have HIBn : Hid (∀ W', Below w7.heap.size w7 W' → IntsAt W' aB SB ∧ IntsAt W' bB MB) := Lib.hid fun W' h => HIB.out W' (below_step hb7 h)
  clear HIB
  have HIB := HIBn
  clear HIBn
  have HICn : Hid (∀ W', Below w7.heap.size w7 W' → IntsAt W' aC ([] : List Int) ∧ IntsAt W' bC ([] : List Int)) := Lib.hid fun W' h => HIC.out W' (below_step hb7 h)
  clear HIC
  have HIC := HICn
  clear HICn
  clear hb7 H6 hc0 hc1 hc2
  have hc0 := H7.out.cell (k := 1) (i := 0) rfl rfl
  have hc1 := H7.out.cell (k := 1) (i := 1) rfl rfl
  have hc2 := H7.out.cell (k := 1) (i := 2) rfl rfl
  go_wp2_with fail
  refine (zero_yes aA bA cA dA w7).mono ?_
  rintro e w8 ⟨rfl, hb8⟩
  have H8 := Lib.hid (H7.out.call hb8)
  have HIAn : Hid (∀ W', Below w8.heap.size w8 W' → IntsAt W' aA ([] : List Int) ∧ IntsAt W' bA ([] : List Int)) := Lib.hid fun W' h => HIA.out W' (below_step hb8 h)
  clear HIA
  have HIA := HIAn
  clear HIAn
  have HIBn : Hid (∀ W', Below w8.heap.size w8 W' → IntsAt W' aB SB ∧ IntsAt W' bB MB) := Lib.hid fun W' h => HIB.out W' (below_step hb8 h)
  clear HIB
  have HIB := HIBn
  clear HIBn
  have HICn : Hid (∀ W', Below w8.heap.size w8 W' → IntsAt W' aC ([] : List Int) ∧ IntsAt W' bC ([] : List Int)) := Lib.hid fun W' h => HIC.out W' (below_step hb8 h)
  clear HIC
  have HIC := HICn
  clear HICn
  clear hb8 H7 hc0 hc1 hc2
  have hc0 := H8.out.cell (k := 0) (i := 0) rfl rfl
  have hc1 := H8.out.cell (k := 0) (i := 1) rfl rfl
  have hc2 := H8.out.cell (k := 0) (i := 2) rfl rfl
  go_wp2_with fail
  refine (HRW.out w8 H8.out.below).mono ?_
  rintro e w9 ⟨aW, bW, cW, dW, rfl, hiW, hb9⟩
  have H9 := Lib.hid (H8.out.call hb9)
  have HIAn : Hid (∀ W', Below w9.heap.size w9 W' → IntsAt W' aA ([] : List Int) ∧ IntsAt W' bA ([] : List Int)) := Lib.hid fun W' h => HIA.out W' (below_step hb9 h)
  clear HIA
  have HIBn : Hid (∀ W', Below w9.heap.size w9 W' → IntsAt W' aB SB ∧ IntsAt W' bB MB) := Lib.hid fun W' h => HIB.out W' (below_step hb9 h)
  clear HIB
  have HICn : Hid (∀ W', Below w9.heap.size w9 W' → IntsAt W' aC ([] : List Int) ∧ IntsAt W' bC ([] : List Int)) := Lib.hid fun W' h => HIC.out W' (below_step hb9 h)
  clear HIC
  clear hb9 H8 hc0 hc1 hc2
  go_upto_region 16 with fail
  obtain ⟨v9, hv9⟩ : ∃ x, x = w9.alloc (.cells #[.slice aW SC.length cW, .slice bW MC.length dW, .int .i64 LC] 24) := ⟨_, rfl⟩
  rw [← hv9]
  have h9v : HH w v9 [(w.heap.size, rowO 24 [.slice aS S.length cS, .slice aM M.length cM, .int .i64 L]), (qA, rowO 24 [.slice aA 0 cA, .slice bA 0 dA, .int .i64 0]), (qB, rowO 24 [.slice aB S.length cB, .slice bB M.length dB, .int .i64 L]), (qC, rowO 24 [.slice aC 0 cC, .slice bC 0 dC, .int .i64 0]), (w9.heap.size, rowO 24 [.slice aW SC.length cW, .slice bW MC.length dW, .int .i64 LC])] [] := by
    rw [hv9]; exact H9.out.alloc #[.slice aW SC.length cW, .slice bW MC.length dW, .int .i64 LC] 24 rfl rfl
  have hb9v : Below w9.heap.size w9 v9 := by rw [hv9]; exact (Below.refl _ _).alloc (Nat.le_refl _) _
  have HIW : Hid (∀ W', Below v9.heap.size v9 W' → IntsAt W' aW SC ∧ IntsAt W' bW MC) := Lib.hid fun W' h => ⟨(hiW.1.later hb9v).later h, (hiW.2.later hb9v).later h⟩
  have HIA : Hid (∀ W', Below v9.heap.size v9 W' → IntsAt W' aA ([] : List Int) ∧ IntsAt W' bA ([] : List Int)) := Lib.hid fun W' h => HIAn.out W' (below_step hb9v h)
  clear HIAn
  have HIB : Hid (∀ W', Below v9.heap.size v9 W' → IntsAt W' aB SB ∧ IntsAt W' bB MB) := Lib.hid fun W' h => HIBn.out W' (below_step hb9v h)
  clear HIBn
  have HIC : Hid (∀ W', Below v9.heap.size v9 W' → IntsAt W' aC ([] : List Int) ∧ IntsAt W' bC ([] : List Int)) := Lib.hid fun W' h => HICn.out W' (below_step hb9v h)
  clear HICn
  have H9v := Lib.hid h9v
  generalize w9.heap.size = qW at *
  clear hv9 h9v hb9v hiW H9
  have hc0 := H9v.out.cell (k := 4) (i := 0) rfl rfl
  have hc1 := H9v.out.cell (k := 4) (i := 1) rfl rfl
  have hc2 := H9v.out.cell (k := 4) (i := 2) rfl rfl
  have hx2 := hc2
  clear hc0 hc1 hc2
  have hc0 := H9v.out.cell (k := 3) (i := 0) rfl rfl
  have hc1 := H9v.out.cell (k := 3) (i := 1) rfl rfl
  have hc2 := H9v.out.cell (k := 3) (i := 2) rfl rfl
  go_wp2_with fail
  refine (zero_yes aC bC cC dC v9).mono ?_
  rintro e w10 ⟨rfl, hb10⟩
  have H10 := Lib.hid (H9v.out.call hb10)
  have HIAn : Hid (∀ W', Below w10.heap.size w10 W' → IntsAt W' aA ([] : List Int) ∧ IntsAt W' bA ([] : List Int)) := Lib.hid fun W' h => HIA.out W' (below_step hb10 h)
  clear HIA
  have HIA := HIAn
  clear HIAn
  have HIBn : Hid (∀ W', Below w10.heap.size w10 W' → IntsAt W' aB SB ∧ IntsAt W' bB MB) := Lib.hid fun W' h => HIB.out W' (below_step hb10 h)
  clear HIB
  have HIB := HIBn
  clear HIBn
  have HICn : Hid (∀ W', Below w10.heap.size w10 W' → IntsAt W' aC ([] : List Int) ∧ IntsAt W' bC ([] : List Int)) := Lib.hid fun W' h => HIC.out W' (below_step hb10 h)
  clear HIC
  have HIC := HICn
  clear HICn
  have HIWn : Hid (∀ W', Below w10.heap.size w10 W' → IntsAt W' aW SC ∧ IntsAt W' bW MC) := Lib.hid fun W' h => HIW.out W' (below_step hb10 h)
  clear HIW
  have HIW := HIWn
  clear HIWn
  clear hb10 H9v hc0 hc1 hc2
  go_wp2_with fail
  go_ret
  exact ⟨rfl, H10.out.below⟩
set_option maxRecDepth 100000 in
set_option maxHeartbeats 16000000 in
theorem mpa_in_ok (S M : List Int) (L : Int) (aS aM : Option Addr) (cS cM : Nat) (i N : Nat) (w : World) (hf : few6B S M = true) (hv : vldB S M L = true) (hN : compsN S M L = (N : Int)) (hk : i < N) (hq : i < S.length) (hL : (L + (newL M (pS S i) i : Nat)) ≤ 64) (hS : IntsAt w aS S) (hM : IntsAt w aM M) :
    Calls Try.prog 14 #[.agg #[.slice aS S.length cS, .slice aM M.length cM, .int .i64 L], .int .i64 (i : Int)] w fun e w' => e = .returned (.bool true) ∧ Below w.heap.size w w' := by
  have hl : S.length ≤ 14 ∧ M.length ≤ 70 := by
    have := of_decide_eq_true hf
    exact ⟨this.1, this.2⟩
  have hSl : S.length ≤ 1000000000 := by omega
  have hMl : M.length ≤ 1000000000 := by omega
  obtain ⟨W, hW⟩ : ∃ W, W = (w.alloc (.cells #[.slice aS S.length cS, .slice aM M.length cM, .int .i64 L] 24)) := ⟨_, rfl⟩
  have h0 : HH w W [(w.heap.size, rowO 24 [.slice aS S.length cS, .slice aM M.length cM, .int .i64 L])] [] := by rw [hW]; exact ((HH.start w).alloc #[.slice aS S.length cS, .slice aM M.length cM, .int .i64 L] 24 rfl rfl)
  have H0 := Lib.hid h0
  have H42 : Hid (∀ W', Below w.heap.size w W' → Calls Try.prog 42 #[.agg #[.slice aS S.length cS, .slice aM M.length cM, .int .i64 L]] W' fun e w' => e = .returned (.bool true) ∧ Below W'.heap.size W' w') := Lib.hid fun W' hW' => by rw [← hf]; exact few6_any S M L aS aM cS cM W' (by unfold maxLen; omega) (by unfold maxLen; omega)
  have H32 : Hid (∀ W', Below w.heap.size w W' → Calls Try.prog 32 #[.agg #[.slice aS S.length cS, .slice aM M.length cM, .int .i64 L]] W' fun e w' => e = .returned (.bool true) ∧ Below W'.heap.size W' w') := Lib.hid fun W' hW' => by rw [← hv]; exact rvalid_any S M L aS aM cS cM W' hSl hMl (hS.later hW') (hM.later hW')
  have H58 : Hid (∀ W', Below w.heap.size w W' → Calls Try.prog 58 #[.agg #[.slice aS S.length cS, .slice aM M.length cM, .int .i64 L]] W' fun e w' => e = .returned (.int .i64 (N : Int)) ∧ Below W'.heap.size W' w') := Lib.hid fun W' hW' => by rw [← hN]; exact rcomponents_any S M L aS aM cS cM W' hv (hS.later hW') (hM.later hW')
  have hN2 := hN
  rw [compsN, if_pos hv] at hN2
  have lA1 : (mulS S (r1S S M i)).length = S.length := mulS_len _ _
  have lA2 : (mvL (trn (r1B S M i)) M).length = M.length := mvL_len _ _
  have HA : Hid (∀ W', Below w.heap.size w W' → Calls Try.prog 56 #[.agg #[.slice aS S.length cS, .slice aM M.length cM, .int .i64 L], .int .i64 (i : Int)] W' (fun e w' => ∃ (a b : Option Addr) (c d : Nat), e = .returned (.tuple #[.agg #[.slice a S.length c, .slice b M.length d, .int .i64 L], .int .i64 0]) ∧ (IntsAt w' a (mulS S (r1S S M i)) ∧ IntsAt w' b (mvL (trn (r1B S M i)) M)) ∧ Below W'.heap.size W' w')) := Lib.hid fun W' hW' => (rone_yes S M L aS aM cS cM i W' hv (by omega) (hS.later hW') (hM.later hW')).mono fun e w' ⟨a, b, c, d, he, h1, h2, hb⟩ => ⟨a, b, c, d, (by rw [lA1, lA2] at he; exact he), ⟨h1, h2⟩, hb⟩
  have HRA : Hid (∀ W', Below w.heap.size w W' → Calls Try.prog 59 #[.agg #[.slice aS S.length cS, .slice aM M.length cM, .int .i64 L], .int .i64 (i : Int)] W' (fun e w' => ∃ (a b : Option Addr) (c d : Nat), e = .returned (.agg #[.slice a S.length c, .slice b M.length d, .int .i64 L]) ∧ (IntsAt w' a (mulS S (r1S S M i)) ∧ IntsAt w' b (mvL (trn (r1B S M i)) M)) ∧ Below W'.heap.size W' w')) := Lib.hid fun W' hW' => (rrone_any S M L aS aM cS cM i W' hv (by omega) (hS.later hW') (hM.later hW')).mono fun e w' ⟨a, b, c, d, he, h1, h2, hb⟩ => ⟨a, b, c, d, he, ⟨h1.ints, h2.ints⟩, hb⟩
  have HEA : Hid (∀ (a b a' b' : Option Addr) (c d c' d' : Nat) (W' : World), IntsAt W' a (mulS S (r1S S M i)) → IntsAt W' b (mvL (trn (r1B S M i)) M) → IntsAt W' a' (mulS S (r1S S M i)) → IntsAt W' b' (mvL (trn (r1B S M i)) M) → Calls Try.prog 47 #[.agg #[.slice a S.length c, .slice b M.length d, .int .i64 L], .agg #[.slice a' S.length c', .slice b' M.length d', .int .i64 L]] W' (fun e w' => e = .returned (.bool true) ∧ Below W'.heap.size W' w')) := Lib.hid fun a b a' b' c d c' d' W' i1 i2 i3 i4 => by
    have h := equalR_any (mulS S (r1S S M i)) (mvL (trn (r1B S M i)) M) (mulS S (r1S S M i)) (mvL (trn (r1B S M i)) M) L L a b a' b' c d c' d' W' (by rw [lA1]; omega) (by rw [lA2]; omega) i1 i2 i3 i4
    rw [show eqD (mulS S (r1S S M i)) (mvL (trn (r1B S M i)) M) L (mulS S (r1S S M i)) (mvL (trn (r1B S M i)) M) L = true from decide_eq_true ⟨rfl, rfl, rfl⟩, lA1, lA2] at h
    exact h
  have lB1 : (mulS S (swS fun c => decide (c = i))).length = S.length := mulS_len _ _
  have lB2 : (mvL (trn (swB S fun c => decide (c = i))) M).length = M.length := mvL_len _ _
  have HB : Hid (∀ W', Below w.heap.size w W' → Calls Try.prog 52 #[.agg #[.slice aS S.length cS, .slice aM M.length cM, .int .i64 L], .int .i64 (i : Int)] W' (fun e w' => ∃ (a b : Option Addr) (c d : Nat), e = .returned (.tuple #[.agg #[.slice a S.length c, .slice b M.length d, .int .i64 L], .int .i64 0]) ∧ (IntsAt w' a (mulS S (swS fun c => decide (c = i))) ∧ IntsAt w' b (mvL (trn (swB S fun c => decide (c = i))) M)) ∧ Below W'.heap.size W' w')) := Lib.hid fun W' hW' => (switch_yes S M L aS aM cS cM i W' hv hq (hS.later hW') (hM.later hW')).mono fun e w' ⟨a, b, c, d, he, h1, h2, hb⟩ => ⟨a, b, c, d, (by rw [lB1, lB2] at he; exact he), ⟨h1, h2⟩, hb⟩
  have HRW : Hid (∀ W', Below w.heap.size w W' → Calls Try.prog 60 #[.agg #[.slice aS S.length cS, .slice aM M.length cM, .int .i64 L], .int .i64 (i : Int)] W' (fun e w' => ∃ (a b : Option Addr) (c d : Nat), e = .returned (.agg #[.slice a (smS S i).length c, .slice b (smM S M i).length d, .int .i64 (L + (newL M (pS S i) i : Nat))]) ∧ (IntsAt w' a (smS S i) ∧ IntsAt w' b (smM S M i)) ∧ Below W'.heap.size W' w')) := Lib.hid fun W' hW' => (rsmooth_any S M L aS aM cS cM i W' hv hq (hS.later hW') (hM.later hW')).mono fun e w' ⟨a, b, c, d, he, h1, h2, hb⟩ => ⟨a, b, c, d, he, ⟨h1.ints, h2.ints⟩, hb⟩
  have HRB : Hid (∀ W', Below w.heap.size w W' → Calls Try.prog 61 #[.agg #[.slice aS S.length cS, .slice aM M.length cM, .int .i64 L], .int .i64 (i : Int)] W' (fun e w' => ∃ (a b : Option Addr) (c d : Nat), e = .returned (.agg #[.slice a S.length c, .slice b M.length d, .int .i64 L]) ∧ (IntsAt w' a (mulS S (swS fun c => decide (c = i))) ∧ IntsAt w' b (mvL (trn (swB S fun c => decide (c = i))) M)) ∧ Below W'.heap.size W' w')) := Lib.hid fun W' hW' => (rswitch_some S M L aS aM cS cM i W' hv hq (hS.later hW') (hM.later hW')).mono fun e w' ⟨a, b, c, d, he, h1, h2, hb⟩ => ⟨a, b, c, d, he, ⟨h1.ints, h2.ints⟩, hb⟩
  have HEB : Hid (∀ (a b a' b' : Option Addr) (c d c' d' : Nat) (W' : World), IntsAt W' a (mulS S (swS fun c => decide (c = i))) → IntsAt W' b (mvL (trn (swB S fun c => decide (c = i))) M) → IntsAt W' a' (mulS S (swS fun c => decide (c = i))) → IntsAt W' b' (mvL (trn (swB S fun c => decide (c = i))) M) → Calls Try.prog 47 #[.agg #[.slice a S.length c, .slice b M.length d, .int .i64 L], .agg #[.slice a' S.length c', .slice b' M.length d', .int .i64 L]] W' (fun e w' => e = .returned (.bool true) ∧ Below W'.heap.size W' w')) := Lib.hid fun a b a' b' c d c' d' W' i1 i2 i3 i4 => by
    have h := equalR_any (mulS S (swS fun c => decide (c = i))) (mvL (trn (swB S fun c => decide (c = i))) M) (mulS S (swS fun c => decide (c = i))) (mvL (trn (swB S fun c => decide (c = i))) M) L L a b a' b' c d c' d' W' (by rw [lB1]; omega) (by rw [lB2]; omega) i1 i2 i3 i4
    rw [show eqD (mulS S (swS fun c => decide (c = i))) (mvL (trn (swB S fun c => decide (c = i))) M) L (mulS S (swS fun c => decide (c = i))) (mvL (trn (swB S fun c => decide (c = i))) M) L = true from decide_eq_true ⟨rfl, rfl, rfl⟩, lB1, lB2] at h
    exact h
  have lC1 : (smS S i).length = (smS S i).length := rfl
  have lC2 : (smM S M i).length = (smM S M i).length := rfl
  have lC3 := smS_len S i hq
  have lC4 := smM_len S M i
  have HEC : Hid (∀ (a b a' b' : Option Addr) (c d c' d' : Nat) (W' : World), IntsAt W' a (smS S i) → IntsAt W' b (smM S M i) → IntsAt W' a' (smS S i) → IntsAt W' b' (smM S M i) → Calls Try.prog 47 #[.agg #[.slice a (smS S i).length c, .slice b (smM S M i).length d, .int .i64 (L + (newL M (pS S i) i : Nat))], .agg #[.slice a' (smS S i).length c', .slice b' (smM S M i).length d', .int .i64 (L + (newL M (pS S i) i : Nat))]] W' (fun e w' => e = .returned (.bool true) ∧ Below W'.heap.size W' w')) := Lib.hid fun a b a' b' c d c' d' W' i1 i2 i3 i4 => by
    have h := equalR_any (smS S i) (smM S M i) (smS S i) (smM S M i) (L + (newL M (pS S i) i : Nat)) (L + (newL M (pS S i) i : Nat)) a b a' b' c d c' d' W' (by rw [lC1]; omega) (by rw [lC2]; omega) i1 i2 i3 i4
    rw [show eqD (smS S i) (smM S M i) (L + (newL M (pS S i) i : Nat)) (smS S i) (smM S M i) (L + (newL M (pS S i) i : Nat)) = true from decide_eq_true ⟨rfl, rfl, rfl⟩, lC1, lC2] at h
    exact h
  have HC : Hid (∀ W', Below w.heap.size w W' → Calls Try.prog 57 #[.agg #[.slice aS S.length cS, .slice aM M.length cM, .int .i64 L], .int .i64 (i : Int)] W' (fun e w' => ∃ (a b : Option Addr) (c d : Nat), e = .returned (.tuple #[.agg #[.slice a (smS S i).length c, .slice b (smM S M i).length d, .int .i64 (L + (newL M (pS S i) i : Nat))], .int .i64 0]) ∧ (IntsAt w' a (smS S i) ∧ IntsAt w' b (smM S M i)) ∧ Below W'.heap.size W' w')) := Lib.hid fun W' hW' => smooth_yes S M L aS aM cS cM i W' _ (fun _ e w' ⟨a, b, c, d, he, h1, h2, hb⟩ => ⟨a, b, c, d, he, ⟨h1, h2⟩, hb⟩) (fun g => absurd hL g) hv hq (hS.later hW') (hM.later hW')
  have d1 : decide ((i : Int) < 0) = false := decide_eq_false (by omega)
  have d2 : decide ((N : Int) ≤ (i : Int)) = false := decide_eq_false (by omega)
  have d3 : decide (N ≤ i) = false := decide_eq_false (by omega)
  have d4 : decide ((S.length : Int) ≤ (i : Int)) = false := decide_eq_false (by omega)
  have d5 : decide (S.length ≤ i) = false := decide_eq_false (by omega)
  have d6 : decide (64 < (L + (newL M (pS S i) i : Nat))) = false := decide_eq_false (by omega)
  obtain ⟨SA, hSA⟩ : ∃ x, x = (mulS S (r1S S M i)) := ⟨_, rfl⟩
  rw [← hSA] at HA HRA HEA
  clear hSA
  obtain ⟨MA, hMA⟩ : ∃ x, x = (mvL (trn (r1B S M i)) M) := ⟨_, rfl⟩
  rw [← hMA] at HA HRA HEA
  clear hMA
  obtain ⟨SB, hSB⟩ : ∃ x, x = (mulS S (swS fun c => decide (c = i))) := ⟨_, rfl⟩
  rw [← hSB] at HB HRB HEB
  clear hSB
  obtain ⟨MB, hMB⟩ : ∃ x, x = (mvL (trn (swB S fun c => decide (c = i))) M) := ⟨_, rfl⟩
  rw [← hMB] at HB HRB HEB
  clear hMB
  obtain ⟨SC, hSC⟩ : ∃ x, x = smS S i := ⟨_, rfl⟩
  rw [← hSC] at HRW HC HEC
  obtain ⟨MC, hMC⟩ : ∃ x, x = smM S M i := ⟨_, rfl⟩
  rw [← hMC] at HRW HC HEC
  obtain ⟨LC, hLC⟩ : ∃ x : Int, x = (L + (newL M (pS S i) i : Nat)) := ⟨_, rfl⟩
  rw [← hLC] at HRW HC HEC d6
  clear hSC hMC hLC hL
  clear hf hv hSl hMl hS hM hl h0 hN hN2 lA1 lA2 lB1 lB2 lC1 lC2 lC3 lC4
  go_enter Try.func14, Try.ntmps14
  go_wp2_with fail
  rw [← hW]
  clear hW
  refine (awake6_any W).mono ?_
  rintro e w1 ⟨rfl, hb1⟩
  have H1 := Lib.hid (H0.out.call hb1)
  clear hb1 H0
  have hc0_0 := H1.out.cell (k := 0) (i := 0) rfl rfl
  have hc0_1 := H1.out.cell (k := 0) (i := 1) rfl rfl
  have hc0_2 := H1.out.cell (k := 0) (i := 2) rfl rfl
  go_wp2_with fail
  refine (H42.out w1 H1.out.below).mono ?_
  rintro e w2 ⟨rfl, hb2⟩
  have H2 := Lib.hid (H1.out.call hb2)
  clear hb2 H1
  clear hc0_0 hc0_1 hc0_2
  have hc0 := H2.out.cell (k := 0) (i := 0) rfl rfl
  have hc1 := H2.out.cell (k := 0) (i := 1) rfl rfl
  have hc2 := H2.out.cell (k := 0) (i := 2) rfl rfl
  go_wp2_with fail
  refine (HA.out w2 H2.out.below).mono ?_
  rintro e w3 ⟨aA, bA, cA, dA, rfl, hiA, hb3⟩
  have H3 := Lib.hid (H2.out.call hb3)
  clear hb3 H2 hc0 hc1 hc2
  go_upto_region 4 with fail
  obtain ⟨v3, hv3⟩ : ∃ x, x = w3.alloc (.cells #[.slice aA S.length cA, .slice bA M.length dA, .int .i64 L] 24) := ⟨_, rfl⟩
  rw [← hv3]
  have h3v : HH w v3 [(w.heap.size, rowO 24 [.slice aS S.length cS, .slice aM M.length cM, .int .i64 L]), (w3.heap.size, rowO 24 [.slice aA S.length cA, .slice bA M.length dA, .int .i64 L])] [] := by
    rw [hv3]; exact H3.out.alloc #[.slice aA S.length cA, .slice bA M.length dA, .int .i64 L] 24 rfl rfl
  have hb3v : Below w3.heap.size w3 v3 := by rw [hv3]; exact (Below.refl _ _).alloc (Nat.le_refl _) _
  have HIA : Hid (∀ W', Below v3.heap.size v3 W' → IntsAt W' aA SA ∧ IntsAt W' bA MA) := Lib.hid fun W' h => ⟨(hiA.1.later hb3v).later h, (hiA.2.later hb3v).later h⟩
  have H3v := Lib.hid h3v
  generalize w3.heap.size = qA at *
  clear hv3 h3v hb3v hiA H3
  have hc0 := H3v.out.cell (k := 0) (i := 0) rfl rfl
  have hc1 := H3v.out.cell (k := 0) (i := 1) rfl rfl
  have hc2 := H3v.out.cell (k := 0) (i := 2) rfl rfl
  go_wp2_with fail
  refine (HB.out v3 H3v.out.below).mono ?_
  rintro e w4 ⟨aB, bB, cB, dB, rfl, hiB, hb4⟩
  have H4 := Lib.hid (H3v.out.call hb4)
  have HIAn : Hid (∀ W', Below w4.heap.size w4 W' → IntsAt W' aA SA ∧ IntsAt W' bA MA) := Lib.hid fun W' h => HIA.out W' (below_step hb4 h)
  clear HIA
  clear hb4 H3v hc0 hc1 hc2
  go_upto_region 5 with fail
  obtain ⟨v4, hv4⟩ : ∃ x, x = w4.alloc (.cells #[.slice aB S.length cB, .slice bB M.length dB, .int .i64 L] 24) := ⟨_, rfl⟩
  rw [← hv4]
  have h4v : HH w v4 [(w.heap.size, rowO 24 [.slice aS S.length cS, .slice aM M.length cM, .int .i64 L]), (qA, rowO 24 [.slice aA S.length cA, .slice bA M.length dA, .int .i64 L]), (w4.heap.size, rowO 24 [.slice aB S.length cB, .slice bB M.length dB, .int .i64 L])] [] := by
    rw [hv4]; exact H4.out.alloc #[.slice aB S.length cB, .slice bB M.length dB, .int .i64 L] 24 rfl rfl
  have hb4v : Below w4.heap.size w4 v4 := by rw [hv4]; exact (Below.refl _ _).alloc (Nat.le_refl _) _
  have HIB : Hid (∀ W', Below v4.heap.size v4 W' → IntsAt W' aB SB ∧ IntsAt W' bB MB) := Lib.hid fun W' h => ⟨(hiB.1.later hb4v).later h, (hiB.2.later hb4v).later h⟩
  have HIA : Hid (∀ W', Below v4.heap.size v4 W' → IntsAt W' aA SA ∧ IntsAt W' bA MA) := Lib.hid fun W' h => HIAn.out W' (below_step hb4v h)
  clear HIAn
  have H4v := Lib.hid h4v
  generalize w4.heap.size = qB at *
  clear hv4 h4v hb4v hiB H4
  have hc0 := H4v.out.cell (k := 0) (i := 0) rfl rfl
  have hc1 := H4v.out.cell (k := 0) (i := 1) rfl rfl
  have hc2 := H4v.out.cell (k := 0) (i := 2) rfl rfl
  go_wp2_with fail
  refine (HC.out v4 H4v.out.below).mono ?_
  rintro e w5 ⟨aC, bC, cC, dC, rfl, hiC, hb5⟩
  have H5 := Lib.hid (H4v.out.call hb5)
  have HIAn : Hid (∀ W', Below w5.heap.size w5 W' → IntsAt W' aA SA ∧ IntsAt W' bA MA) := Lib.hid fun W' h => HIA.out W' (below_step hb5 h)
  clear HIA
  have HIBn : Hid (∀ W', Below w5.heap.size w5 W' → IntsAt W' aB SB ∧ IntsAt W' bB MB) := Lib.hid fun W' h => HIB.out W' (below_step hb5 h)
  clear HIB
  clear hb5 H4v hc0 hc1 hc2
  go_upto_region 6 with fail
  obtain ⟨v5, hv5⟩ : ∃ x, x = w5.alloc (.cells #[.slice aC SC.length cC, .slice bC MC.length dC, .int .i64 LC] 24) := ⟨_, rfl⟩
  rw [← hv5]
  have h5v : HH w v5 [(w.heap.size, rowO 24 [.slice aS S.length cS, .slice aM M.length cM, .int .i64 L]), (qA, rowO 24 [.slice aA S.length cA, .slice bA M.length dA, .int .i64 L]), (qB, rowO 24 [.slice aB S.length cB, .slice bB M.length dB, .int .i64 L]), (w5.heap.size, rowO 24 [.slice aC SC.length cC, .slice bC MC.length dC, .int .i64 LC])] [] := by
    rw [hv5]; exact H5.out.alloc #[.slice aC SC.length cC, .slice bC MC.length dC, .int .i64 LC] 24 rfl rfl
  have hb5v : Below w5.heap.size w5 v5 := by rw [hv5]; exact (Below.refl _ _).alloc (Nat.le_refl _) _
  have HIC : Hid (∀ W', Below v5.heap.size v5 W' → IntsAt W' aC SC ∧ IntsAt W' bC MC) := Lib.hid fun W' h => ⟨(hiC.1.later hb5v).later h, (hiC.2.later hb5v).later h⟩
  have HIA : Hid (∀ W', Below v5.heap.size v5 W' → IntsAt W' aA SA ∧ IntsAt W' bA MA) := Lib.hid fun W' h => HIAn.out W' (below_step hb5v h)
  clear HIAn
  have HIB : Hid (∀ W', Below v5.heap.size v5 W' → IntsAt W' aB SB ∧ IntsAt W' bB MB) := Lib.hid fun W' h => HIBn.out W' (below_step hb5v h)
  clear HIBn
  have H5v := Lib.hid h5v
  generalize w5.heap.size = qC at *
  clear hv5 h5v hb5v hiC H5
  have hc0 := H5v.out.cell (k := 0) (i := 0) rfl rfl
  have hc1 := H5v.out.cell (k := 0) (i := 1) rfl rfl
  have hc2 := H5v.out.cell (k := 0) (i := 2) rfl rfl
  go_wp2_with fail
  refine (H32.out v5 H5v.out.below).mono ?_
  rintro e w6 ⟨rfl, hb6⟩
  have H6 := Lib.hid (H5v.out.call hb6)
  have HIAn : Hid (∀ W', Below w6.heap.size w6 W' → IntsAt W' aA SA ∧ IntsAt W' bA MA) := Lib.hid fun W' h => HIA.out W' (below_step hb6 h)
  clear HIA
  have HIA := HIAn
  clear HIAn
  have HIBn : Hid (∀ W', Below w6.heap.size w6 W' → IntsAt W' aB SB ∧ IntsAt W' bB MB) := Lib.hid fun W' h => HIB.out W' (below_step hb6 h)
  clear HIB
  have HIB := HIBn
  clear HIBn
  have HICn : Hid (∀ W', Below w6.heap.size w6 W' → IntsAt W' aC SC ∧ IntsAt W' bC MC) := Lib.hid fun W' h => HIC.out W' (below_step hb6 h)
  clear HIC
  have HIC := HICn
  clear HICn
  clear hb6 H5v hc0 hc1 hc2
  have hc0 := H6.out.cell (k := 0) (i := 0) rfl rfl
  have hc1 := H6.out.cell (k := 0) (i := 1) rfl rfl
  have hc2 := H6.out.cell (k := 0) (i := 2) rfl rfl
  go_wp2_with fail
  refine (H58.out w6 H6.out.below).mono ?_
  rintro e w7 ⟨rfl, hb7⟩
  have H7 := Lib.hid (H6.out.call hb7)
  have HIAn : Hid (∀ W', Below w7.heap.size w7 W' → IntsAt W' aA SA ∧ IntsAt W' bA MA) := Lib.hid fun W' h => HIA.out W' (below_step hb7 h)
  clear HIA
  have HIA := HIAn
  clear HIAn
  have HIBn : Hid (∀ W', Below w7.heap.size w7 W' → IntsAt W' aB SB ∧ IntsAt W' bB MB) := Lib.hid fun W' h => HIB.out W' (below_step hb7 h)
  clear HIB
  have HIB := HIBn
  clear HIBn
  have HICn : Hid (∀ W', Below w7.heap.size w7 W' → IntsAt W' aC SC ∧ IntsAt W' bC MC) := Lib.hid fun W' h => HIC.out W' (below_step hb7 h)
  clear HIC
  have HIC := HICn
  clear HICn
  clear hb7 H6 hc0 hc1 hc2
  have HK : Hid (∀ w', Below w7.heap.size w7 w' → HH w w' [(w.heap.size, rowO 24 [.slice aS S.length cS, .slice aM M.length cM, .int .i64 L]), (qA, rowO 24 [.slice aA S.length cA, .slice bA M.length dA, .int .i64 L]), (qB, rowO 24 [.slice aB S.length cB, .slice bB M.length dB, .int .i64 L]), (qC, rowO 24 [.slice aC SC.length cC, .slice bC MC.length dC, .int .i64 LC])] []) := Lib.hid fun w' h => H7.out.call h
  have HKS : Hid (∀ w', Below w7.heap.size w7 w' → w'.cell? ⟨w.heap.size, 0, none⟩ = some (.slice aS S.length cS) ∧ w'.cell? ⟨w.heap.size, 1, none⟩ = some (.slice aM M.length cM) ∧ w'.cell? ⟨w.heap.size, 2, none⟩ = some (.int .i64 L) ∧ w'.cell? ⟨qA, 0, none⟩ = some (.slice aA S.length cA) ∧ w'.cell? ⟨qA, 1, none⟩ = some (.slice bA M.length dA) ∧ w'.cell? ⟨qA, 2, none⟩ = some (.int .i64 L)) := Lib.hid fun w' h => ⟨(HK.out _ h).cell (k := 0) (i := 0) rfl rfl, (HK.out _ h).cell (k := 0) (i := 1) rfl rfl, (HK.out _ h).cell (k := 0) (i := 2) rfl rfl, (HK.out _ h).cell (k := 1) (i := 0) rfl rfl, (HK.out _ h).cell (k := 1) (i := 1) rfl rfl, (HK.out _ h).cell (k := 1) (i := 2) rfl rfl⟩
  have Hr := Lib.hid ((Below.refl w7.heap.size w7).drew)
  go_wp2_with fail
  go_region_held3 (fun w' => w'.cell? ⟨w.heap.size, 0, none⟩ = some (.slice aS S.length cS) ∧ w'.cell? ⟨w.heap.size, 1, none⟩ = some (.slice aM M.length cM) ∧ w'.cell? ⟨w.heap.size, 2, none⟩ = some (.int .i64 L) ∧ w'.cell? ⟨qA, 0, none⟩ = some (.slice aA S.length cA) ∧ w'.cell? ⟨qA, 1, none⟩ = some (.slice bA M.length dA) ∧ w'.cell? ⟨qA, 2, none⟩ = some (.int .i64 L))
    (first
      | with_reducible exact HKS.out _ Hr.out)
    (first
      | ((with_reducible refine (HRA.out _ (HK.out _ Hr.out).below).mono ?_); rintro e wn ⟨aG, bG, cG, dG, rfl, hiG, hbx⟩; have HGG := Lib.hid hiG; clear hiG; replace Hr := Lib.hid (below_of Hr.out hbx Hr.out.size); clear hbx)
      | ((with_reducible refine (HEA.out aA bA aG bG cA dA cG dG _ (HIA.out _ Hr.out).1 (HIA.out _ Hr.out).2 HGG.out.1 HGG.out.2).mono ?_); rintro e wn ⟨rfl, hbx⟩; clear HGG; replace Hr := Lib.hid (below_of Hr.out hbx Hr.out.size); clear hbx))
  have H8 := Lib.hid (HK.out _ Hr.out)
  have HIAn : Hid (∀ W', Below wn.heap.size wn W' → IntsAt W' aA SA ∧ IntsAt W' bA MA) := Lib.hid fun W' h => HIA.out W' (below_of Hr.out h Hr.out.size)
  clear HIA
  have HIA := HIAn
  clear HIAn
  have HIBn : Hid (∀ W', Below wn.heap.size wn W' → IntsAt W' aB SB ∧ IntsAt W' bB MB) := Lib.hid fun W' h => HIB.out W' (below_of Hr.out h Hr.out.size)
  clear HIB
  have HIB := HIBn
  clear HIBn
  have HICn : Hid (∀ W', Below wn.heap.size wn W' → IntsAt W' aC SC ∧ IntsAt W' bC MC) := Lib.hid fun W' h => HIC.out W' (below_of Hr.out h Hr.out.size)
  clear HIC
  have HIC := HICn
  clear HICn
  clear HK HKS Hr H7
  obtain ⟨w8, rfl⟩ : ∃ x, x = wn := ⟨_, rfl⟩
  have hc0 := H8.out.cell (k := 0) (i := 0) rfl rfl
  have hc1 := H8.out.cell (k := 0) (i := 1) rfl rfl
  have hc2 := H8.out.cell (k := 0) (i := 2) rfl rfl
  go_wp2_with fail
  refine (HRW.out w8 H8.out.below).mono ?_
  rintro e w9 ⟨aW, bW, cW, dW, rfl, hiW, hb9⟩
  have H9 := Lib.hid (H8.out.call hb9)
  have HIAn : Hid (∀ W', Below w9.heap.size w9 W' → IntsAt W' aA SA ∧ IntsAt W' bA MA) := Lib.hid fun W' h => HIA.out W' (below_step hb9 h)
  clear HIA
  have HIBn : Hid (∀ W', Below w9.heap.size w9 W' → IntsAt W' aB SB ∧ IntsAt W' bB MB) := Lib.hid fun W' h => HIB.out W' (below_step hb9 h)
  clear HIB
  have HICn : Hid (∀ W', Below w9.heap.size w9 W' → IntsAt W' aC SC ∧ IntsAt W' bC MC) := Lib.hid fun W' h => HIC.out W' (below_step hb9 h)
  clear HIC
  clear hb9 H8 hc0 hc1 hc2
  go_upto_region 16 with fail
  obtain ⟨v9, hv9⟩ : ∃ x, x = w9.alloc (.cells #[.slice aW SC.length cW, .slice bW MC.length dW, .int .i64 LC] 24) := ⟨_, rfl⟩
  rw [← hv9]
  have h9v : HH w v9 [(w.heap.size, rowO 24 [.slice aS S.length cS, .slice aM M.length cM, .int .i64 L]), (qA, rowO 24 [.slice aA S.length cA, .slice bA M.length dA, .int .i64 L]), (qB, rowO 24 [.slice aB S.length cB, .slice bB M.length dB, .int .i64 L]), (qC, rowO 24 [.slice aC SC.length cC, .slice bC MC.length dC, .int .i64 LC]), (w9.heap.size, rowO 24 [.slice aW SC.length cW, .slice bW MC.length dW, .int .i64 LC])] [] := by
    rw [hv9]; exact H9.out.alloc #[.slice aW SC.length cW, .slice bW MC.length dW, .int .i64 LC] 24 rfl rfl
  have hb9v : Below w9.heap.size w9 v9 := by rw [hv9]; exact (Below.refl _ _).alloc (Nat.le_refl _) _
  have HIW : Hid (∀ W', Below v9.heap.size v9 W' → IntsAt W' aW SC ∧ IntsAt W' bW MC) := Lib.hid fun W' h => ⟨(hiW.1.later hb9v).later h, (hiW.2.later hb9v).later h⟩
  have HIA : Hid (∀ W', Below v9.heap.size v9 W' → IntsAt W' aA SA ∧ IntsAt W' bA MA) := Lib.hid fun W' h => HIAn.out W' (below_step hb9v h)
  clear HIAn
  have HIB : Hid (∀ W', Below v9.heap.size v9 W' → IntsAt W' aB SB ∧ IntsAt W' bB MB) := Lib.hid fun W' h => HIBn.out W' (below_step hb9v h)
  clear HIBn
  have HIC : Hid (∀ W', Below v9.heap.size v9 W' → IntsAt W' aC SC ∧ IntsAt W' bC MC) := Lib.hid fun W' h => HICn.out W' (below_step hb9v h)
  clear HICn
  have H9v := Lib.hid h9v
  generalize w9.heap.size = qW at *
  clear hv9 h9v hb9v hiW H9
  have hc0 := H9v.out.cell (k := 4) (i := 0) rfl rfl
  have hc1 := H9v.out.cell (k := 4) (i := 1) rfl rfl
  have hc2 := H9v.out.cell (k := 4) (i := 2) rfl rfl
  go_upto_region 18 with fail
  clear hc0 hc1 hc2
  have HK : Hid (∀ w', Below v9.heap.size v9 w' → HH w w' [(w.heap.size, rowO 24 [.slice aS S.length cS, .slice aM M.length cM, .int .i64 L]), (qA, rowO 24 [.slice aA S.length cA, .slice bA M.length dA, .int .i64 L]), (qB, rowO 24 [.slice aB S.length cB, .slice bB M.length dB, .int .i64 L]), (qC, rowO 24 [.slice aC SC.length cC, .slice bC MC.length dC, .int .i64 LC]), (qW, rowO 24 [.slice aW SC.length cW, .slice bW MC.length dW, .int .i64 LC])] []) := Lib.hid fun w' h => H9v.out.call h
  have HKS : Hid (∀ w', Below v9.heap.size v9 w' → w'.cell? ⟨w.heap.size, 0, none⟩ = some (.slice aS S.length cS) ∧ w'.cell? ⟨w.heap.size, 1, none⟩ = some (.slice aM M.length cM) ∧ w'.cell? ⟨w.heap.size, 2, none⟩ = some (.int .i64 L) ∧ w'.cell? ⟨qB, 0, none⟩ = some (.slice aB S.length cB) ∧ w'.cell? ⟨qB, 1, none⟩ = some (.slice bB M.length dB) ∧ w'.cell? ⟨qB, 2, none⟩ = some (.int .i64 L) ∧ w'.cell? ⟨qC, 0, none⟩ = some (.slice aC SC.length cC) ∧ w'.cell? ⟨qC, 1, none⟩ = some (.slice bC MC.length dC) ∧ w'.cell? ⟨qC, 2, none⟩ = some (.int .i64 LC) ∧ w'.cell? ⟨qW, 0, none⟩ = some (.slice aW SC.length cW) ∧ w'.cell? ⟨qW, 1, none⟩ = some (.slice bW MC.length dW) ∧ w'.cell? ⟨qW, 2, none⟩ = some (.int .i64 LC)) := Lib.hid fun w' h => ⟨(HK.out _ h).cell (k := 0) (i := 0) rfl rfl, (HK.out _ h).cell (k := 0) (i := 1) rfl rfl, (HK.out _ h).cell (k := 0) (i := 2) rfl rfl, (HK.out _ h).cell (k := 2) (i := 0) rfl rfl, (HK.out _ h).cell (k := 2) (i := 1) rfl rfl, (HK.out _ h).cell (k := 2) (i := 2) rfl rfl, (HK.out _ h).cell (k := 3) (i := 0) rfl rfl, (HK.out _ h).cell (k := 3) (i := 1) rfl rfl, (HK.out _ h).cell (k := 3) (i := 2) rfl rfl, (HK.out _ h).cell (k := 4) (i := 0) rfl rfl, (HK.out _ h).cell (k := 4) (i := 1) rfl rfl, (HK.out _ h).cell (k := 4) (i := 2) rfl rfl⟩
  have Hr := Lib.hid ((Below.refl v9.heap.size v9).drew)
  go_region_held3 (fun w' => w'.cell? ⟨w.heap.size, 0, none⟩ = some (.slice aS S.length cS) ∧ w'.cell? ⟨w.heap.size, 1, none⟩ = some (.slice aM M.length cM) ∧ w'.cell? ⟨w.heap.size, 2, none⟩ = some (.int .i64 L) ∧ w'.cell? ⟨qB, 0, none⟩ = some (.slice aB S.length cB) ∧ w'.cell? ⟨qB, 1, none⟩ = some (.slice bB M.length dB) ∧ w'.cell? ⟨qB, 2, none⟩ = some (.int .i64 L) ∧ w'.cell? ⟨qC, 0, none⟩ = some (.slice aC SC.length cC) ∧ w'.cell? ⟨qC, 1, none⟩ = some (.slice bC MC.length dC) ∧ w'.cell? ⟨qC, 2, none⟩ = some (.int .i64 LC) ∧ w'.cell? ⟨qW, 0, none⟩ = some (.slice aW SC.length cW) ∧ w'.cell? ⟨qW, 1, none⟩ = some (.slice bW MC.length dW) ∧ w'.cell? ⟨qW, 2, none⟩ = some (.int .i64 LC))
    (first
      | with_reducible exact HKS.out _ Hr.out)
    (first
      | ((with_reducible refine (HRB.out _ (HK.out _ Hr.out).below).mono ?_); rintro e wn ⟨aG, bG, cG, dG, rfl, hiG, hbx⟩; have HGG := Lib.hid hiG; clear hiG; replace Hr := Lib.hid (below_of Hr.out hbx Hr.out.size); clear hbx)
      | ((with_reducible refine (HEB.out aB bB aG bG cB dB cG dG _ (HIB.out _ Hr.out).1 (HIB.out _ Hr.out).2 HGG.out.1 HGG.out.2).mono ?_); rintro e wn ⟨rfl, hbx⟩; clear HGG; replace Hr := Lib.hid (below_of Hr.out hbx Hr.out.size); clear hbx)
      | ((with_reducible refine (HEC.out aC bC aW bW cC dC cW dW _ (HIC.out _ Hr.out).1 (HIC.out _ Hr.out).2 (HIW.out _ Hr.out).1 (HIW.out _ Hr.out).2).mono ?_); rintro e wn ⟨rfl, hbx⟩; replace Hr := Lib.hid (below_of Hr.out hbx Hr.out.size); clear hbx))
  all_goals
    go_wp2_with fail
    go_ret
    exact ⟨rfl, (HK.out _ Hr.out).below⟩
set_option maxRecDepth 100000 in
set_option maxHeartbeats 16000000 in
theorem mpa_in_full (S M : List Int) (L : Int) (aS aM : Option Addr) (cS cM : Nat) (i N : Nat) (w : World) (hf : few6B S M = true) (hv : vldB S M L = true) (hN : compsN S M L = (N : Int)) (hk : i < N) (hq : i < S.length) (hL : 64 < (L + (newL M (pS S i) i : Nat))) (hS : IntsAt w aS S) (hM : IntsAt w aM M) :
    Calls Try.prog 14 #[.agg #[.slice aS S.length cS, .slice aM M.length cM, .int .i64 L], .int .i64 (i : Int)] w fun e w' => e = .returned (.bool true) ∧ Below w.heap.size w w' := by
  have hl : S.length ≤ 14 ∧ M.length ≤ 70 := by
    have := of_decide_eq_true hf
    exact ⟨this.1, this.2⟩
  have hSl : S.length ≤ 1000000000 := by omega
  have hMl : M.length ≤ 1000000000 := by omega
  obtain ⟨W, hW⟩ : ∃ W, W = (w.alloc (.cells #[.slice aS S.length cS, .slice aM M.length cM, .int .i64 L] 24)) := ⟨_, rfl⟩
  have h0 : HH w W [(w.heap.size, rowO 24 [.slice aS S.length cS, .slice aM M.length cM, .int .i64 L])] [] := by rw [hW]; exact ((HH.start w).alloc #[.slice aS S.length cS, .slice aM M.length cM, .int .i64 L] 24 rfl rfl)
  have H0 := Lib.hid h0
  have H42 : Hid (∀ W', Below w.heap.size w W' → Calls Try.prog 42 #[.agg #[.slice aS S.length cS, .slice aM M.length cM, .int .i64 L]] W' fun e w' => e = .returned (.bool true) ∧ Below W'.heap.size W' w') := Lib.hid fun W' hW' => by rw [← hf]; exact few6_any S M L aS aM cS cM W' (by unfold maxLen; omega) (by unfold maxLen; omega)
  have H32 : Hid (∀ W', Below w.heap.size w W' → Calls Try.prog 32 #[.agg #[.slice aS S.length cS, .slice aM M.length cM, .int .i64 L]] W' fun e w' => e = .returned (.bool true) ∧ Below W'.heap.size W' w') := Lib.hid fun W' hW' => by rw [← hv]; exact rvalid_any S M L aS aM cS cM W' hSl hMl (hS.later hW') (hM.later hW')
  have H58 : Hid (∀ W', Below w.heap.size w W' → Calls Try.prog 58 #[.agg #[.slice aS S.length cS, .slice aM M.length cM, .int .i64 L]] W' fun e w' => e = .returned (.int .i64 (N : Int)) ∧ Below W'.heap.size W' w') := Lib.hid fun W' hW' => by rw [← hN]; exact rcomponents_any S M L aS aM cS cM W' hv (hS.later hW') (hM.later hW')
  have hN2 := hN
  rw [compsN, if_pos hv] at hN2
  have lA1 : (mulS S (r1S S M i)).length = S.length := mulS_len _ _
  have lA2 : (mvL (trn (r1B S M i)) M).length = M.length := mvL_len _ _
  have HA : Hid (∀ W', Below w.heap.size w W' → Calls Try.prog 56 #[.agg #[.slice aS S.length cS, .slice aM M.length cM, .int .i64 L], .int .i64 (i : Int)] W' (fun e w' => ∃ (a b : Option Addr) (c d : Nat), e = .returned (.tuple #[.agg #[.slice a S.length c, .slice b M.length d, .int .i64 L], .int .i64 0]) ∧ (IntsAt w' a (mulS S (r1S S M i)) ∧ IntsAt w' b (mvL (trn (r1B S M i)) M)) ∧ Below W'.heap.size W' w')) := Lib.hid fun W' hW' => (rone_yes S M L aS aM cS cM i W' hv (by omega) (hS.later hW') (hM.later hW')).mono fun e w' ⟨a, b, c, d, he, h1, h2, hb⟩ => ⟨a, b, c, d, (by rw [lA1, lA2] at he; exact he), ⟨h1, h2⟩, hb⟩
  have HRA : Hid (∀ W', Below w.heap.size w W' → Calls Try.prog 59 #[.agg #[.slice aS S.length cS, .slice aM M.length cM, .int .i64 L], .int .i64 (i : Int)] W' (fun e w' => ∃ (a b : Option Addr) (c d : Nat), e = .returned (.agg #[.slice a S.length c, .slice b M.length d, .int .i64 L]) ∧ (IntsAt w' a (mulS S (r1S S M i)) ∧ IntsAt w' b (mvL (trn (r1B S M i)) M)) ∧ Below W'.heap.size W' w')) := Lib.hid fun W' hW' => (rrone_any S M L aS aM cS cM i W' hv (by omega) (hS.later hW') (hM.later hW')).mono fun e w' ⟨a, b, c, d, he, h1, h2, hb⟩ => ⟨a, b, c, d, he, ⟨h1.ints, h2.ints⟩, hb⟩
  have HEA : Hid (∀ (a b a' b' : Option Addr) (c d c' d' : Nat) (W' : World), IntsAt W' a (mulS S (r1S S M i)) → IntsAt W' b (mvL (trn (r1B S M i)) M) → IntsAt W' a' (mulS S (r1S S M i)) → IntsAt W' b' (mvL (trn (r1B S M i)) M) → Calls Try.prog 47 #[.agg #[.slice a S.length c, .slice b M.length d, .int .i64 L], .agg #[.slice a' S.length c', .slice b' M.length d', .int .i64 L]] W' (fun e w' => e = .returned (.bool true) ∧ Below W'.heap.size W' w')) := Lib.hid fun a b a' b' c d c' d' W' i1 i2 i3 i4 => by
    have h := equalR_any (mulS S (r1S S M i)) (mvL (trn (r1B S M i)) M) (mulS S (r1S S M i)) (mvL (trn (r1B S M i)) M) L L a b a' b' c d c' d' W' (by rw [lA1]; omega) (by rw [lA2]; omega) i1 i2 i3 i4
    rw [show eqD (mulS S (r1S S M i)) (mvL (trn (r1B S M i)) M) L (mulS S (r1S S M i)) (mvL (trn (r1B S M i)) M) L = true from decide_eq_true ⟨rfl, rfl, rfl⟩, lA1, lA2] at h
    exact h
  have lB1 : (mulS S (swS fun c => decide (c = i))).length = S.length := mulS_len _ _
  have lB2 : (mvL (trn (swB S fun c => decide (c = i))) M).length = M.length := mvL_len _ _
  have HB : Hid (∀ W', Below w.heap.size w W' → Calls Try.prog 52 #[.agg #[.slice aS S.length cS, .slice aM M.length cM, .int .i64 L], .int .i64 (i : Int)] W' (fun e w' => ∃ (a b : Option Addr) (c d : Nat), e = .returned (.tuple #[.agg #[.slice a S.length c, .slice b M.length d, .int .i64 L], .int .i64 0]) ∧ (IntsAt w' a (mulS S (swS fun c => decide (c = i))) ∧ IntsAt w' b (mvL (trn (swB S fun c => decide (c = i))) M)) ∧ Below W'.heap.size W' w')) := Lib.hid fun W' hW' => (switch_yes S M L aS aM cS cM i W' hv hq (hS.later hW') (hM.later hW')).mono fun e w' ⟨a, b, c, d, he, h1, h2, hb⟩ => ⟨a, b, c, d, (by rw [lB1, lB2] at he; exact he), ⟨h1, h2⟩, hb⟩
  have HRW : Hid (∀ W', Below w.heap.size w W' → Calls Try.prog 60 #[.agg #[.slice aS S.length cS, .slice aM M.length cM, .int .i64 L], .int .i64 (i : Int)] W' (fun e w' => ∃ (a b : Option Addr) (c d : Nat), e = .returned (.agg #[.slice a (smS S i).length c, .slice b (smM S M i).length d, .int .i64 (L + (newL M (pS S i) i : Nat))]) ∧ (IntsAt w' a (smS S i) ∧ IntsAt w' b (smM S M i)) ∧ Below W'.heap.size W' w')) := Lib.hid fun W' hW' => (rsmooth_any S M L aS aM cS cM i W' hv hq (hS.later hW') (hM.later hW')).mono fun e w' ⟨a, b, c, d, he, h1, h2, hb⟩ => ⟨a, b, c, d, he, ⟨h1.ints, h2.ints⟩, hb⟩
  have HC : Hid (∀ W', Below w.heap.size w W' → Calls Try.prog 57 #[.agg #[.slice aS S.length cS, .slice aM M.length cM, .int .i64 L], .int .i64 (i : Int)] W' (fun e w' => ∃ (a b : Option Addr) (c d : Nat), e = .returned (.tuple #[.agg #[.slice a 0 c, .slice b 0 d, .int .i64 0], .int .i64 5]) ∧ (IntsAt w' a [] ∧ IntsAt w' b []) ∧ Below W'.heap.size W' w')) := Lib.hid fun W' hW' => smooth_yes S M L aS aM cS cM i W' _ (fun g => absurd g (by omega)) (fun _ e w' ⟨a, b, c, d, he, h1, h2, hb⟩ => ⟨a, b, c, d, he, ⟨h1, h2⟩, hb⟩) hv hq (hS.later hW') (hM.later hW')
  have d1 : decide ((i : Int) < 0) = false := decide_eq_false (by omega)
  have d2 : decide ((N : Int) ≤ (i : Int)) = false := decide_eq_false (by omega)
  have d3 : decide (N ≤ i) = false := decide_eq_false (by omega)
  have d4 : decide ((S.length : Int) ≤ (i : Int)) = false := decide_eq_false (by omega)
  have d5 : decide (S.length ≤ i) = false := decide_eq_false (by omega)
  have d6 : decide (64 < (L + (newL M (pS S i) i : Nat))) = true := decide_eq_true (by omega)
  obtain ⟨SA, hSA⟩ : ∃ x, x = (mulS S (r1S S M i)) := ⟨_, rfl⟩
  rw [← hSA] at HA HRA HEA
  clear hSA
  obtain ⟨MA, hMA⟩ : ∃ x, x = (mvL (trn (r1B S M i)) M) := ⟨_, rfl⟩
  rw [← hMA] at HA HRA HEA
  clear hMA
  obtain ⟨SB, hSB⟩ : ∃ x, x = (mulS S (swS fun c => decide (c = i))) := ⟨_, rfl⟩
  rw [← hSB] at HB
  clear hSB
  obtain ⟨MB, hMB⟩ : ∃ x, x = (mvL (trn (swB S fun c => decide (c = i))) M) := ⟨_, rfl⟩
  rw [← hMB] at HB
  clear hMB
  obtain ⟨SC, hSC⟩ : ∃ x, x = smS S i := ⟨_, rfl⟩
  rw [← hSC] at HRW
  obtain ⟨MC, hMC⟩ : ∃ x, x = smM S M i := ⟨_, rfl⟩
  rw [← hMC] at HRW
  obtain ⟨LC, hLC⟩ : ∃ x : Int, x = (L + (newL M (pS S i) i : Nat)) := ⟨_, rfl⟩
  rw [← hLC] at HRW d6
  clear hSC hMC hLC hL
  clear hf hv hSl hMl hS hM hl h0 hN hN2 lA1 lA2 lB1 lB2
  go_enter Try.func14, Try.ntmps14
  go_wp2_with fail
  rw [← hW]
  clear hW
  refine (awake6_any W).mono ?_
  rintro e w1 ⟨rfl, hb1⟩
  have H1 := Lib.hid (H0.out.call hb1)
  clear hb1 H0
  have hc0_0 := H1.out.cell (k := 0) (i := 0) rfl rfl
  have hc0_1 := H1.out.cell (k := 0) (i := 1) rfl rfl
  have hc0_2 := H1.out.cell (k := 0) (i := 2) rfl rfl
  go_wp2_with fail
  refine (H42.out w1 H1.out.below).mono ?_
  rintro e w2 ⟨rfl, hb2⟩
  have H2 := Lib.hid (H1.out.call hb2)
  clear hb2 H1
  clear hc0_0 hc0_1 hc0_2
  have hc0 := H2.out.cell (k := 0) (i := 0) rfl rfl
  have hc1 := H2.out.cell (k := 0) (i := 1) rfl rfl
  have hc2 := H2.out.cell (k := 0) (i := 2) rfl rfl
  go_wp2_with fail
  refine (HA.out w2 H2.out.below).mono ?_
  rintro e w3 ⟨aA, bA, cA, dA, rfl, hiA, hb3⟩
  have H3 := Lib.hid (H2.out.call hb3)
  clear hb3 H2 hc0 hc1 hc2
  go_upto_region 4 with fail
  obtain ⟨v3, hv3⟩ : ∃ x, x = w3.alloc (.cells #[.slice aA S.length cA, .slice bA M.length dA, .int .i64 L] 24) := ⟨_, rfl⟩
  rw [← hv3]
  have h3v : HH w v3 [(w.heap.size, rowO 24 [.slice aS S.length cS, .slice aM M.length cM, .int .i64 L]), (w3.heap.size, rowO 24 [.slice aA S.length cA, .slice bA M.length dA, .int .i64 L])] [] := by
    rw [hv3]; exact H3.out.alloc #[.slice aA S.length cA, .slice bA M.length dA, .int .i64 L] 24 rfl rfl
  have hb3v : Below w3.heap.size w3 v3 := by rw [hv3]; exact (Below.refl _ _).alloc (Nat.le_refl _) _
  have HIA : Hid (∀ W', Below v3.heap.size v3 W' → IntsAt W' aA SA ∧ IntsAt W' bA MA) := Lib.hid fun W' h => ⟨(hiA.1.later hb3v).later h, (hiA.2.later hb3v).later h⟩
  have H3v := Lib.hid h3v
  generalize w3.heap.size = qA at *
  clear hv3 h3v hb3v hiA H3
  have hc0 := H3v.out.cell (k := 0) (i := 0) rfl rfl
  have hc1 := H3v.out.cell (k := 0) (i := 1) rfl rfl
  have hc2 := H3v.out.cell (k := 0) (i := 2) rfl rfl
  go_wp2_with fail
  refine (HB.out v3 H3v.out.below).mono ?_
  rintro e w4 ⟨aB, bB, cB, dB, rfl, hiB, hb4⟩
  have H4 := Lib.hid (H3v.out.call hb4)
  have HIAn : Hid (∀ W', Below w4.heap.size w4 W' → IntsAt W' aA SA ∧ IntsAt W' bA MA) := Lib.hid fun W' h => HIA.out W' (below_step hb4 h)
  clear HIA
  clear hb4 H3v hc0 hc1 hc2
  go_upto_region 5 with fail
  obtain ⟨v4, hv4⟩ : ∃ x, x = w4.alloc (.cells #[.slice aB S.length cB, .slice bB M.length dB, .int .i64 L] 24) := ⟨_, rfl⟩
  rw [← hv4]
  have h4v : HH w v4 [(w.heap.size, rowO 24 [.slice aS S.length cS, .slice aM M.length cM, .int .i64 L]), (qA, rowO 24 [.slice aA S.length cA, .slice bA M.length dA, .int .i64 L]), (w4.heap.size, rowO 24 [.slice aB S.length cB, .slice bB M.length dB, .int .i64 L])] [] := by
    rw [hv4]; exact H4.out.alloc #[.slice aB S.length cB, .slice bB M.length dB, .int .i64 L] 24 rfl rfl
  have hb4v : Below w4.heap.size w4 v4 := by rw [hv4]; exact (Below.refl _ _).alloc (Nat.le_refl _) _
  have HIB : Hid (∀ W', Below v4.heap.size v4 W' → IntsAt W' aB SB ∧ IntsAt W' bB MB) := Lib.hid fun W' h => ⟨(hiB.1.later hb4v).later h, (hiB.2.later hb4v).later h⟩
  have HIA : Hid (∀ W', Below v4.heap.size v4 W' → IntsAt W' aA SA ∧ IntsAt W' bA MA) := Lib.hid fun W' h => HIAn.out W' (below_step hb4v h)
  clear HIAn
  have H4v := Lib.hid h4v
  generalize w4.heap.size = qB at *
  clear hv4 h4v hb4v hiB H4
  have hc0 := H4v.out.cell (k := 0) (i := 0) rfl rfl
  have hc1 := H4v.out.cell (k := 0) (i := 1) rfl rfl
  have hc2 := H4v.out.cell (k := 0) (i := 2) rfl rfl
  go_wp2_with fail
  refine (HC.out v4 H4v.out.below).mono ?_
  rintro e w5 ⟨aC, bC, cC, dC, rfl, hiC, hb5⟩
  have H5 := Lib.hid (H4v.out.call hb5)
  have HIAn : Hid (∀ W', Below w5.heap.size w5 W' → IntsAt W' aA SA ∧ IntsAt W' bA MA) := Lib.hid fun W' h => HIA.out W' (below_step hb5 h)
  clear HIA
  have HIBn : Hid (∀ W', Below w5.heap.size w5 W' → IntsAt W' aB SB ∧ IntsAt W' bB MB) := Lib.hid fun W' h => HIB.out W' (below_step hb5 h)
  clear HIB
  clear hb5 H4v hc0 hc1 hc2
  go_upto_region 6 with fail
  obtain ⟨v5, hv5⟩ : ∃ x, x = w5.alloc (.cells #[.slice aC 0 cC, .slice bC 0 dC, .int .i64 0] 24) := ⟨_, rfl⟩
  rw [← hv5]
  have h5v : HH w v5 [(w.heap.size, rowO 24 [.slice aS S.length cS, .slice aM M.length cM, .int .i64 L]), (qA, rowO 24 [.slice aA S.length cA, .slice bA M.length dA, .int .i64 L]), (qB, rowO 24 [.slice aB S.length cB, .slice bB M.length dB, .int .i64 L]), (w5.heap.size, rowO 24 [.slice aC 0 cC, .slice bC 0 dC, .int .i64 0])] [] := by
    rw [hv5]; exact H5.out.alloc #[.slice aC 0 cC, .slice bC 0 dC, .int .i64 0] 24 rfl rfl
  have hb5v : Below w5.heap.size w5 v5 := by rw [hv5]; exact (Below.refl _ _).alloc (Nat.le_refl _) _
  have HIC : Hid (∀ W', Below v5.heap.size v5 W' → IntsAt W' aC ([] : List Int) ∧ IntsAt W' bC ([] : List Int)) := Lib.hid fun W' h => ⟨(hiC.1.later hb5v).later h, (hiC.2.later hb5v).later h⟩
  have HIA : Hid (∀ W', Below v5.heap.size v5 W' → IntsAt W' aA SA ∧ IntsAt W' bA MA) := Lib.hid fun W' h => HIAn.out W' (below_step hb5v h)
  clear HIAn
  have HIB : Hid (∀ W', Below v5.heap.size v5 W' → IntsAt W' aB SB ∧ IntsAt W' bB MB) := Lib.hid fun W' h => HIBn.out W' (below_step hb5v h)
  clear HIBn
  have H5v := Lib.hid h5v
  generalize w5.heap.size = qC at *
  clear hv5 h5v hb5v hiC H5
  have hc0 := H5v.out.cell (k := 0) (i := 0) rfl rfl
  have hc1 := H5v.out.cell (k := 0) (i := 1) rfl rfl
  have hc2 := H5v.out.cell (k := 0) (i := 2) rfl rfl
  go_wp2_with fail
  refine (H32.out v5 H5v.out.below).mono ?_
  rintro e w6 ⟨rfl, hb6⟩
  have H6 := Lib.hid (H5v.out.call hb6)
  have HIAn : Hid (∀ W', Below w6.heap.size w6 W' → IntsAt W' aA SA ∧ IntsAt W' bA MA) := Lib.hid fun W' h => HIA.out W' (below_step hb6 h)
  clear HIA
  have HIA := HIAn
  clear HIAn
  have HIBn : Hid (∀ W', Below w6.heap.size w6 W' → IntsAt W' aB SB ∧ IntsAt W' bB MB) := Lib.hid fun W' h => HIB.out W' (below_step hb6 h)
  clear HIB
  have HIB := HIBn
  clear HIBn
  have HICn : Hid (∀ W', Below w6.heap.size w6 W' → IntsAt W' aC ([] : List Int) ∧ IntsAt W' bC ([] : List Int)) := Lib.hid fun W' h => HIC.out W' (below_step hb6 h)
  clear HIC
  have HIC := HICn
  clear HICn
  clear hb6 H5v hc0 hc1 hc2
  have hc0 := H6.out.cell (k := 0) (i := 0) rfl rfl
  have hc1 := H6.out.cell (k := 0) (i := 1) rfl rfl
  have hc2 := H6.out.cell (k := 0) (i := 2) rfl rfl
  go_wp2_with fail
  refine (H58.out w6 H6.out.below).mono ?_
  rintro e w7 ⟨rfl, hb7⟩
  have H7 := Lib.hid (H6.out.call hb7)
  have HIAn : Hid (∀ W', Below w7.heap.size w7 W' → IntsAt W' aA SA ∧ IntsAt W' bA MA) := Lib.hid fun W' h => HIA.out W' (below_step hb7 h)
  clear HIA
  have HIA := HIAn
  clear HIAn
  have HIBn : Hid (∀ W', Below w7.heap.size w7 W' → IntsAt W' aB SB ∧ IntsAt W' bB MB) := Lib.hid fun W' h => HIB.out W' (below_step hb7 h)
  clear HIB
  have HIB := HIBn
  clear HIBn
  have HICn : Hid (∀ W', Below w7.heap.size w7 W' → IntsAt W' aC ([] : List Int) ∧ IntsAt W' bC ([] : List Int)) := Lib.hid fun W' h => HIC.out W' (below_step hb7 h)
  clear HIC
  have HIC := HICn
  clear HICn
  clear hb7 H6 hc0 hc1 hc2
  have HK : Hid (∀ w', Below w7.heap.size w7 w' → HH w w' [(w.heap.size, rowO 24 [.slice aS S.length cS, .slice aM M.length cM, .int .i64 L]), (qA, rowO 24 [.slice aA S.length cA, .slice bA M.length dA, .int .i64 L]), (qB, rowO 24 [.slice aB S.length cB, .slice bB M.length dB, .int .i64 L]), (qC, rowO 24 [.slice aC 0 cC, .slice bC 0 dC, .int .i64 0])] []) := Lib.hid fun w' h => H7.out.call h
  have HKS : Hid (∀ w', Below w7.heap.size w7 w' → w'.cell? ⟨w.heap.size, 0, none⟩ = some (.slice aS S.length cS) ∧ w'.cell? ⟨w.heap.size, 1, none⟩ = some (.slice aM M.length cM) ∧ w'.cell? ⟨w.heap.size, 2, none⟩ = some (.int .i64 L) ∧ w'.cell? ⟨qA, 0, none⟩ = some (.slice aA S.length cA) ∧ w'.cell? ⟨qA, 1, none⟩ = some (.slice bA M.length dA) ∧ w'.cell? ⟨qA, 2, none⟩ = some (.int .i64 L)) := Lib.hid fun w' h => ⟨(HK.out _ h).cell (k := 0) (i := 0) rfl rfl, (HK.out _ h).cell (k := 0) (i := 1) rfl rfl, (HK.out _ h).cell (k := 0) (i := 2) rfl rfl, (HK.out _ h).cell (k := 1) (i := 0) rfl rfl, (HK.out _ h).cell (k := 1) (i := 1) rfl rfl, (HK.out _ h).cell (k := 1) (i := 2) rfl rfl⟩
  have Hr := Lib.hid ((Below.refl w7.heap.size w7).drew)
  go_wp2_with fail
  go_region_held3 (fun w' => w'.cell? ⟨w.heap.size, 0, none⟩ = some (.slice aS S.length cS) ∧ w'.cell? ⟨w.heap.size, 1, none⟩ = some (.slice aM M.length cM) ∧ w'.cell? ⟨w.heap.size, 2, none⟩ = some (.int .i64 L) ∧ w'.cell? ⟨qA, 0, none⟩ = some (.slice aA S.length cA) ∧ w'.cell? ⟨qA, 1, none⟩ = some (.slice bA M.length dA) ∧ w'.cell? ⟨qA, 2, none⟩ = some (.int .i64 L))
    (first
      | with_reducible exact HKS.out _ Hr.out)
    (first
      | ((with_reducible refine (HRA.out _ (HK.out _ Hr.out).below).mono ?_); rintro e wn ⟨aG, bG, cG, dG, rfl, hiG, hbx⟩; have HGG := Lib.hid hiG; clear hiG; replace Hr := Lib.hid (below_of Hr.out hbx Hr.out.size); clear hbx)
      | ((with_reducible refine (HEA.out aA bA aG bG cA dA cG dG _ (HIA.out _ Hr.out).1 (HIA.out _ Hr.out).2 HGG.out.1 HGG.out.2).mono ?_); rintro e wn ⟨rfl, hbx⟩; clear HGG; replace Hr := Lib.hid (below_of Hr.out hbx Hr.out.size); clear hbx))
  have H8 := Lib.hid (HK.out _ Hr.out)
  have HIAn : Hid (∀ W', Below wn.heap.size wn W' → IntsAt W' aA SA ∧ IntsAt W' bA MA) := Lib.hid fun W' h => HIA.out W' (below_of Hr.out h Hr.out.size)
  clear HIA
  have HIA := HIAn
  clear HIAn
  have HIBn : Hid (∀ W', Below wn.heap.size wn W' → IntsAt W' aB SB ∧ IntsAt W' bB MB) := Lib.hid fun W' h => HIB.out W' (below_of Hr.out h Hr.out.size)
  clear HIB
  have HIB := HIBn
  clear HIBn
  have HICn : Hid (∀ W', Below wn.heap.size wn W' → IntsAt W' aC ([] : List Int) ∧ IntsAt W' bC ([] : List Int)) := Lib.hid fun W' h => HIC.out W' (below_of Hr.out h Hr.out.size)
  clear HIC
  have HIC := HICn
  clear HICn
  clear HK HKS Hr H7
  obtain ⟨w8, rfl⟩ : ∃ x, x = wn := ⟨_, rfl⟩
  have hc0 := H8.out.cell (k := 0) (i := 0) rfl rfl
  have hc1 := H8.out.cell (k := 0) (i := 1) rfl rfl
  have hc2 := H8.out.cell (k := 0) (i := 2) rfl rfl
  go_wp2_with fail
  refine (HRW.out w8 H8.out.below).mono ?_
  rintro e w9 ⟨aW, bW, cW, dW, rfl, hiW, hb9⟩
  have H9 := Lib.hid (H8.out.call hb9)
  have HIAn : Hid (∀ W', Below w9.heap.size w9 W' → IntsAt W' aA SA ∧ IntsAt W' bA MA) := Lib.hid fun W' h => HIA.out W' (below_step hb9 h)
  clear HIA
  have HIBn : Hid (∀ W', Below w9.heap.size w9 W' → IntsAt W' aB SB ∧ IntsAt W' bB MB) := Lib.hid fun W' h => HIB.out W' (below_step hb9 h)
  clear HIB
  have HICn : Hid (∀ W', Below w9.heap.size w9 W' → IntsAt W' aC ([] : List Int) ∧ IntsAt W' bC ([] : List Int)) := Lib.hid fun W' h => HIC.out W' (below_step hb9 h)
  clear HIC
  clear hb9 H8 hc0 hc1 hc2
  go_upto_region 16 with fail
  obtain ⟨v9, hv9⟩ : ∃ x, x = w9.alloc (.cells #[.slice aW SC.length cW, .slice bW MC.length dW, .int .i64 LC] 24) := ⟨_, rfl⟩
  rw [← hv9]
  have h9v : HH w v9 [(w.heap.size, rowO 24 [.slice aS S.length cS, .slice aM M.length cM, .int .i64 L]), (qA, rowO 24 [.slice aA S.length cA, .slice bA M.length dA, .int .i64 L]), (qB, rowO 24 [.slice aB S.length cB, .slice bB M.length dB, .int .i64 L]), (qC, rowO 24 [.slice aC 0 cC, .slice bC 0 dC, .int .i64 0]), (w9.heap.size, rowO 24 [.slice aW SC.length cW, .slice bW MC.length dW, .int .i64 LC])] [] := by
    rw [hv9]; exact H9.out.alloc #[.slice aW SC.length cW, .slice bW MC.length dW, .int .i64 LC] 24 rfl rfl
  have hb9v : Below w9.heap.size w9 v9 := by rw [hv9]; exact (Below.refl _ _).alloc (Nat.le_refl _) _
  have HIW : Hid (∀ W', Below v9.heap.size v9 W' → IntsAt W' aW SC ∧ IntsAt W' bW MC) := Lib.hid fun W' h => ⟨(hiW.1.later hb9v).later h, (hiW.2.later hb9v).later h⟩
  have HIA : Hid (∀ W', Below v9.heap.size v9 W' → IntsAt W' aA SA ∧ IntsAt W' bA MA) := Lib.hid fun W' h => HIAn.out W' (below_step hb9v h)
  clear HIAn
  have HIB : Hid (∀ W', Below v9.heap.size v9 W' → IntsAt W' aB SB ∧ IntsAt W' bB MB) := Lib.hid fun W' h => HIBn.out W' (below_step hb9v h)
  clear HIBn
  have HIC : Hid (∀ W', Below v9.heap.size v9 W' → IntsAt W' aC ([] : List Int) ∧ IntsAt W' bC ([] : List Int)) := Lib.hid fun W' h => HICn.out W' (below_step hb9v h)
  clear HICn
  have H9v := Lib.hid h9v
  generalize w9.heap.size = qW at *
  clear hv9 h9v hb9v hiW H9
  have hc0 := H9v.out.cell (k := 4) (i := 0) rfl rfl
  have hc1 := H9v.out.cell (k := 4) (i := 1) rfl rfl
  have hc2 := H9v.out.cell (k := 4) (i := 2) rfl rfl
  have hx2 := hc2
  clear hc0 hc1 hc2
  have hc0 := H9v.out.cell (k := 3) (i := 0) rfl rfl
  have hc1 := H9v.out.cell (k := 3) (i := 1) rfl rfl
  have hc2 := H9v.out.cell (k := 3) (i := 2) rfl rfl
  go_wp2_with fail
  refine (zero_yes aC bC cC dC v9).mono ?_
  rintro e w10 ⟨rfl, hb10⟩
  have H10 := Lib.hid (H9v.out.call hb10)
  have HIAn : Hid (∀ W', Below w10.heap.size w10 W' → IntsAt W' aA SA ∧ IntsAt W' bA MA) := Lib.hid fun W' h => HIA.out W' (below_step hb10 h)
  clear HIA
  have HIA := HIAn
  clear HIAn
  have HIBn : Hid (∀ W', Below w10.heap.size w10 W' → IntsAt W' aB SB ∧ IntsAt W' bB MB) := Lib.hid fun W' h => HIB.out W' (below_step hb10 h)
  clear HIB
  have HIB := HIBn
  clear HIBn
  have HICn : Hid (∀ W', Below w10.heap.size w10 W' → IntsAt W' aC ([] : List Int) ∧ IntsAt W' bC ([] : List Int)) := Lib.hid fun W' h => HIC.out W' (below_step hb10 h)
  clear HIC
  have HIC := HICn
  clear HICn
  have HIWn : Hid (∀ W', Below w10.heap.size w10 W' → IntsAt W' aW SC ∧ IntsAt W' bW MC) := Lib.hid fun W' h => HIW.out W' (below_step hb10 h)
  clear HIW
  have HIW := HIWn
  clear HIWn
  clear hb10 H9v hc0 hc1 hc2
  go_wp2_with fail
  go_ret
  exact ⟨rfl, H10.out.below⟩
theorem mpa_any (S M : List Int) (L : Int) (aS aM : Option Addr) (cS cM : Nat) (k : Int) (w : World) (hSl : S.length ≤ maxLen) (hMl : M.length ≤ maxLen) (_ : (Lit.int .i64 L).wf = true) (hS : IntsAt w aS S) (hM : IntsAt w aM M) (hk : (Lit.int .i64 k).wf = true) :
    Calls Try.prog 14 #[.agg #[.slice aS S.length cS, .slice aM M.length cM, .int .i64 L], .int .i64 k] w fun e w' => e = .returned (.bool true) ∧ Below w.heap.size w w' := by
  by_cases hf : few6B S M = true
  · by_cases hv : vldB S M L = true
    · by_cases hn : k < 0
      · exact mpa_neg_out S M L aS aM cS cM k w hf hv hn hS hM
      · simp only [Lit.wf, Bool.and_eq_true, decide_eq_true_eq] at hk
        have e2 : IntKind.i64.max = 9223372036854775807 := rfl
        rw [e2] at hk
        obtain ⟨i, rfl⟩ : ∃ i : Nat, k = (i : Int) := ⟨k.toNat, by omega⟩
        obtain ⟨N, hN, _, _⟩ := mpa_comps hv
        by_cases hq : i < S.length
        · by_cases hL : (L + (newL M (pS S i) i : Nat)) ≤ 64
          · by_cases hi : i < N
            · exact mpa_in_ok S M L aS aM cS cM i N w hf hv hN hi hq hL hS hM
            · exact mpa_big_ok S M L aS aM cS cM i N w hf hv hN (by omega) hq hL hS hM
          · by_cases hi : i < N
            · exact mpa_in_full S M L aS aM cS cM i N w hf hv hN hi hq (by omega) hS hM
            · exact mpa_big_full S M L aS aM cS cM i N w hf hv hN (by omega) hq (by omega) hS hM
        · by_cases hi : i < N
          · exact mpa_in_out S M L aS aM cS cM i N w hf hv hN hi (by omega) hS hM
          · exact mpa_big_out S M L aS aM cS cM i N w hf hv hN (by omega) (by omega) hk.2 hS hM
    · exact mpa_no_x S M L aS aM cS cM k w hf (by simpa using hv) hS hM
  · exact mpa_large S M L aS aM cS cM k w hSl hMl (by simpa using hf)
end Go.Proofs.Ytkopbcehfbmnmaa
