/- The walk of the law MirrorWhole. -/
import Derived.Test.YtkopbcehfbmnmaaAwake6
import Derived.Test.YtkopbcehfbmnmaaRRvW
import Derived.Test.YtkopbcehfbmnmaaRMiW2
import Derived.Test.YtkopbcehfbmnmaaRefValidW
import Derived.Test.YtkopbcehfbmnmaaMirFW
import Derived.Test.YtkopbcehfbmnmaaMirB
namespace Go.Proofs.Ytkopbcehfbmnmaa
open Go Go.RowKit
set_option maxRecDepth 100000 in
set_option maxHeartbeats 16000000 in
theorem mwh_large (S M : List Int) (L : Int) (aS aM : Option Addr) (cS cM : Nat) (w : World) (hSl : S.length ≤ maxLen) (hMl : M.length ≤ maxLen) (hf : few6B S M = false) :
    Calls Try.prog 5 #[.agg #[.slice aS S.length cS, .slice aM M.length cM, .int .i64 L]] w fun e w' => e = .returned (.bool true) ∧ Below w.heap.size w w' := by
  obtain ⟨W, hW⟩ : ∃ W, W = (w.alloc (.cells #[.slice aS S.length cS, .slice aM M.length cM, .int .i64 L] 24)) := ⟨_, rfl⟩
  have h0 : HH w W [(w.heap.size, rowO 24 [.slice aS S.length cS, .slice aM M.length cM, .int .i64 L])] [] := by rw [hW]; exact ((HH.start w).alloc #[.slice aS S.length cS, .slice aM M.length cM, .int .i64 L] 24 rfl rfl)
  have H0 := Lib.hid h0
  have HF : Hid (∀ W', Calls Try.prog 42 #[.agg #[.slice aS S.length cS, .slice aM M.length cM, .int .i64 L]] W' fun e w' => e = .returned (.bool false) ∧ Below W'.heap.size W' w') := Lib.hid fun W' => by rw [← hf]; exact few6_any S M L aS aM cS cM W' hSl hMl
  clear hf hSl hMl h0
  go_enter Try.func5, Try.ntmps5
  go_wp2_with fail
  rw [← hW]
  clear hW
  refine (awake6_any W).mono ?_
  rintro e w1 ⟨rfl, hb1⟩
  have H1 := Lib.hid (H0.out.call hb1)
  clear hb1 H0
  have hc0_0 := H1.out.cell (k := 0) (i := 0) rfl rfl
  have hc0_1 := H1.out.cell (k := 0) (i := 1) rfl rfl
  have hc0_2 := H1.out.cell (k := 0) (i := 2) rfl rfl
  go_wp2_with fail
  refine (HF.out w1).mono ?_
  rintro e w2 ⟨rfl, hb2⟩
  have H2 := Lib.hid (H1.out.call hb2)
  clear hb2 H1
  clear hc0_0 hc0_1 hc0_2
  have hc0_0 := H2.out.cell (k := 0) (i := 0) rfl rfl
  have hc0_1 := H2.out.cell (k := 0) (i := 1) rfl rfl
  have hc0_2 := H2.out.cell (k := 0) (i := 2) rfl rfl
  go_wp2_with fail
  refine (awake6_any w2).mono ?_
  rintro e w3 ⟨rfl, hb3⟩
  have H3 := Lib.hid (H2.out.call hb3)
  clear hb3 H2
  clear hc0_0 hc0_1 hc0_2
  have hc0_0 := H3.out.cell (k := 0) (i := 0) rfl rfl
  have hc0_1 := H3.out.cell (k := 0) (i := 1) rfl rfl
  have hc0_2 := H3.out.cell (k := 0) (i := 2) rfl rfl
  go_wp2_with fail
  go_ret
  exact ⟨rfl, H3.out.below⟩
set_option maxRecDepth 100000 in
set_option maxHeartbeats 16000000 in
theorem mwh_no (S M : List Int) (L : Int) (aS aM : Option Addr) (cS cM : Nat) (w : World) (hf : few6B S M = true) (hv : vldB S M L = false) (hS : IntsAt w aS S) (hM : IntsAt w aM M) :
    Calls Try.prog 5 #[.agg #[.slice aS S.length cS, .slice aM M.length cM, .int .i64 L]] w fun e w' => e = .returned (.bool true) ∧ Below w.heap.size w w' := by
  have hl : S.length ≤ 14 ∧ M.length ≤ 70 := by
    have := of_decide_eq_true hf
    exact ⟨this.1, this.2⟩
  have hSl : S.length ≤ 1000000000 := by omega
  have hMl : M.length ≤ 1000000000 := by omega
  obtain ⟨W, hW⟩ : ∃ W, W = (w.alloc (.cells #[.slice aS S.length cS, .slice aM M.length cM, .int .i64 L] 24)) := ⟨_, rfl⟩
  have h0 : HH w W [(w.heap.size, rowO 24 [.slice aS S.length cS, .slice aM M.length cM, .int .i64 L])] [] := by rw [hW]; exact ((HH.start w).alloc #[.slice aS S.length cS, .slice aM M.length cM, .int .i64 L] 24 rfl rfl)
  have H0 := Lib.hid h0
  have H42 : Hid (∀ W', Below w.heap.size w W' → Calls Try.prog 42 #[.agg #[.slice aS S.length cS, .slice aM M.length cM, .int .i64 L]] W' fun e w' => e = .returned (.bool true) ∧ Below W'.heap.size W' w') := Lib.hid fun W' hW' => by rw [← hf]; exact few6_any S M L aS aM cS cM W' (by unfold maxLen; omega) (by unfold maxLen; omega)
  have H43 : Hid (∀ W', Below w.heap.size w W' → Calls Try.prog 43 #[.agg #[.slice aS S.length cS, .slice aM M.length cM, .int .i64 L]] W' fun e w' => ∃ (a b : Option Addr) (c d : Nat), e = .returned (.tuple #[.agg #[.slice a 0 c, .slice b 0 d, .int .i64 0], .int .i64 1]) ∧ Below W'.heap.size W' w') := Lib.hid fun W' hW' => mirrorF_no S M L aS aM cS cM W' hSl hMl hv (hS.later hW') (hM.later hW') |>.mono fun e w' ⟨a, b, c, d, he, _, _, hb⟩ => ⟨a, b, c, d, he, hb⟩
  have H44 : Hid (∀ W', Below w.heap.size w W' → Calls Try.prog 44 #[.agg #[.slice aS S.length cS, .slice aM M.length cM, .int .i64 L]] W' fun e w' => ∃ (a b : Option Addr) (c d : Nat), e = .returned (.tuple #[.agg #[.slice a 0 c, .slice b 0 d, .int .i64 0], .int .i64 1]) ∧ Below W'.heap.size W' w') := Lib.hid fun W' hW' => reflectF_no S M L aS aM cS cM W' hSl hMl hv (hS.later hW') (hM.later hW') |>.mono fun e w' ⟨a, b, c, d, he, _, _, hb⟩ => ⟨a, b, c, d, he, hb⟩
  have H45 : Hid (∀ W', Below w.heap.size w W' → Calls Try.prog 45 #[.agg #[.slice aS S.length cS, .slice aM M.length cM, .int .i64 L]] W' fun e w' => ∃ (a b : Option Addr) (c d : Nat), e = .returned (.tuple #[.agg #[.slice a 0 c, .slice b 0 d, .int .i64 0], .int .i64 1]) ∧ Below W'.heap.size W' w') := Lib.hid fun W' hW' => reverseF_no S M L aS aM cS cM W' hSl hMl hv (hS.later hW') (hM.later hW') |>.mono fun e w' ⟨a, b, c, d, he, _, _, hb⟩ => ⟨a, b, c, d, he, hb⟩
  have H32 : Hid (∀ W', Below w.heap.size w W' → Calls Try.prog 32 #[.agg #[.slice aS S.length cS, .slice aM M.length cM, .int .i64 L]] W' fun e w' => e = .returned (.bool false) ∧ Below W'.heap.size W' w') := Lib.hid fun W' hW' => by rw [← hv]; exact rvalid_any S M L aS aM cS cM W' hSl hMl (hS.later hW') (hM.later hW')
  clear hf hv hSl hMl hS hM hl h0
  go_enter Try.func5, Try.ntmps5
  go_wp2_with fail
  rw [← hW]
  clear hW
  refine (awake6_any W).mono ?_
  rintro e w1 ⟨rfl, hb1⟩
  have H1 := Lib.hid (H0.out.call hb1)
  clear hb1 H0
  have hc0_0 := H1.out.cell (k := 0) (i := 0) rfl rfl
  have hc0_1 := H1.out.cell (k := 0) (i := 1) rfl rfl
  have hc0_2 := H1.out.cell (k := 0) (i := 2) rfl rfl
  go_wp2_with fail
  refine (H42.out w1 H1.out.below).mono ?_
  rintro e w2 ⟨rfl, hb2⟩
  have H2 := Lib.hid (H1.out.call hb2)
  clear hb2 H1
  clear hc0_0 hc0_1 hc0_2
  have hc0 := H2.out.cell (k := 0) (i := 0) rfl rfl
  have hc1 := H2.out.cell (k := 0) (i := 1) rfl rfl
  have hc2 := H2.out.cell (k := 0) (i := 2) rfl rfl
  go_wp2_with fail
  refine (H43.out w2 H2.out.below).mono ?_
  rintro e w3 ⟨aA, bA, cA, dA, rfl, hb3⟩
  have H3 := Lib.hid (H2.out.call hb3)
  clear hb3 H2 hc0 hc1 hc2
  go_upto_region 4 with fail
  obtain ⟨v3, hv3⟩ : ∃ x, x = w3.alloc (.cells #[.slice aA 0 cA, .slice bA 0 dA, .int .i64 0] 24) := ⟨_, rfl⟩
  rw [← hv3]
  have h3v : HH w v3 [(w.heap.size, rowO 24 [.slice aS S.length cS, .slice aM M.length cM, .int .i64 L]), (w3.heap.size, rowO 24 [.slice aA 0 cA, .slice bA 0 dA, .int .i64 0])] [] := by
    rw [hv3]; exact H3.out.alloc #[.slice aA 0 cA, .slice bA 0 dA, .int .i64 0] 24 rfl rfl
  have H3v := Lib.hid h3v
  generalize w3.heap.size = qA at *
  clear hv3 h3v H3
  have hc0 := H3v.out.cell (k := 0) (i := 0) rfl rfl
  have hc1 := H3v.out.cell (k := 0) (i := 1) rfl rfl
  have hc2 := H3v.out.cell (k := 0) (i := 2) rfl rfl
  go_wp2_with fail
  refine (H44.out v3 H3v.out.below).mono ?_
  rintro e w4 ⟨aB, bB, cB, dB, rfl, hb4⟩
  have H4 := Lib.hid (H3v.out.call hb4)
  clear hb4 H3v hc0 hc1 hc2
  go_upto_region 5 with fail
  obtain ⟨v4, hv4⟩ : ∃ x, x = w4.alloc (.cells #[.slice aB 0 cB, .slice bB 0 dB, .int .i64 0] 24) := ⟨_, rfl⟩
  rw [← hv4]
  have h4v : HH w v4 [(w.heap.size, rowO 24 [.slice aS S.length cS, .slice aM M.length cM, .int .i64 L]), (qA, rowO 24 [.slice aA 0 cA, .slice bA 0 dA, .int .i64 0]), (w4.heap.size, rowO 24 [.slice aB 0 cB, .slice bB 0 dB, .int .i64 0])] [] := by
    rw [hv4]; exact H4.out.alloc #[.slice aB 0 cB, .slice bB 0 dB, .int .i64 0] 24 rfl rfl
  have H4v := Lib.hid h4v
  generalize w4.heap.size = qB at *
  clear hv4 h4v H4
  have hc0 := H4v.out.cell (k := 0) (i := 0) rfl rfl
  have hc1 := H4v.out.cell (k := 0) (i := 1) rfl rfl
  have hc2 := H4v.out.cell (k := 0) (i := 2) rfl rfl
  go_wp2_with fail
  refine (H45.out v4 H4v.out.below).mono ?_
  rintro e w5 ⟨aC, bC, cC, dC, rfl, hb5⟩
  have H5 := Lib.hid (H4v.out.call hb5)
  clear hb5 H4v hc0 hc1 hc2
  go_upto_region 6 with fail
  obtain ⟨v5, hv5⟩ : ∃ x, x = w5.alloc (.cells #[.slice aC 0 cC, .slice bC 0 dC, .int .i64 0] 24) := ⟨_, rfl⟩
  rw [← hv5]
  have h5v : HH w v5 [(w.heap.size, rowO 24 [.slice aS S.length cS, .slice aM M.length cM, .int .i64 L]), (qA, rowO 24 [.slice aA 0 cA, .slice bA 0 dA, .int .i64 0]), (qB, rowO 24 [.slice aB 0 cB, .slice bB 0 dB, .int .i64 0]), (w5.heap.size, rowO 24 [.slice aC 0 cC, .slice bC 0 dC, .int .i64 0])] [] := by
    rw [hv5]; exact H5.out.alloc #[.slice aC 0 cC, .slice bC 0 dC, .int .i64 0] 24 rfl rfl
  have H5v := Lib.hid h5v
  generalize w5.heap.size = qC at *
  clear hv5 h5v H5
  have hc0 := H5v.out.cell (k := 0) (i := 0) rfl rfl
  have hc1 := H5v.out.cell (k := 0) (i := 1) rfl rfl
  have hc2 := H5v.out.cell (k := 0) (i := 2) rfl rfl
  go_wp2_with fail
  refine (H32.out v5 H5v.out.below).mono ?_
  rintro e w9 ⟨rfl, hb9⟩
  have H9 := Lib.hid (H5v.out.call hb9)
  clear hb9 H5v hc0 hc1 hc2
  have hc0 := H9.out.cell (k := 1) (i := 0) rfl rfl
  have hc1 := H9.out.cell (k := 1) (i := 1) rfl rfl
  have hc2 := H9.out.cell (k := 1) (i := 2) rfl rfl
  go_wp2_with fail
  refine (zero_yes aA bA cA dA w9).mono ?_
  rintro e w10 ⟨rfl, hb9⟩
  have H10 := Lib.hid (H9.out.call hb9)
  clear hb9 H9 hc0 hc1 hc2
  have hc0 := H10.out.cell (k := 2) (i := 0) rfl rfl
  have hc1 := H10.out.cell (k := 2) (i := 1) rfl rfl
  have hc2 := H10.out.cell (k := 2) (i := 2) rfl rfl
  go_wp2_with fail
  refine (zero_yes aB bB cB dB w10).mono ?_
  rintro e w11 ⟨rfl, hb9⟩
  have H11 := Lib.hid (H10.out.call hb9)
  clear hb9 H10 hc0 hc1 hc2
  have hc0 := H11.out.cell (k := 3) (i := 0) rfl rfl
  have hc1 := H11.out.cell (k := 3) (i := 1) rfl rfl
  have hc2 := H11.out.cell (k := 3) (i := 2) rfl rfl
  go_wp2_with fail
  refine (zero_yes aC bC cC dC w11).mono ?_
  rintro e w12 ⟨rfl, hb9⟩
  have H12 := Lib.hid (H11.out.call hb9)
  clear hb9 H11 hc0 hc1 hc2
  go_wp2_with fail
  go_ret
  exact ⟨rfl, H12.out.below⟩
set_option maxRecDepth 100000 in
set_option maxHeartbeats 16000000 in
theorem mwh_yes (S M : List Int) (L : Int) (aS aM : Option Addr) (cS cM : Nat) (w : World) (hf : few6B S M = true) (hv : vldB S M L = true) (hS : IntsAt w aS S) (hM : IntsAt w aM M) :
    Calls Try.prog 5 #[.agg #[.slice aS S.length cS, .slice aM M.length cM, .int .i64 L]] w fun e w' => e = .returned (.bool true) ∧ Below w.heap.size w w' := by
  have hl : S.length ≤ 14 ∧ M.length ≤ 70 := by
    have := of_decide_eq_true hf
    exact ⟨this.1, this.2⟩
  have hSl : S.length ≤ 1000000000 := by omega
  have hMl : M.length ≤ 1000000000 := by omega
  obtain ⟨W, hW⟩ : ∃ W, W = (w.alloc (.cells #[.slice aS S.length cS, .slice aM M.length cM, .int .i64 L] 24)) := ⟨_, rfl⟩
  have h0 : HH w W [(w.heap.size, rowO 24 [.slice aS S.length cS, .slice aM M.length cM, .int .i64 L])] [] := by rw [hW]; exact ((HH.start w).alloc #[.slice aS S.length cS, .slice aM M.length cM, .int .i64 L] 24 rfl rfl)
  have H0 := Lib.hid h0
  have H42 : Hid (∀ W', Below w.heap.size w W' → Calls Try.prog 42 #[.agg #[.slice aS S.length cS, .slice aM M.length cM, .int .i64 L]] W' fun e w' => e = .returned (.bool true) ∧ Below W'.heap.size W' w') := Lib.hid fun W' hW' => by rw [← hf]; exact few6_any S M L aS aM cS cM W' (by unfold maxLen; omega) (by unfold maxLen; omega)
  have H32 : Hid (∀ W', Below w.heap.size w W' → Calls Try.prog 32 #[.agg #[.slice aS S.length cS, .slice aM M.length cM, .int .i64 L]] W' fun e w' => e = .returned (.bool true) ∧ Below W'.heap.size W' w') := Lib.hid fun W' hW' => by rw [← hv]; exact rvalid_any S M L aS aM cS cM W' hSl hMl (hS.later hW') (hM.later hW')
  have lSA : (mulS S (swS fun _ => true)).length = S.length := mulS_len _ _
  have lMA : (mvL (trn (swB S fun _ => true)) M).length = M.length := mvL_len _ _
  have H43 : Hid (∀ W', Below w.heap.size w W' → Calls Try.prog 43 #[.agg #[.slice aS S.length cS, .slice aM M.length cM, .int .i64 L]] W' (fun e w' => ∃ (a b : Option Addr) (c d : Nat), e = .returned (.tuple #[.agg #[.slice a S.length c, .slice b M.length d, .int .i64 L], .int .i64 0]) ∧ IntsAt w' a (mulS S (swS fun _ => true)) ∧ IntsAt w' b (mvL (trn (swB S fun _ => true)) M) ∧ Below W'.heap.size W' w')) := Lib.hid fun W' hW' => by
    have h := mirrorF_yes S M L aS aM cS cM W' hv (hS.later hW') (hM.later hW')
    exact h.mono fun e w' ⟨a, b, c, d, he, h1, h2, hb⟩ => ⟨a, b, c, d, (by rw [lSA, lMA] at he; exact he), h1, h2, hb⟩
  have H48 : Hid (∀ W', Below w.heap.size w W' → Calls Try.prog 48 #[.agg #[.slice aS S.length cS, .slice aM M.length cM, .int .i64 L]] W' (fun e w' => ∃ (a b : Option Addr) (c d : Nat), e = .returned (.agg #[.slice a S.length c, .slice b M.length d, .int .i64 L]) ∧ IntsAt w' a (mulS S (swS fun _ => true)) ∧ IntsAt w' b (mvL (trn (swB S fun _ => true)) M) ∧ Below W'.heap.size W' w')) := Lib.hid fun W' hW' => (rmirror_yes S M L aS aM cS cM W' hv (hS.later hW') (hM.later hW')).mono fun e w' ⟨a, b, c, d, he, h1, h2, hb⟩ => ⟨a, b, c, d, he, h1.ints, h2.ints, hb⟩
  have HEA : Hid (∀ (a b a' b' : Option Addr) (c d c' d' : Nat) (W' : World), IntsAt W' a (mulS S (swS fun _ => true)) → IntsAt W' b (mvL (trn (swB S fun _ => true)) M) → IntsAt W' a' (mulS S (swS fun _ => true)) → IntsAt W' b' (mvL (trn (swB S fun _ => true)) M) → Calls Try.prog 47 #[.agg #[.slice a S.length c, .slice b M.length d, .int .i64 L], .agg #[.slice a' S.length c', .slice b' M.length d', .int .i64 L]] W' (fun e w' => e = .returned (.bool true) ∧ Below W'.heap.size W' w')) := Lib.hid fun a b a' b' c d c' d' W' i1 i2 i3 i4 => by
    have h := equalR_any (mulS S (swS fun _ => true)) (mvL (trn (swB S fun _ => true)) M) (mulS S (swS fun _ => true)) (mvL (trn (swB S fun _ => true)) M) L L a b a' b' c d c' d' W' (by rw [lSA]; exact hSl) (by rw [lMA]; exact hMl) i1 i2 i3 i4
    rw [show eqD (mulS S (swS fun _ => true)) (mvL (trn (swB S fun _ => true)) M) L (mulS S (swS fun _ => true)) (mvL (trn (swB S fun _ => true)) M) L = true from decide_eq_true ⟨rfl, rfl, rfl⟩, lSA, lMA] at h
    exact h
  obtain ⟨SA, hSA⟩ : ∃ x, x = (mulS S (swS fun _ => true)) := ⟨_, rfl⟩
  rw [← hSA] at H43 H48 HEA
  clear hSA
  obtain ⟨MA, hMA⟩ : ∃ x, x = (mvL (trn (swB S fun _ => true)) M) := ⟨_, rfl⟩
  rw [← hMA] at H43 H48 HEA
  clear hMA lSA lMA
  have lSB : (mulS S fun _ => -1).length = S.length := mulS_len _ _
  have lMB : (mvL rfl4 M).length = M.length := mvL_len _ _
  have H44 : Hid (∀ W', Below w.heap.size w W' → Calls Try.prog 44 #[.agg #[.slice aS S.length cS, .slice aM M.length cM, .int .i64 L]] W' (fun e w' => ∃ (a b : Option Addr) (c d : Nat), e = .returned (.tuple #[.agg #[.slice a S.length c, .slice b M.length d, .int .i64 L], .int .i64 0]) ∧ IntsAt w' a (mulS S fun _ => -1) ∧ IntsAt w' b (mvL rfl4 M) ∧ Below W'.heap.size W' w')) := Lib.hid fun W' hW' => by
    have h := reflectF_yes S M L aS aM cS cM W' hv (hS.later hW') (hM.later hW')
    exact h.mono fun e w' ⟨a, b, c, d, he, h1, h2, hb⟩ => ⟨a, b, c, d, (by rw [lSB, lMB] at he; exact he), h1, h2, hb⟩
  have H49 : Hid (∀ W', Below w.heap.size w W' → Calls Try.prog 49 #[.agg #[.slice aS S.length cS, .slice aM M.length cM, .int .i64 L]] W' (fun e w' => ∃ (a b : Option Addr) (c d : Nat), e = .returned (.agg #[.slice a S.length c, .slice b M.length d, .int .i64 L]) ∧ IntsAt w' a (mulS S fun _ => -1) ∧ IntsAt w' b (mvL rfl4 M) ∧ Below W'.heap.size W' w')) := Lib.hid fun W' hW' => (rreflect_any S M L aS aM cS cM W' hv (hS.later hW') (hM.later hW')).mono fun e w' ⟨a, b, c, d, he, h1, h2, hb⟩ => ⟨a, b, c, d, he, h1.ints, h2.ints, hb⟩
  have HEB : Hid (∀ (a b a' b' : Option Addr) (c d c' d' : Nat) (W' : World), IntsAt W' a (mulS S fun _ => -1) → IntsAt W' b (mvL rfl4 M) → IntsAt W' a' (mulS S fun _ => -1) → IntsAt W' b' (mvL rfl4 M) → Calls Try.prog 47 #[.agg #[.slice a S.length c, .slice b M.length d, .int .i64 L], .agg #[.slice a' S.length c', .slice b' M.length d', .int .i64 L]] W' (fun e w' => e = .returned (.bool true) ∧ Below W'.heap.size W' w')) := Lib.hid fun a b a' b' c d c' d' W' i1 i2 i3 i4 => by
    have h := equalR_any (mulS S fun _ => -1) (mvL rfl4 M) (mulS S fun _ => -1) (mvL rfl4 M) L L a b a' b' c d c' d' W' (by rw [lSB]; exact hSl) (by rw [lMB]; exact hMl) i1 i2 i3 i4
    rw [show eqD (mulS S fun _ => -1) (mvL rfl4 M) L (mulS S fun _ => -1) (mvL rfl4 M) L = true from decide_eq_true ⟨rfl, rfl, rfl⟩, lSB, lMB] at h
    exact h
  obtain ⟨SB, hSB⟩ : ∃ x, x = (mulS S fun _ => -1) := ⟨_, rfl⟩
  rw [← hSB] at H44 H49 HEB
  clear hSB
  obtain ⟨MB, hMB⟩ : ∃ x, x = (mvL rfl4 M) := ⟨_, rfl⟩
  rw [← hMB] at H44 H49 HEB
  clear hMB lSB lMB
  have lSC : S.length = S.length := rfl
  have lMC : (mvL (trn fun _ => 2) M).length = M.length := mvL_len _ _
  have H45 : Hid (∀ W', Below w.heap.size w W' → Calls Try.prog 45 #[.agg #[.slice aS S.length cS, .slice aM M.length cM, .int .i64 L]] W' (fun e w' => ∃ (a b : Option Addr) (c d : Nat), e = .returned (.tuple #[.agg #[.slice a S.length c, .slice b M.length d, .int .i64 L], .int .i64 0]) ∧ IntsAt w' a S ∧ IntsAt w' b (mvL (trn fun _ => 2) M) ∧ Below W'.heap.size W' w')) := Lib.hid fun W' hW' => by
    have h := reverseF_yes S M L aS aM cS cM W' hv (hS.later hW') (hM.later hW')
    rw [mulS_one (S := S) (g := fun _ => 1) fun _ _ => rfl] at h
    exact h.mono fun e w' ⟨a, b, c, d, he, h1, h2, hb⟩ => ⟨a, b, c, d, (by rw [lMC] at he; exact he), h1, h2, hb⟩
  have H50 : Hid (∀ W', Below w.heap.size w W' → Calls Try.prog 50 #[.agg #[.slice aS S.length cS, .slice aM M.length cM, .int .i64 L]] W' (fun e w' => ∃ (a b : Option Addr) (c d : Nat), e = .returned (.agg #[.slice a S.length c, .slice b M.length d, .int .i64 L]) ∧ IntsAt w' a S ∧ IntsAt w' b (mvL (trn fun _ => 2) M) ∧ Below W'.heap.size W' w')) := Lib.hid fun W' hW' => (rreverse_any S M L aS aM cS cM W' hv (hS.later hW') (hM.later hW')).mono fun e w' ⟨a, b, c, d, he, h1, h2, hb⟩ => ⟨a, b, c, d, he, h1.ints, h2.ints, hb⟩
  have HEC : Hid (∀ (a b a' b' : Option Addr) (c d c' d' : Nat) (W' : World), IntsAt W' a S → IntsAt W' b (mvL (trn fun _ => 2) M) → IntsAt W' a' S → IntsAt W' b' (mvL (trn fun _ => 2) M) → Calls Try.prog 47 #[.agg #[.slice a S.length c, .slice b M.length d, .int .i64 L], .agg #[.slice a' S.length c', .slice b' M.length d', .int .i64 L]] W' (fun e w' => e = .returned (.bool true) ∧ Below W'.heap.size W' w')) := Lib.hid fun a b a' b' c d c' d' W' i1 i2 i3 i4 => by
    have h := equalR_any S (mvL (trn fun _ => 2) M) S (mvL (trn fun _ => 2) M) L L a b a' b' c d c' d' W' (by rw [lSC]; exact hSl) (by rw [lMC]; exact hMl) i1 i2 i3 i4
    rw [show eqD S (mvL (trn fun _ => 2) M) L S (mvL (trn fun _ => 2) M) L = true from decide_eq_true ⟨rfl, rfl, rfl⟩, lMC] at h
    exact h
  obtain ⟨MC, hMC⟩ : ∃ x, x = (mvL (trn fun _ => 2) M) := ⟨_, rfl⟩
  rw [← hMC] at H45 H50 HEC
  clear hMC lSC lMC
  clear hf hv hSl hMl hS hM hl h0
  go_enter Try.func5, Try.ntmps5
  go_wp2_with fail
  rw [← hW]
  clear hW
  refine (awake6_any W).mono ?_
  rintro e w1 ⟨rfl, hb1⟩
  have H1 := Lib.hid (H0.out.call hb1)
  clear hb1 H0
  have hc0_0 := H1.out.cell (k := 0) (i := 0) rfl rfl
  have hc0_1 := H1.out.cell (k := 0) (i := 1) rfl rfl
  have hc0_2 := H1.out.cell (k := 0) (i := 2) rfl rfl
  go_wp2_with fail
  refine (H42.out w1 H1.out.below).mono ?_
  rintro e w2 ⟨rfl, hb2⟩
  have H2 := Lib.hid (H1.out.call hb2)
  clear hb2 H1
  clear hc0_0 hc0_1 hc0_2
  have hc0_0 := H2.out.cell (k := 0) (i := 0) rfl rfl
  have hc0_1 := H2.out.cell (k := 0) (i := 1) rfl rfl
  have hc0_2 := H2.out.cell (k := 0) (i := 2) rfl rfl
  go_wp2_with fail
  refine (H43.out w2 H2.out.below).mono ?_
  rintro e w3 ⟨aA, bA, cA, dA, rfl, hiA, hjA, hb3⟩
  have H3 := Lib.hid (H2.out.call hb3)
  clear hb3 H2
  clear hc0_0 hc0_1 hc0_2
  go_upto_region 4 with fail
  obtain ⟨v3, hv3⟩ : ∃ x, x = w3.alloc (.cells #[.slice aA S.length cA, .slice bA M.length dA, .int .i64 L] 24) := ⟨_, rfl⟩
  rw [← hv3]
  have h3v : HH w v3 [(w.heap.size, rowO 24 [.slice aS S.length cS, .slice aM M.length cM, .int .i64 L]), (w3.heap.size, rowO 24 [.slice aA S.length cA, .slice bA M.length dA, .int .i64 L])] [] := by
    rw [hv3]; exact H3.out.alloc #[.slice aA S.length cA, .slice bA M.length dA, .int .i64 L] 24 rfl rfl
  have hb3v : Below w3.heap.size w3 v3 := by rw [hv3]; exact (Below.refl _ _).alloc (Nat.le_refl _) _
  have H3v := Lib.hid h3v
  have HIA : Hid (∀ W', Below v3.heap.size v3 W' → IntsAt W' aA SA ∧ IntsAt W' bA MA) := Lib.hid fun W' h => ⟨(hiA.later hb3v).later h, (hjA.later hb3v).later h⟩
  have HBA := Lib.hid (Below.refl v3.heap.size v3)
  generalize w3.heap.size = qA at *
  clear hv3 h3v hb3v hiA hjA H3
  have hc0_0 := H3v.out.cell (k := 0) (i := 0) rfl rfl
  have hc0_1 := H3v.out.cell (k := 0) (i := 1) rfl rfl
  have hc0_2 := H3v.out.cell (k := 0) (i := 2) rfl rfl
  go_wp2_with fail
  refine (H44.out v3 H3v.out.below).mono ?_
  rintro e w4 ⟨aB, bB, cB, dB, rfl, hiB, hjB, hb4⟩
  have H4 := Lib.hid (H3v.out.call hb4)
  replace HBA := Lib.hid (below_step HBA.out hb4)
  clear hb4 H3v
  clear hc0_0 hc0_1 hc0_2
  go_upto_region 5 with fail
  obtain ⟨v4, hv4⟩ : ∃ x, x = w4.alloc (.cells #[.slice aB S.length cB, .slice bB M.length dB, .int .i64 L] 24) := ⟨_, rfl⟩
  rw [← hv4]
  have h4v : HH w v4 [(w.heap.size, rowO 24 [.slice aS S.length cS, .slice aM M.length cM, .int .i64 L]), (qA, rowO 24 [.slice aA S.length cA, .slice bA M.length dA, .int .i64 L]), (w4.heap.size, rowO 24 [.slice aB S.length cB, .slice bB M.length dB, .int .i64 L])] [] := by
    rw [hv4]; exact H4.out.alloc #[.slice aB S.length cB, .slice bB M.length dB, .int .i64 L] 24 rfl rfl
  have hb4v : Below w4.heap.size w4 v4 := by rw [hv4]; exact (Below.refl _ _).alloc (Nat.le_refl _) _
  have H4v := Lib.hid h4v
  replace HBA := Lib.hid (below_step HBA.out hb4v)
  have HIB : Hid (∀ W', Below v4.heap.size v4 W' → IntsAt W' aB SB ∧ IntsAt W' bB MB) := Lib.hid fun W' h => ⟨(hiB.later hb4v).later h, (hjB.later hb4v).later h⟩
  have HBB := Lib.hid (Below.refl v4.heap.size v4)
  generalize w4.heap.size = qB at *
  clear hv4 h4v hb4v hiB hjB H4
  have hc0_0 := H4v.out.cell (k := 0) (i := 0) rfl rfl
  have hc0_1 := H4v.out.cell (k := 0) (i := 1) rfl rfl
  have hc0_2 := H4v.out.cell (k := 0) (i := 2) rfl rfl
  go_wp2_with fail
  refine (H45.out v4 H4v.out.below).mono ?_
  rintro e w5 ⟨aC, bC, cC, dC, rfl, hiC, hjC, hb5⟩
  have H5 := Lib.hid (H4v.out.call hb5)
  replace HBA := Lib.hid (below_step HBA.out hb5)
  replace HBB := Lib.hid (below_step HBB.out hb5)
  clear hb5 H4v
  clear hc0_0 hc0_1 hc0_2
  go_upto_region 6 with fail
  obtain ⟨v5, hv5⟩ : ∃ x, x = w5.alloc (.cells #[.slice aC S.length cC, .slice bC M.length dC, .int .i64 L] 24) := ⟨_, rfl⟩
  rw [← hv5]
  have h5v : HH w v5 [(w.heap.size, rowO 24 [.slice aS S.length cS, .slice aM M.length cM, .int .i64 L]), (qA, rowO 24 [.slice aA S.length cA, .slice bA M.length dA, .int .i64 L]), (qB, rowO 24 [.slice aB S.length cB, .slice bB M.length dB, .int .i64 L]), (w5.heap.size, rowO 24 [.slice aC S.length cC, .slice bC M.length dC, .int .i64 L])] [] := by
    rw [hv5]; exact H5.out.alloc #[.slice aC S.length cC, .slice bC M.length dC, .int .i64 L] 24 rfl rfl
  have hb5v : Below w5.heap.size w5 v5 := by rw [hv5]; exact (Below.refl _ _).alloc (Nat.le_refl _) _
  have H5v := Lib.hid h5v
  replace HBA := Lib.hid (below_step HBA.out hb5v)
  replace HBB := Lib.hid (below_step HBB.out hb5v)
  have HIC : Hid (∀ W', Below v5.heap.size v5 W' → IntsAt W' aC S ∧ IntsAt W' bC MC) := Lib.hid fun W' h => ⟨(hiC.later hb5v).later h, (hjC.later hb5v).later h⟩
  have HBC := Lib.hid (Below.refl v5.heap.size v5)
  generalize w5.heap.size = qC at *
  clear hv5 h5v hb5v hiC hjC H5
  have hc0_0 := H5v.out.cell (k := 0) (i := 0) rfl rfl
  have hc0_1 := H5v.out.cell (k := 0) (i := 1) rfl rfl
  have hc0_2 := H5v.out.cell (k := 0) (i := 2) rfl rfl
  go_wp2_with fail
  refine (H32.out v5 H5v.out.below).mono ?_
  rintro e w6 ⟨rfl, hb6⟩
  have H6 := Lib.hid (H5v.out.call hb6)
  replace HBA := Lib.hid (below_step HBA.out hb6)
  replace HBB := Lib.hid (below_step HBB.out hb6)
  replace HBC := Lib.hid (below_step HBC.out hb6)
  clear hb6 H5v
  clear hc0_0 hc0_1 hc0_2
  have HK : Hid (∀ W', Below w6.heap.size w6 W' → HH w W' [(w.heap.size, rowO 24 [.slice aS S.length cS, .slice aM M.length cM, .int .i64 L]), (qA, rowO 24 [.slice aA S.length cA, .slice bA M.length dA, .int .i64 L]), (qB, rowO 24 [.slice aB S.length cB, .slice bB M.length dB, .int .i64 L]), (qC, rowO 24 [.slice aC S.length cC, .slice bC M.length dC, .int .i64 L])] []) := Lib.hid fun W' h => H6.out.call h
  have HVA : Hid (∀ W', Below w6.heap.size w6 W' → IntsAt W' aA SA ∧ IntsAt W' bA MA) := Lib.hid fun W' h => HIA.out W' (below_of HBA.out h HBA.out.size)
  have HVB : Hid (∀ W', Below w6.heap.size w6 W' → IntsAt W' aB SB ∧ IntsAt W' bB MB) := Lib.hid fun W' h => HIB.out W' (below_of HBB.out h HBB.out.size)
  have HVC : Hid (∀ W', Below w6.heap.size w6 W' → IntsAt W' aC S ∧ IntsAt W' bC MC) := Lib.hid fun W' h => HIC.out W' (below_of HBC.out h HBC.out.size)
  clear H6
  go_upto_region 8 with fail
  have HKS : Hid (∀ w', Below w6.heap.size w6 w' → w'.cell? ⟨w.heap.size, 0, none⟩ = some (.slice aS S.length cS) ∧ w'.cell? ⟨w.heap.size, 1, none⟩ = some (.slice aM M.length cM) ∧ w'.cell? ⟨w.heap.size, 2, none⟩ = some (.int .i64 L) ∧ w'.cell? ⟨qA, 0, none⟩ = some (.slice aA S.length cA) ∧ w'.cell? ⟨qA, 1, none⟩ = some (.slice bA M.length dA) ∧ w'.cell? ⟨qA, 2, none⟩ = some (.int .i64 L) ∧ w'.cell? ⟨qB, 0, none⟩ = some (.slice aB S.length cB) ∧ w'.cell? ⟨qB, 1, none⟩ = some (.slice bB M.length dB) ∧ w'.cell? ⟨qB, 2, none⟩ = some (.int .i64 L) ∧ w'.cell? ⟨qC, 0, none⟩ = some (.slice aC S.length cC) ∧ w'.cell? ⟨qC, 1, none⟩ = some (.slice bC M.length dC) ∧ w'.cell? ⟨qC, 2, none⟩ = some (.int .i64 L)) := Lib.hid fun w' h => ⟨(HK.out _ h).cell (k := 0) (i := 0) rfl rfl, (HK.out _ h).cell (k := 0) (i := 1) rfl rfl, (HK.out _ h).cell (k := 0) (i := 2) rfl rfl, (HK.out _ h).cell (k := 1) (i := 0) rfl rfl, (HK.out _ h).cell (k := 1) (i := 1) rfl rfl, (HK.out _ h).cell (k := 1) (i := 2) rfl rfl, (HK.out _ h).cell (k := 2) (i := 0) rfl rfl, (HK.out _ h).cell (k := 2) (i := 1) rfl rfl, (HK.out _ h).cell (k := 2) (i := 2) rfl rfl, (HK.out _ h).cell (k := 3) (i := 0) rfl rfl, (HK.out _ h).cell (k := 3) (i := 1) rfl rfl, (HK.out _ h).cell (k := 3) (i := 2) rfl rfl⟩
  have Hr := Lib.hid ((Below.refl w6.heap.size w6).drew)
  go_region_held3 (fun w' => w'.cell? ⟨w.heap.size, 0, none⟩ = some (.slice aS S.length cS) ∧ w'.cell? ⟨w.heap.size, 1, none⟩ = some (.slice aM M.length cM) ∧ w'.cell? ⟨w.heap.size, 2, none⟩ = some (.int .i64 L) ∧ w'.cell? ⟨qA, 0, none⟩ = some (.slice aA S.length cA) ∧ w'.cell? ⟨qA, 1, none⟩ = some (.slice bA M.length dA) ∧ w'.cell? ⟨qA, 2, none⟩ = some (.int .i64 L) ∧ w'.cell? ⟨qB, 0, none⟩ = some (.slice aB S.length cB) ∧ w'.cell? ⟨qB, 1, none⟩ = some (.slice bB M.length dB) ∧ w'.cell? ⟨qB, 2, none⟩ = some (.int .i64 L) ∧ w'.cell? ⟨qC, 0, none⟩ = some (.slice aC S.length cC) ∧ w'.cell? ⟨qC, 1, none⟩ = some (.slice bC M.length dC) ∧ w'.cell? ⟨qC, 2, none⟩ = some (.int .i64 L))
    (first
      | with_reducible exact HKS.out _ Hr.out)
    (first
      | ((with_reducible refine (H48.out _ (HK.out _ Hr.out).below).mono ?_); rintro e wn ⟨aG, bG, cG, dG, rfl, hiG, hjG, hbx⟩; have HGG := Lib.hid (And.intro hiG hjG); clear hiG hjG; replace Hr := Lib.hid (below_of Hr.out hbx Hr.out.size); clear hbx)
      | ((with_reducible refine (HEA.out aA bA aG bG cA dA cG dG _ (HVA.out _ Hr.out).1 (HVA.out _ Hr.out).2 HGG.out.1 HGG.out.2).mono ?_); rintro e wn ⟨rfl, hbx⟩; clear HGG; replace Hr := Lib.hid (below_of Hr.out hbx Hr.out.size); clear hbx)
      | ((with_reducible refine (H49.out _ (HK.out _ Hr.out).below).mono ?_); rintro e wn ⟨aP, bP, cP, dP, rfl, hiP, hjP, hbx⟩; have HGP := Lib.hid (And.intro hiP hjP); clear hiP hjP; replace Hr := Lib.hid (below_of Hr.out hbx Hr.out.size); clear hbx)
      | ((with_reducible refine (HEB.out aB bB aP bP cB dB cP dP _ (HVB.out _ Hr.out).1 (HVB.out _ Hr.out).2 HGP.out.1 HGP.out.2).mono ?_); rintro e wn ⟨rfl, hbx⟩; clear HGP; replace Hr := Lib.hid (below_of Hr.out hbx Hr.out.size); clear hbx)
      | ((with_reducible refine (H50.out _ (HK.out _ Hr.out).below).mono ?_); rintro e wn ⟨aU, bU, cU, dU, rfl, hiU, hjU, hbx⟩; have HGU := Lib.hid (And.intro hiU hjU); clear hiU hjU; replace Hr := Lib.hid (below_of Hr.out hbx Hr.out.size); clear hbx)
      | ((with_reducible refine (HEC.out aC bC aU bU cC dC cU dU _ (HVC.out _ Hr.out).1 (HVC.out _ Hr.out).2 HGU.out.1 HGU.out.2).mono ?_); rintro e wn ⟨rfl, hbx⟩; clear HGU; replace Hr := Lib.hid (below_of Hr.out hbx Hr.out.size); clear hbx))
  all_goals
    go_wp2_with fail
    go_ret
    exact ⟨rfl, (HK.out _ Hr.out).below⟩
theorem mwh_any (S M : List Int) (L : Int) (aS aM : Option Addr) (cS cM : Nat) (w : World) (hSl : S.length ≤ maxLen) (hMl : M.length ≤ maxLen) (_ : (Lit.int .i64 L).wf = true) (hS : IntsAt w aS S) (hM : IntsAt w aM M) :
    Calls Try.prog 5 #[.agg #[.slice aS S.length cS, .slice aM M.length cM, .int .i64 L]] w fun e w' => e = .returned (.bool true) ∧ Below w.heap.size w w' := by
  by_cases hf : few6B S M = true
  · by_cases hv : vldB S M L = true
    · exact mwh_yes S M L aS aM cS cM w hf hv hS hM
    · exact mwh_no S M L aS aM cS cM w hf (by simpa using hv) hS hM
  · exact mwh_large S M L aS aM cS cM w hSl hMl (by simpa using hf)
end Go.Proofs.Ytkopbcehfbmnmaa
