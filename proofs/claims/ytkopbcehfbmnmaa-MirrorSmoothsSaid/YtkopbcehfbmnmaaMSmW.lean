/- The walk of the law MirrorSmooths. -/
import Derived.Test.YtkopbcehfbmnmaaAwake6
import Derived.Test.YtkopbcehfbmnmaaSameA
import Derived.Test.YtkopbcehfbmnmaaSmoothD
import Derived.Test.YtkopbcehfbmnmaaTauA
import Derived.Test.YtkopbcehfbmnmaaSwitchW
namespace Go.Proofs.Ytkopbcehfbmnmaa
open Go Go.RowKit
set_option maxRecDepth 100000 in
set_option maxHeartbeats 16000000 in
theorem mss_large (S M : List Int) (L : Int) (aS aM : Option Addr) (cS cM : Nat) (k : Int) (w : World) (hSl : S.length ≤ maxLen) (hMl : M.length ≤ maxLen) (hf : few6B S M = false) :
    Calls Try.prog 13 #[.agg #[.slice aS S.length cS, .slice aM M.length cM, .int .i64 L], .int .u8 k] w fun e w' => e = .returned (.bool true) ∧ Below w.heap.size w w' := by
  obtain ⟨W, hW⟩ : ∃ W, W = (w.alloc (.cells #[.slice aS S.length cS, .slice aM M.length cM, .int .i64 L] 24)) := ⟨_, rfl⟩
  have h0 : HH w W [(w.heap.size, rowO 24 [.slice aS S.length cS, .slice aM M.length cM, .int .i64 L])] [] := by rw [hW]; exact ((HH.start w).alloc #[.slice aS S.length cS, .slice aM M.length cM, .int .i64 L] 24 rfl rfl)
  have H0 := Lib.hid h0
  have HF : Hid (∀ W', Calls Try.prog 42 #[.agg #[.slice aS S.length cS, .slice aM M.length cM, .int .i64 L]] W' fun e w' => e = .returned (.bool false) ∧ Below W'.heap.size W' w') := Lib.hid fun W' => by rw [← hf]; exact few6_any S M L aS aM cS cM W' hSl hMl
  clear hf hSl hMl h0
  go_enter Try.func13, Try.ntmps13
  go_wp2_with fail
  rw [← hW]
  clear hW
  refine (awake6_any W).mono ?_
  rintro e w1 ⟨rfl, hb1⟩
  have H1 := Lib.hid (H0.out.call hb1)
  clear hb1 H0
  have hc0_0 := H1.out.cell (k := 0) (i := 0) rfl rfl
  have hc0_1 := H1.out.cell (k := 0) (i := 1) rfl rfl
  have hc0_2 := H1.out.cell (k := 0) (i := 2) rfl rfl
  go_wp2_with fail
  refine (HF.out w1).mono ?_
  rintro e w2 ⟨rfl, hb2⟩
  have H2 := Lib.hid (H1.out.call hb2)
  clear hb2 H1
  clear hc0_0 hc0_1 hc0_2
  have hc0_0 := H2.out.cell (k := 0) (i := 0) rfl rfl
  have hc0_1 := H2.out.cell (k := 0) (i := 1) rfl rfl
  have hc0_2 := H2.out.cell (k := 0) (i := 2) rfl rfl
  go_wp2_with fail
  refine (awake6_any w2).mono ?_
  rintro e w3 ⟨rfl, hb3⟩
  have H3 := Lib.hid (H2.out.call hb3)
  clear hb3 H2
  clear hc0_0 hc0_1 hc0_2
  have hc0_0 := H3.out.cell (k := 0) (i := 0) rfl rfl
  have hc0_1 := H3.out.cell (k := 0) (i := 1) rfl rfl
  have hc0_2 := H3.out.cell (k := 0) (i := 2) rfl rfl
  go_wp2_with fail
  go_ret
  exact ⟨rfl, H3.out.below⟩
set_option maxRecDepth 100000 in
set_option maxHeartbeats 16000000 in
theorem mss_no (S M : List Int) (L : Int) (aS aM : Option Addr) (cS cM : Nat) (k : Int) (w : World) (hf : few6B S M = true) (hv : vldB S M L = false) (hS : IntsAt w aS S) (hM : IntsAt w aM M) :
    Calls Try.prog 13 #[.agg #[.slice aS S.length cS, .slice aM M.length cM, .int .i64 L], .int .u8 k] w fun e w' => e = .returned (.bool true) ∧ Below w.heap.size w w' := by
  have hl : S.length ≤ 14 ∧ M.length ≤ 70 := by
    have := of_decide_eq_true hf
    exact ⟨this.1, this.2⟩
  have hSl : S.length ≤ 1000000000 := by omega
  have hMl : M.length ≤ 1000000000 := by omega
  obtain ⟨W, hW⟩ : ∃ W, W = (w.alloc (.cells #[.slice aS S.length cS, .slice aM M.length cM, .int .i64 L] 24)) := ⟨_, rfl⟩
  have h0 : HH w W [(w.heap.size, rowO 24 [.slice aS S.length cS, .slice aM M.length cM, .int .i64 L])] [] := by rw [hW]; exact ((HH.start w).alloc #[.slice aS S.length cS, .slice aM M.length cM, .int .i64 L] 24 rfl rfl)
  have H0 := Lib.hid h0
  have H42 : Hid (∀ W', Below w.heap.size w W' → Calls Try.prog 42 #[.agg #[.slice aS S.length cS, .slice aM M.length cM, .int .i64 L]] W' fun e w' => e = .returned (.bool true) ∧ Below W'.heap.size W' w') := Lib.hid fun W' hW' => by rw [← hf]; exact few6_any S M L aS aM cS cM W' (by unfold maxLen; omega) (by unfold maxLen; omega)
  have H39 : Hid (∀ W', Below w.heap.size w W' → Calls Try.prog 39 #[.agg #[.slice aS S.length cS, .slice aM M.length cM, .int .i64 L]] W' fun e w' => e = .returned (.bool false) ∧ Below W'.heap.size W' w') := Lib.hid fun W' hW' => by rw [← hv]; exact valid_any S M L aS aM cS cM W' hSl hMl (hS.later hW') (hM.later hW')
  clear hf hv hSl hMl hS hM hl h0
  go_enter Try.func13, Try.ntmps13
  go_wp2_with fail
  rw [← hW]
  clear hW
  refine (awake6_any W).mono ?_
  rintro e w1 ⟨rfl, hb1⟩
  have H1 := Lib.hid (H0.out.call hb1)
  clear hb1 H0
  have hc0_0 := H1.out.cell (k := 0) (i := 0) rfl rfl
  have hc0_1 := H1.out.cell (k := 0) (i := 1) rfl rfl
  have hc0_2 := H1.out.cell (k := 0) (i := 2) rfl rfl
  go_wp2_with fail
  refine (H42.out w1 H1.out.below).mono ?_
  rintro e w2 ⟨rfl, hb2⟩
  have H2 := Lib.hid (H1.out.call hb2)
  clear hb2 H1
  clear hc0_0 hc0_1 hc0_2
  have hc0_0 := H2.out.cell (k := 0) (i := 0) rfl rfl
  have hc0_1 := H2.out.cell (k := 0) (i := 1) rfl rfl
  have hc0_2 := H2.out.cell (k := 0) (i := 2) rfl rfl
  go_wp2_with fail
  refine (H39.out w2 H2.out.below).mono ?_
  rintro e w3 ⟨rfl, hb3⟩
  have H3 := Lib.hid (H2.out.call hb3)
  clear hb3 H2
  clear hc0_0 hc0_1 hc0_2
  have hc0_0 := H3.out.cell (k := 0) (i := 0) rfl rfl
  have hc0_1 := H3.out.cell (k := 0) (i := 1) rfl rfl
  have hc0_2 := H3.out.cell (k := 0) (i := 2) rfl rfl
  go_wp2_with fail
  refine (awake6_any w3).mono ?_
  rintro e w4 ⟨rfl, hb4⟩
  have H4 := Lib.hid (H3.out.call hb4)
  clear hb4 H3
  clear hc0_0 hc0_1 hc0_2
  have hc0_0 := H4.out.cell (k := 0) (i := 0) rfl rfl
  have hc0_1 := H4.out.cell (k := 0) (i := 1) rfl rfl
  have hc0_2 := H4.out.cell (k := 0) (i := 2) rfl rfl
  go_wp2_with fail
  go_ret
  exact ⟨rfl, H4.out.below⟩
set_option maxRecDepth 100000 in
set_option maxHeartbeats 16000000 in
theorem mss_zero (S M : List Int) (L : Int) (aS aM : Option Addr) (cS cM : Nat) (k : Int) (w : World) (hf : few6B S M = true) (hv : vldB S M L = true) (hn : S.length = 0) (hS : IntsAt w aS S) (hM : IntsAt w aM M) :
    Calls Try.prog 13 #[.agg #[.slice aS S.length cS, .slice aM M.length cM, .int .i64 L], .int .u8 k] w fun e w' => e = .returned (.bool true) ∧ Below w.heap.size w w' := by
  have hl : S.length ≤ 14 ∧ M.length ≤ 70 := by
    have := of_decide_eq_true hf
    exact ⟨this.1, this.2⟩
  have hSl : S.length ≤ 1000000000 := by omega
  have hMl : M.length ≤ 1000000000 := by omega
  obtain ⟨W, hW⟩ : ∃ W, W = (w.alloc (.cells #[.slice aS S.length cS, .slice aM M.length cM, .int .i64 L] 24)) := ⟨_, rfl⟩
  have h0 : HH w W [(w.heap.size, rowO 24 [.slice aS S.length cS, .slice aM M.length cM, .int .i64 L])] [] := by rw [hW]; exact ((HH.start w).alloc #[.slice aS S.length cS, .slice aM M.length cM, .int .i64 L] 24 rfl rfl)
  have H0 := Lib.hid h0
  have H42 : Hid (∀ W', Below w.heap.size w W' → Calls Try.prog 42 #[.agg #[.slice aS S.length cS, .slice aM M.length cM, .int .i64 L]] W' fun e w' => e = .returned (.bool true) ∧ Below W'.heap.size W' w') := Lib.hid fun W' hW' => by rw [← hf]; exact few6_any S M L aS aM cS cM W' (by unfold maxLen; omega) (by unfold maxLen; omega)
  have H39 : Hid (∀ W', Below w.heap.size w W' → Calls Try.prog 39 #[.agg #[.slice aS S.length cS, .slice aM M.length cM, .int .i64 L]] W' fun e w' => e = .returned (.bool true) ∧ Below W'.heap.size W' w') := Lib.hid fun W' hW' => by rw [← hv]; exact valid_any S M L aS aM cS cM W' hSl hMl (hS.later hW') (hM.later hW')
  have Hn := Lib.hid hn
  clear hf hv hSl hMl hS hM hl h0 hn
  go_enter Try.func13, Try.ntmps13
  go_wp2_with fail
  rw [← hW]
  clear hW
  refine (awake6_any W).mono ?_
  rintro e w1 ⟨rfl, hb1⟩
  have H1 := Lib.hid (H0.out.call hb1)
  clear hb1 H0
  have hc0_0 := H1.out.cell (k := 0) (i := 0) rfl rfl
  have hc0_1 := H1.out.cell (k := 0) (i := 1) rfl rfl
  have hc0_2 := H1.out.cell (k := 0) (i := 2) rfl rfl
  go_wp2_with fail
  refine (H42.out w1 H1.out.below).mono ?_
  rintro e w2 ⟨rfl, hb2⟩
  have H2 := Lib.hid (H1.out.call hb2)
  clear hb2 H1
  clear hc0_0 hc0_1 hc0_2
  have hc0_0 := H2.out.cell (k := 0) (i := 0) rfl rfl
  have hc0_1 := H2.out.cell (k := 0) (i := 1) rfl rfl
  have hc0_2 := H2.out.cell (k := 0) (i := 2) rfl rfl
  go_wp2_with fail
  refine (H39.out w2 H2.out.below).mono ?_
  rintro e w3 ⟨rfl, hb3⟩
  have H3 := Lib.hid (H2.out.call hb3)
  clear hb3 H2
  clear hc0_0 hc0_1 hc0_2
  have hc0_0 := H3.out.cell (k := 0) (i := 0) rfl rfl
  have hc0_1 := H3.out.cell (k := 0) (i := 1) rfl rfl
  have hc0_2 := H3.out.cell (k := 0) (i := 2) rfl rfl
  have hn := Hn.out
  go_wp2_with fail
  clear hn
  refine (awake6_any w3).mono ?_
  rintro e w4 ⟨rfl, hb4⟩
  have H4 := Lib.hid (H3.out.call hb4)
  clear hb4 H3
  clear hc0_0 hc0_1 hc0_2
  have hc0_0 := H4.out.cell (k := 0) (i := 0) rfl rfl
  have hc0_1 := H4.out.cell (k := 0) (i := 1) rfl rfl
  have hc0_2 := H4.out.cell (k := 0) (i := 2) rfl rfl
  go_wp2_with fail
  go_ret
  exact ⟨rfl, H4.out.below⟩
set_option maxRecDepth 100000 in
set_option maxHeartbeats 16000000 in
theorem mss_many (S M : List Int) (L : Int) (aS aM : Option Addr) (cS cM : Nat) (k : Int) (w : World) (hf : few6B S M = true) (hv : vldB S M L = true) (hn : 0 < S.length) (hL : 62 < L) (hS : IntsAt w aS S) (hM : IntsAt w aM M) :
    Calls Try.prog 13 #[.agg #[.slice aS S.length cS, .slice aM M.length cM, .int .i64 L], .int .u8 k] w fun e w' => e = .returned (.bool true) ∧ Below w.heap.size w w' := by
  have hl : S.length ≤ 14 ∧ M.length ≤ 70 := by
    have := of_decide_eq_true hf
    exact ⟨this.1, this.2⟩
  have hSl : S.length ≤ 1000000000 := by omega
  have hMl : M.length ≤ 1000000000 := by omega
  obtain ⟨W, hW⟩ : ∃ W, W = (w.alloc (.cells #[.slice aS S.length cS, .slice aM M.length cM, .int .i64 L] 24)) := ⟨_, rfl⟩
  have h0 : HH w W [(w.heap.size, rowO 24 [.slice aS S.length cS, .slice aM M.length cM, .int .i64 L])] [] := by rw [hW]; exact ((HH.start w).alloc #[.slice aS S.length cS, .slice aM M.length cM, .int .i64 L] 24 rfl rfl)
  have H0 := Lib.hid h0
  have H42 : Hid (∀ W', Below w.heap.size w W' → Calls Try.prog 42 #[.agg #[.slice aS S.length cS, .slice aM M.length cM, .int .i64 L]] W' fun e w' => e = .returned (.bool true) ∧ Below W'.heap.size W' w') := Lib.hid fun W' hW' => by rw [← hf]; exact few6_any S M L aS aM cS cM W' (by unfold maxLen; omega) (by unfold maxLen; omega)
  have H39 : Hid (∀ W', Below w.heap.size w W' → Calls Try.prog 39 #[.agg #[.slice aS S.length cS, .slice aM M.length cM, .int .i64 L]] W' fun e w' => e = .returned (.bool true) ∧ Below W'.heap.size W' w') := Lib.hid fun W' hW' => by rw [← hv]; exact valid_any S M L aS aM cS cM W' hSl hMl (hS.later hW') (hM.later hW')
  have hn2 : ¬ S.length = 0 := by omega
  have ht : decide (62 < L) = true := decide_eq_true hL
  clear hf hv hSl hMl hS hM hl h0 hn hL
  go_enter Try.func13, Try.ntmps13
  go_wp2_with fail
  rw [← hW]
  clear hW
  refine (awake6_any W).mono ?_
  rintro e w1 ⟨rfl, hb1⟩
  have H1 := Lib.hid (H0.out.call hb1)
  clear hb1 H0
  have hc0_0 := H1.out.cell (k := 0) (i := 0) rfl rfl
  have hc0_1 := H1.out.cell (k := 0) (i := 1) rfl rfl
  have hc0_2 := H1.out.cell (k := 0) (i := 2) rfl rfl
  go_wp2_with fail
  refine (H42.out w1 H1.out.below).mono ?_
  rintro e w2 ⟨rfl, hb2⟩
  have H2 := Lib.hid (H1.out.call hb2)
  clear hb2 H1
  clear hc0_0 hc0_1 hc0_2
  have hc0_0 := H2.out.cell (k := 0) (i := 0) rfl rfl
  have hc0_1 := H2.out.cell (k := 0) (i := 1) rfl rfl
  have hc0_2 := H2.out.cell (k := 0) (i := 2) rfl rfl
  go_wp2_with fail
  refine (H39.out w2 H2.out.below).mono ?_
  rintro e w3 ⟨rfl, hb3⟩
  have H3 := Lib.hid (H2.out.call hb3)
  clear hb3 H2
  clear hc0_0 hc0_1 hc0_2
  have hc0_0 := H3.out.cell (k := 0) (i := 0) rfl rfl
  have hc0_1 := H3.out.cell (k := 0) (i := 1) rfl rfl
  have hc0_2 := H3.out.cell (k := 0) (i := 2) rfl rfl
  go_wp2_with fail
  refine (awake6_any w3).mono ?_
  rintro e w4 ⟨rfl, hb4⟩
  have H4 := Lib.hid (H3.out.call hb4)
  clear hb4 H3
  clear hc0_0 hc0_1 hc0_2
  have hc0_0 := H4.out.cell (k := 0) (i := 0) rfl rfl
  have hc0_1 := H4.out.cell (k := 0) (i := 1) rfl rfl
  have hc0_2 := H4.out.cell (k := 0) (i := 2) rfl rfl
  go_wp2_with fail
  go_ret
  exact ⟨rfl, H4.out.below⟩
set_option maxRecDepth 100000 in
set_option maxHeartbeats 16000000 in
theorem mss_yes (S M : List Int) (L : Int) (aS aM : Option Addr) (cS cM : Nat) (k : Int) (w : World) (hf : few6B S M = true) (hv : vldB S M L = true) (hn : 0 < S.length) (hL : L ≤ 62) (hk0 : 0 ≤ k) (hk1 : k ≤ 255) (hS : IntsAt w aS S) (hM : IntsAt w aM M) :
    Calls Try.prog 13 #[.agg #[.slice aS S.length cS, .slice aM M.length cM, .int .i64 L], .int .u8 k] w fun e w' => e = .returned (.bool true) ∧ Below w.heap.size w w' := by
  have hl : S.length ≤ 14 ∧ M.length ≤ 70 := by
    have := of_decide_eq_true hf
    exact ⟨this.1, this.2⟩
  have hSl : S.length ≤ 1000000000 := by omega
  have hMl : M.length ≤ 1000000000 := by omega
  obtain ⟨q, hq⟩ : ∃ q : Nat, k.tmod (S.length : Int) = (q : Int) := ⟨(k.tmod S.length).toNat, by have := Int.tmod_nonneg (S.length : Int) hk0; omega⟩
  have hqN : q < S.length := by have := Int.tmod_lt_of_pos k (show (0 : Int) < S.length by omega); omega
  have hL0 := (vldB_shape hv).lo
  obtain ⟨N, hN, hNl, hNs⟩ := compsN_nat hv
  have hNe : ((strandsL S M L).length : Int) + L = (N : Int) := by rw [← hN, compsN, if_pos hv]
  have hnl := newL_le M (pS S q) q
  have hvX := sm_valid (vldB_shape hv) hqN hv (L + (newL M (pS S q) q : Nat)) (by omega) (by omega)
  have hcm := sm_comps hv hqN (L + (newL M (pS S q) q : Nat)) (by omega) (by omega)
  have hsame := same_iff hv hqN
  have hswv := ex_valid hv (fun c => decide (c = q))
  obtain ⟨sw1, sw2, sw3⟩ := sm_switch hv q hqN
  have hl1 : (smS S q).length ≤ 1000000000 := by rw [smS_len S q hqN]; omega
  have hl2 : (smM S M q).length ≤ 1000000000 := by rw [smM_len]; omega
  have hlx : ((smS S q).length : Int) = (S.length : Int) - 1 := by rw [smS_len S q hqN]; omega
  have hsl : (mulS S (swS fun c => decide (c = q))).length = S.length := mulS_len _ _
  have hcX : compsN (smS S q) (smM S M q) (L + (newL M (pS S q) q : Nat)) = (N : Int) + (if sameB q (strandsL S M L) = true then 1 else -1) := by
    rw [compsN, if_pos hvX, hsame]
    by_cases e : st S M (4 * q + 2) = st S M (4 * q + 1)
    · rw [if_pos e] at hcm; rw [if_pos (decide_eq_true e)]; omega
    · rw [if_neg e] at hcm; rw [if_neg (by rw [decide_eq_false e]; decide)]; omega
  obtain ⟨SX, hSX⟩ : ∃ x, x = smS S q := ⟨_, rfl⟩
  obtain ⟨MX, hMX⟩ : ∃ x, x = smM S M q := ⟨_, rfl⟩
  obtain ⟨LX, hLXe⟩ : ∃ x : Int, x = L + (newL M (pS S q) q : Nat) := ⟨_, rfl⟩
  obtain ⟨SY, hSY⟩ : ∃ x, x = mulS S (swS fun c => decide (c = q)) := ⟨_, rfl⟩
  obtain ⟨MY, hMY⟩ : ∃ x, x = mvL (trn (swB S fun c => decide (c = q))) M := ⟨_, rfl⟩
  rw [← hSX] at hl1 hlx
  rw [← hMX] at hl2
  rw [← hSX, ← hMX, ← hLXe] at hvX hcX
  rw [← hSY, ← hMY] at hswv
  rw [← hSY] at hsl
  have hLX : LX ≤ 64 := by omega
  obtain ⟨W, hW⟩ : ∃ W, W = (w.alloc (.cells #[.slice aS S.length cS, .slice aM M.length cM, .int .i64 L] 24)) := ⟨_, rfl⟩
  have h0 : HH w W [(w.heap.size, rowO 24 [.slice aS S.length cS, .slice aM M.length cM, .int .i64 L])] [] := by rw [hW]; exact ((HH.start w).alloc #[.slice aS S.length cS, .slice aM M.length cM, .int .i64 L] 24 rfl rfl)
  have H0 := Lib.hid h0
  have H42 : Hid (∀ W', Below w.heap.size w W' → Calls Try.prog 42 #[.agg #[.slice aS S.length cS, .slice aM M.length cM, .int .i64 L]] W' fun e w' => e = .returned (.bool true) ∧ Below W'.heap.size W' w') := Lib.hid fun W' hW' => by rw [← hf]; exact few6_any S M L aS aM cS cM W' (by unfold maxLen; omega) (by unfold maxLen; omega)
  have H39 : Hid (∀ W', Below w.heap.size w W' → Calls Try.prog 39 #[.agg #[.slice aS S.length cS, .slice aM M.length cM, .int .i64 L]] W' fun e w' => e = .returned (.bool true) ∧ Below W'.heap.size W' w') := Lib.hid fun W' hW' => by rw [← hv]; exact valid_any S M L aS aM cS cM W' hSl hMl (hS.later hW') (hM.later hW')
  have H57 : Hid (∀ W', Below w.heap.size w W' → Calls Try.prog 57 #[.agg #[.slice aS S.length cS, .slice aM M.length cM, .int .i64 L], .int .i64 (q : Int)] W' (DgR W' SX MX LX 0)) := Lib.hid fun W' hW' => by
    refine smooth_yes S M L aS aM cS cM q W' _ (fun _ e w' h => ?_) (fun g => absurd (by rw [← hLXe]; exact hLX) g) hv hqN (hS.later hW') (hM.later hW')
    rw [hSX, hMX, hLXe]; exact h
  have H52 : Hid (∀ W', Below w.heap.size w W' → Calls Try.prog 52 #[.agg #[.slice aS S.length cS, .slice aM M.length cM, .int .i64 L], .int .i64 (q : Int)] W' (DgR W' SY MY L 0)) := Lib.hid fun W' hW' => by
    rw [hSY, hMY]; exact switch_yes S M L aS aM cS cM q W' hv hqN (hS.later hW') (hM.later hW')
  have H54 : Hid (∀ W', Below w.heap.size w W' → Calls Try.prog 54 #[.agg #[.slice aS S.length cS, .slice aM M.length cM, .int .i64 L]] W' fun e w' => ∃ a c, e = .returned (.slice a (strandsL S M L).length c) ∧ Below W'.heap.size W' w' ∧ OwnRows w' W'.heap.size a c ((strandsL S M L).map nats)) := Lib.hid fun W' hW' => strands_any S M L aS aM cS cM W' hSl hMl (hS.later hW') (hM.later hW')
  have H40 : Hid (∀ W', Below w.heap.size w W' → Calls Try.prog 40 #[.agg #[.slice aS S.length cS, .slice aM M.length cM, .int .i64 L]] W' fun e w' => e = .returned (.int .i64 (N : Int)) ∧ Below W'.heap.size W' w') := Lib.hid fun W' hW' => by rw [← hN]; exact components_any S M L aS aM cS cM W' hSl hMl (hS.later hW') (hM.later hW')
  have H57b : Hid (∀ (a b : Option Addr) (c d : Nat) (W' : World), IntsAt W' a SY → IntsAt W' b MY → Calls Try.prog 57 #[.agg #[.slice a SY.length c, .slice b MY.length d, .int .i64 L], .int .i64 (q : Int)] W' (DgR W' SX MX LX 0)) := Lib.hid fun a b c d W' i1 i2 => by
    refine smooth_yes SY MY L a b c d q W' _ (fun _ e w' h => ?_) (fun g => absurd (by rw [hSY, hMY, sw3, ← hLXe]; exact hLX) g) hswv (by rw [hsl]; exact hqN) i1 i2
    rw [hSY, hMY, sw1, sw2, sw3] at h
    rw [hSX, hMX, hLXe]; exact h
  have H39b : Hid (∀ (a b : Option Addr) (c d : Nat) (W' : World), IntsAt W' a SX → IntsAt W' b MX → Calls Try.prog 39 #[.agg #[.slice a SX.length c, .slice b MX.length d, .int .i64 LX]] W' fun e w' => e = .returned (.bool true) ∧ Below W'.heap.size W' w') := Lib.hid fun a b c d W' i1 i2 => by
    rw [← hvX]; exact valid_any SX MX LX a b c d W' hl1 hl2 i1 i2
  have H40b : Hid (∀ (a b : Option Addr) (c d : Nat) (W' : World), IntsAt W' a SX → IntsAt W' b MX → Calls Try.prog 40 #[.agg #[.slice a SX.length c, .slice b MX.length d, .int .i64 LX]] W' fun e w' => e = .returned (.int .i64 ((N : Int) + (if sameB q (strandsL S M L) = true then 1 else -1))) ∧ Below W'.heap.size W' w') := Lib.hid fun a b c d W' i1 i2 => by
    rw [← hcX]; exact components_any SX MX LX a b c d W' hl1 hl2 i1 i2
  have H53 : Hid (∀ (a b a' b' : Option Addr) (c d c' d' : Nat) (W' : World), IntsAt W' a SX → IntsAt W' b MX → IntsAt W' a' SX → IntsAt W' b' MX → Calls Try.prog 53 #[.agg #[.slice a SX.length c, .slice b MX.length d, .int .i64 LX], .agg #[.slice a' SX.length c', .slice b' MX.length d', .int .i64 LX]] W' fun e w' => e = .returned (.bool true) ∧ Below W'.heap.size W' w') := Lib.hid fun a b a' b' c d c' d' W' i1 i2 i3 i4 => by
    have h := equalD_any SX MX SX MX LX LX a b a' b' c d c' d' W' hl1 hl2 i1 i2 i3 i4
    rw [show eqD SX MX LX SX MX LX = true from decide_eq_true ⟨rfl, rfl, rfl⟩] at h
    exact h
  have Hls := Lib.hid (strandsL_lists hv)
  have hn2 : ¬ S.length = 0 := by omega
  have ht : decide (62 < L) = false := decide_eq_false (by omega)
  have HlX := Lib.hid hlx
  have hS64 : S.length ≤ 64 := by omega
  clear hf hv hSl hMl hS hM hl h0 hn hL hN hNs hNe hnl hvX hcm hsame hswv sw1 sw2 sw3 hl1 hl2 hlx hsl hcX hSX hMX hLXe hSY hMY hLX
  generalize strandsL S M L = ls at *
  have hfw := Hls.out.few
  go_enter Try.func13, Try.ntmps13
  go_wp2_with fail
  rw [← hW]
  clear hW
  refine (awake6_any W).mono ?_
  rintro e w1 ⟨rfl, hb1⟩
  have H1 := Lib.hid (H0.out.call hb1)
  clear hb1 H0
  have hc0_0 := H1.out.cell (k := 0) (i := 0) rfl rfl
  have hc0_1 := H1.out.cell (k := 0) (i := 1) rfl rfl
  have hc0_2 := H1.out.cell (k := 0) (i := 2) rfl rfl
  go_wp2_with fail
  refine (H42.out w1 H1.out.below).mono ?_
  rintro e w2 ⟨rfl, hb2⟩
  have H2 := Lib.hid (H1.out.call hb2)
  clear hb2 H1
  clear hc0_0 hc0_1 hc0_2
  have hc0_0 := H2.out.cell (k := 0) (i := 0) rfl rfl
  have hc0_1 := H2.out.cell (k := 0) (i := 1) rfl rfl
  have hc0_2 := H2.out.cell (k := 0) (i := 2) rfl rfl
  go_wp2_with fail
  refine (H39.out w2 H2.out.below).mono ?_
  rintro e w3 ⟨rfl, hb3⟩
  have H3 := Lib.hid (H2.out.call hb3)
  clear hb3 H2
  clear hc0_0 hc0_1 hc0_2
  have hc0_0 := H3.out.cell (k := 0) (i := 0) rfl rfl
  have hc0_1 := H3.out.cell (k := 0) (i := 1) rfl rfl
  have hc0_2 := H3.out.cell (k := 0) (i := 2) rfl rfl
  go_wp2_with fail
  refine (H57.out w3 H3.out.below).mono ?_
  rintro e w4 ⟨aX, bX, cX, dX, rfl, hiX, hjX, hb4⟩
  have H4 := Lib.hid (H3.out.call hb4)
  clear hb4 H3
  clear hc0_0 hc0_1 hc0_2
  go_upto_region 5 with fail
  obtain ⟨v4, hv4⟩ : ∃ x, x = w4.alloc (.cells #[.slice aX SX.length cX, .slice bX MX.length dX, .int .i64 LX] 24) := ⟨_, rfl⟩
  rw [← hv4]
  have h4v : HH w v4 [(w.heap.size, rowO 24 [.slice aS S.length cS, .slice aM M.length cM, .int .i64 L]), (w4.heap.size, rowO 24 [.slice aX SX.length cX, .slice bX MX.length dX, .int .i64 LX])] [] := by
    rw [hv4]; exact H4.out.alloc #[.slice aX SX.length cX, .slice bX MX.length dX, .int .i64 LX] 24 rfl rfl
  have hb4v : Below w4.heap.size w4 v4 := by rw [hv4]; exact (Below.refl _ _).alloc (Nat.le_refl _) _
  have H4v := Lib.hid h4v
  have HIX : Hid (∀ W', Below v4.heap.size v4 W' → IntsAt W' aX SX ∧ IntsAt W' bX MX) := Lib.hid fun W' h => ⟨(hiX.later hb4v).later h, (hjX.later hb4v).later h⟩
  have HBX := Lib.hid (Below.refl v4.heap.size v4)
  generalize w4.heap.size = qX at *
  clear hv4 h4v hb4v hiX hjX H4
  have hc0_0 := H4v.out.cell (k := 0) (i := 0) rfl rfl
  have hc0_1 := H4v.out.cell (k := 0) (i := 1) rfl rfl
  have hc0_2 := H4v.out.cell (k := 0) (i := 2) rfl rfl
  go_wp2_with fail
  refine (H52.out v4 H4v.out.below).mono ?_
  rintro e w5 ⟨aY, bY, cY, dY, rfl, hiY, hjY, hb5⟩
  have H5 := Lib.hid (H4v.out.call hb5)
  replace HBX := Lib.hid (below_step HBX.out hb5)
  clear hb5 H4v
  clear hc0_0 hc0_1 hc0_2
  go_upto_region 6 with fail
  obtain ⟨v5, hv5⟩ : ∃ x, x = w5.alloc (.cells #[.slice aY SY.length cY, .slice bY MY.length dY, .int .i64 L] 24) := ⟨_, rfl⟩
  rw [← hv5]
  have h5v : HH w v5 [(w.heap.size, rowO 24 [.slice aS S.length cS, .slice aM M.length cM, .int .i64 L]), (qX, rowO 24 [.slice aX SX.length cX, .slice bX MX.length dX, .int .i64 LX]), (w5.heap.size, rowO 24 [.slice aY SY.length cY, .slice bY MY.length dY, .int .i64 L])] [] := by
    rw [hv5]; exact H5.out.alloc #[.slice aY SY.length cY, .slice bY MY.length dY, .int .i64 L] 24 rfl rfl
  have hb5v : Below w5.heap.size w5 v5 := by rw [hv5]; exact (Below.refl _ _).alloc (Nat.le_refl _) _
  have H5v := Lib.hid h5v
  replace HBX := Lib.hid (below_step HBX.out hb5v)
  have HIY : Hid (∀ W', Below v5.heap.size v5 W' → IntsAt W' aY SY ∧ IntsAt W' bY MY) := Lib.hid fun W' h => ⟨(hiY.later hb5v).later h, (hjY.later hb5v).later h⟩
  have HBY := Lib.hid (Below.refl v5.heap.size v5)
  generalize w5.heap.size = qY at *
  clear hv5 h5v hb5v hiY hjY H5
  have hc2_0 := H5v.out.cell (k := 2) (i := 0) rfl rfl
  have hc2_1 := H5v.out.cell (k := 2) (i := 1) rfl rfl
  have hc2_2 := H5v.out.cell (k := 2) (i := 2) rfl rfl
  go_wp2_with fail
  refine (H57b.out aY bY cY dY v5 (HIY.out _ HBY.out).1 (HIY.out _ HBY.out).2).mono ?_
  rintro e w6 ⟨aZ, bZ, cZ, dZ, rfl, hiZ, hjZ, hb6⟩
  have H6 := Lib.hid (H5v.out.call hb6)
  replace HBX := Lib.hid (below_step HBX.out hb6)
  replace HBY := Lib.hid (below_step HBY.out hb6)
  clear hb6 H5v
  clear hc2_0 hc2_1 hc2_2
  go_upto_region 7 with fail
  obtain ⟨v6, hv6⟩ : ∃ x, x = w6.alloc (.cells #[.slice aZ SX.length cZ, .slice bZ MX.length dZ, .int .i64 LX] 24) := ⟨_, rfl⟩
  rw [← hv6]
  have h6v : HH w v6 [(w.heap.size, rowO 24 [.slice aS S.length cS, .slice aM M.length cM, .int .i64 L]), (qX, rowO 24 [.slice aX SX.length cX, .slice bX MX.length dX, .int .i64 LX]), (qY, rowO 24 [.slice aY SY.length cY, .slice bY MY.length dY, .int .i64 L]), (w6.heap.size, rowO 24 [.slice aZ SX.length cZ, .slice bZ MX.length dZ, .int .i64 LX])] [] := by
    rw [hv6]; exact H6.out.alloc #[.slice aZ SX.length cZ, .slice bZ MX.length dZ, .int .i64 LX] 24 rfl rfl
  have hb6v : Below w6.heap.size w6 v6 := by rw [hv6]; exact (Below.refl _ _).alloc (Nat.le_refl _) _
  have H6v := Lib.hid h6v
  replace HBX := Lib.hid (below_step HBX.out hb6v)
  replace HBY := Lib.hid (below_step HBY.out hb6v)
  have HIZ : Hid (∀ W', Below v6.heap.size v6 W' → IntsAt W' aZ SX ∧ IntsAt W' bZ MX) := Lib.hid fun W' h => ⟨(hiZ.later hb6v).later h, (hjZ.later hb6v).later h⟩
  have HBZ := Lib.hid (Below.refl v6.heap.size v6)
  generalize w6.heap.size = qZ at *
  clear hv6 h6v hb6v hiZ hjZ H6
  have hc1_0 := H6v.out.cell (k := 1) (i := 0) rfl rfl
  have hc1_1 := H6v.out.cell (k := 1) (i := 1) rfl rfl
  have hc1_2 := H6v.out.cell (k := 1) (i := 2) rfl rfl
  go_wp2_with fail
  refine (H39b.out aX bX cX dX v6 (HIX.out _ HBX.out).1 (HIX.out _ HBX.out).2).mono ?_
  rintro e w7 ⟨rfl, hb7⟩
  have H7 := Lib.hid (H6v.out.call hb7)
  replace HBX := Lib.hid (below_step HBX.out hb7)
  replace HBY := Lib.hid (below_step HBY.out hb7)
  replace HBZ := Lib.hid (below_step HBZ.out hb7)
  clear hb7 H6v
  clear hc1_0 hc1_1 hc1_2
  have hc1_0 := H7.out.cell (k := 1) (i := 0) rfl rfl
  have hc1_1 := H7.out.cell (k := 1) (i := 1) rfl rfl
  have hc1_2 := H7.out.cell (k := 1) (i := 2) rfl rfl
  have hc3_0 := H7.out.cell (k := 3) (i := 0) rfl rfl
  have hc3_1 := H7.out.cell (k := 3) (i := 1) rfl rfl
  have hc3_2 := H7.out.cell (k := 3) (i := 2) rfl rfl
  go_wp2_with fail
  refine (H53.out aX bX aZ bZ cX dX cZ dZ w7 (HIX.out _ HBX.out).1 (HIX.out _ HBX.out).2 (HIZ.out _ HBZ.out).1 (HIZ.out _ HBZ.out).2).mono ?_
  rintro e w8 ⟨rfl, hb8⟩
  have H8 := Lib.hid (H7.out.call hb8)
  replace HBX := Lib.hid (below_step HBX.out hb8)
  replace HBY := Lib.hid (below_step HBY.out hb8)
  replace HBZ := Lib.hid (below_step HBZ.out hb8)
  clear hb8 H7
  clear hc1_0 hc1_1 hc1_2 hc3_0 hc3_1 hc3_2
  have hc0_0 := H8.out.cell (k := 0) (i := 0) rfl rfl
  have hc0_1 := H8.out.cell (k := 0) (i := 1) rfl rfl
  have hc0_2 := H8.out.cell (k := 0) (i := 2) rfl rfl
  have hc1_0 := H8.out.cell (k := 1) (i := 0) rfl rfl
  have hc1_1 := H8.out.cell (k := 1) (i := 1) rfl rfl
  have hc1_2 := H8.out.cell (k := 1) (i := 2) rfl rfl
  have hlx2 : (SX.length : Int) = (S.length : Int) - 1 := HlX.out
  go_wp2_with fail
  clear hlx2
  refine (H54.out w8 H8.out.below).mono ?_
  rintro e w9 ⟨A, cA, rfl, hb9, hR⟩
  have H9 := Lib.hid (H8.out.call hb9)
  replace HBX := Lib.hid (below_step HBX.out hb9)
  replace HBY := Lib.hid (below_step HBY.out hb9)
  replace HBZ := Lib.hid (below_step HBZ.out hb9)
  have HR := Lib.hid hR
  clear hb9 hR H8
  clear hc0_0 hc0_1 hc0_2 hc1_0 hc1_1 hc1_2
  go_wp2_with fail
  go_loopg [12, 101] ls.length (fun g sm v wr => ∃ i : Nat, i ≤ ls.length ∧ g = ls.length - i ∧ v = .int .i64 i ∧ sm = .bool (sameB q (ls.take i)) ∧ w9 = wr)
  case atStart => exact ⟨0, Nat.zero_le _, rfl, rfl, rfl, rfl⟩
  case round =>
    obtain ⟨i, hi, rfl, rfl, rfl, rfl⟩ := hrel
    by_cases hil : i < ls.length
    · obtain ⟨l, hl⟩ : ∃ l, ls[i]? = some l := ⟨_, List.getElem?_eq_getElem hil⟩
      obtain ⟨b, off, rfl, _, hbF, hF⟩ := HR.out.open (by rw [List.length_map]; omega)
      obtain ⟨aR, cR, hcF, hoR⟩ := hF i (nats l) (by rw [List.getElem?_map, hl]; rfl)
      rw [nats_length] at hcF
      have hll := Hls.out.len i l hl
      have Hlt := Lib.hid (fun j x => Hls.out.lt i l j x hl)
      have HoR := Lib.hid hoR
      have Hsn : Hid (sameB q (ls.take (i + 1)) = (sameB q (ls.take i) || decide (atC q l = 2))) := Lib.hid (by
        have h1 : ls[i] = l := by
          have h2 := List.getElem?_eq_getElem hil
          rw [h2] at hl
          exact Option.some.inj hl
        rw [List.take_succ_eq_append_getElem hil, sameB_snoc, h1])
      clear hF hoR hl
      generalize sameB q (ls.take i) = sb at *
      go_wp2_with fail
      go_loopg [15, 107] l.length (fun g n v wr => ∃ j : Nat, j ≤ l.length ∧ g = l.length - j ∧ v = .int .i64 j ∧ n = .int .i64 ((atC q (l.take j) : Nat) : Int) ∧ w9 = wr)
      case atStart => exact ⟨0, Nat.zero_le _, rfl, rfl, rfl, rfl⟩
      case round =>
        clear hcF
        obtain ⟨j, hj, rfl, rfl, rfl, rfl⟩ := hrel
        by_cases hjl : j < l.length
        · obtain ⟨bR, oR, rfl, _, _, hcR, _⟩ := HoR.out.open (by rw [ints_length, nats_length]; omega)
          have hcx := hcR j _ (ints_get _ _ (by rw [nats_length]; exact hjl))
          have hx := List.getElem?_eq_getElem hjl
          have hxd : l.getD j 0 = l[j] := by rw [List.getD_eq_getElem?_getD, hx]; rfl
          rw [nth_nats _ _ hjl, hxd] at hcx
          have hx4 := Hlt.out j _ hx
          have Hst : Hid (atC q (l.take (j + 1)) = atC q (l.take j) + if l[j] / 4 = q then 1 else 0) := Lib.hid (by rw [List.take_succ_eq_append_getElem hjl, atC_snoc])
          have hct : atC q (l.take j) ≤ j := by
            have := List.countP_le_length (p := fun h => decide (h / 4 = q)) (l := l.take j)
            have h2 : (l.take j).length ≤ j := List.length_take_le _ _
            exact Nat.le_trans this h2
          clear hcR hx hxd
          generalize l[j] = x at *
          by_cases hxq : x / 4 = q
          · have hxi : (x : Int) / 4 = (q : Int) := by omega
            have Hs2 : Hid (((atC q (l.take (j + 1)) : Nat) : Int) = ((atC q (l.take j) : Nat) : Int) + 1) := Lib.hid (by rw [Hst.out, if_pos hxq]; omega)
            clear hxq
            generalize atC q (l.take j) = ct at *
            go_wp2_with fail
            go_roundg (l.length - (j + 1))
            case measure => omega
            case rel => exact ⟨j + 1, by omega, rfl, by go_num, by rw [Hs2.out], rfl⟩
          · have hxi : ¬ (x : Int) / 4 = (q : Int) := by omega
            have hxj : ((x : Int) / 4 == (q : Int)) = false := by rw [beq_eq_false_iff_ne]; exact hxi
            have Hs2 : Hid (((atC q (l.take (j + 1)) : Nat) : Int) = ((atC q (l.take j) : Nat) : Int)) := Lib.hid (by rw [Hst.out, if_neg hxq]; rfl)
            clear hxq
            generalize atC q (l.take j) = ct at *
            go_wp2_with fail
            go_roundg (l.length - (j + 1))
            case measure => omega
            case rel => exact ⟨j + 1, by omega, rfl, by go_num, by rw [Hs2.out], rfl⟩
        · obtain rfl : j = l.length := by omega
          rw [List.take_length]
          by_cases hc2 : atC q l = 2
          · have hc3 : ((atC q l : Nat) : Int) = 2 := by omega
            have Hs2 : Hid (sameB q (ls.take (i + 1)) = true) := Lib.hid (by rw [Hsn.out, decide_eq_true hc2, Bool.or_true])
            clear hc2
            generalize ((atC q l : Nat) : Int) = ct at *
            cases sb <;> (
              go_wp2_with fail
              go_roundg (ls.length - (i + 1))
              case measure => omega
              case rel => exact ⟨i + 1, by omega, rfl, by go_num, by rw [Hs2.out], rfl⟩)
          · have hc3 : ¬ ((atC q l : Nat) : Int) = 2 := by omega
            have hc4 : (((atC q l : Nat) : Int) == 2) = false := by rw [beq_eq_false_iff_ne]; exact hc3
            have Hs2 : Hid (sameB q (ls.take (i + 1)) = sb) := Lib.hid (by rw [Hsn.out, decide_eq_false hc2, Bool.or_false])
            clear hc2
            generalize ((atC q l : Nat) : Int) = ct at *
            cases sb <;> (
              go_wp2_with fail
              go_roundg (ls.length - (i + 1))
              case measure => omega
              case rel => exact ⟨i + 1, by omega, rfl, by go_num, by rw [Hs2.out], rfl⟩)
    · obtain rfl : i = ls.length := by omega
      rw [List.take_length]
      generalize sameB q ls = sb at *
      cases sb
      · have hd : ((N : Int) + -1 == (N : Int) - 1) = true := by rw [beq_iff_eq]; omega
        have hc0_0 := H9.out.cell (k := 0) (i := 0) rfl rfl
        have hc0_1 := H9.out.cell (k := 0) (i := 1) rfl rfl
        have hc0_2 := H9.out.cell (k := 0) (i := 2) rfl rfl
        go_wp2_with fail
        refine (H40.out w9 H9.out.below).mono ?_
        rintro e w10 ⟨rfl, hb10⟩
        have H10 := Lib.hid (H9.out.call hb10)
        replace HBX := Lib.hid (below_step HBX.out hb10)
        replace HBY := Lib.hid (below_step HBY.out hb10)
        replace HBZ := Lib.hid (below_step HBZ.out hb10)
        clear hb10 H9
        clear hc0_0 hc0_1 hc0_2
        have hc1_0 := H10.out.cell (k := 1) (i := 0) rfl rfl
        have hc1_1 := H10.out.cell (k := 1) (i := 1) rfl rfl
        have hc1_2 := H10.out.cell (k := 1) (i := 2) rfl rfl
        go_wp2_with fail
        refine (H40b.out aX bX cX dX w10 (HIX.out _ HBX.out).1 (HIX.out _ HBX.out).2).mono ?_
        rintro e w11 ⟨rfl, hb11⟩
        have H11 := Lib.hid (H10.out.call hb11)
        replace HBX := Lib.hid (below_step HBX.out hb11)
        replace HBY := Lib.hid (below_step HBY.out hb11)
        replace HBZ := Lib.hid (below_step HBZ.out hb11)
        clear hb11 H10
        clear hc1_0 hc1_1 hc1_2
        go_wp2_with fail
        go_ret
        exact ⟨rfl, H11.out.below⟩
      · have hd : ((N : Int) + 1 == (N : Int) - 1 + 2) = true := by rw [beq_iff_eq]; omega
        have hc0_0 := H9.out.cell (k := 0) (i := 0) rfl rfl
        have hc0_1 := H9.out.cell (k := 0) (i := 1) rfl rfl
        have hc0_2 := H9.out.cell (k := 0) (i := 2) rfl rfl
        go_wp2_with fail
        refine (H40.out w9 H9.out.below).mono ?_
        rintro e w10 ⟨rfl, hb10⟩
        have H10 := Lib.hid (H9.out.call hb10)
        replace HBX := Lib.hid (below_step HBX.out hb10)
        replace HBY := Lib.hid (below_step HBY.out hb10)
        replace HBZ := Lib.hid (below_step HBZ.out hb10)
        clear hb10 H9
        clear hc0_0 hc0_1 hc0_2
        have hc1_0 := H10.out.cell (k := 1) (i := 0) rfl rfl
        have hc1_1 := H10.out.cell (k := 1) (i := 1) rfl rfl
        have hc1_2 := H10.out.cell (k := 1) (i := 2) rfl rfl
        go_wp2_with fail
        refine (H40b.out aX bX cX dX w10 (HIX.out _ HBX.out).1 (HIX.out _ HBX.out).2).mono ?_
        rintro e w11 ⟨rfl, hb11⟩
        have H11 := Lib.hid (H10.out.call hb11)
        replace HBX := Lib.hid (below_step HBX.out hb11)
        replace HBY := Lib.hid (below_step HBY.out hb11)
        replace HBZ := Lib.hid (below_step HBZ.out hb11)
        clear hb11 H10
        clear hc1_0 hc1_1 hc1_2
        go_wp2_with fail
        go_ret
        exact ⟨rfl, H11.out.below⟩
theorem mss_any (S M : List Int) (L : Int) (aS aM : Option Addr) (cS cM : Nat) (k : Int) (w : World) (hSl : S.length ≤ maxLen) (hMl : M.length ≤ maxLen) (_ : (Lit.int .i64 L).wf = true) (hS : IntsAt w aS S) (hM : IntsAt w aM M) (hk : (Lit.int .u8 k).wf = true) :
    Calls Try.prog 13 #[.agg #[.slice aS S.length cS, .slice aM M.length cM, .int .i64 L], .int .u8 k] w fun e w' => e = .returned (.bool true) ∧ Below w.heap.size w w' := by
  by_cases hf : few6B S M = true
  · by_cases hv : vldB S M L = true
    · by_cases hn : S.length = 0
      · exact mss_zero S M L aS aM cS cM k w hf hv hn hS hM
      · by_cases hL : L ≤ 62
        · simp only [Lit.wf, Bool.and_eq_true, decide_eq_true_eq] at hk
          have e1 : IntKind.u8.min = 0 := rfl
          have e2 : IntKind.u8.max = 255 := rfl
          rw [e1, e2] at hk
          exact mss_yes S M L aS aM cS cM k w hf hv (by omega) hL hk.1 hk.2 hS hM
        · exact mss_many S M L aS aM cS cM k w hf hv (by omega) (by omega) hS hM
    · exact mss_no S M L aS aM cS cM k w hf (by simpa using hv) hS hM
  · exact mss_large S M L aS aM cS cM k w hSl hMl (by simpa using hf)
end Go.Proofs.Ytkopbcehfbmnmaa
