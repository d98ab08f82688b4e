/- The walk of the law MirrorCommutes. -/
import Derived.Test.YtkopbcehfbmnmaaAwake6
import Derived.Test.YtkopbcehfbmnmaaOperW
namespace Go.Proofs.Ytkopbcehfbmnmaa
open Go Go.RowKit
theorem oper_yes (S M : List Int) (L : Int) (aS aM : Option Addr) (cS cM : Nat) (k n : Nat) (w : World) (hv : vldB S M L = true) (hk : k % 5 < 4) (hn : n ≤ 255) (hS : IntsAt w aS S) (hM : IntsAt w aM M) :
    Calls Try.prog 69 #[.agg #[.slice aS S.length cS, .slice aM M.length cM, .int .i64 L], .int .i64 (k : Int), .int .i64 (n : Int)] w (OpR w S M (mulS S (opG (k % 5) (n % S.length))) (mvL (opT S (k % 5) (n % S.length)) M) L) := by
  rcases (show k % 5 = 0 ∨ k % 5 = 1 ∨ k % 5 = 2 ∨ k % 5 = 3 from by omega) with h | h | h | h
  · have := oper0 S M L aS aM cS cM k n w hv h hS hM
    rw [h]; exact this
  · have := oper1 S M L aS aM cS cM k n w hv h hS hM
    rw [h]; exact this
  · have := oper2 S M L aS aM cS cM k n w hv h hS hM
    rw [h]; exact this
  · rw [h]
    by_cases hs : S.length = 0
    · exact oper3z S M L aS aM cS cM k n w hv h hs
    · exact oper3y S M L aS aM cS cM k n w hv h (by omega) hn hS hM
set_option maxRecDepth 100000 in
set_option maxHeartbeats 16000000 in
theorem mcm_large (S M : List Int) (L : Int) (aS aM : Option Addr) (cS cM : Nat) (k1 k2 n1 n2 : Int) (w : World) (hSl : S.length ≤ maxLen) (hMl : M.length ≤ maxLen) (hf : few6B S M = false) :
    Calls Try.prog 16 #[.agg #[.slice aS S.length cS, .slice aM M.length cM, .int .i64 L], .int .u8 k1, .int .u8 k2, .int .u8 n1, .int .u8 n2] w fun e w' => e = .returned (.bool true) ∧ Below w.heap.size w w' := by
  obtain ⟨W, hW⟩ : ∃ W, W = (w.alloc (.cells #[.slice aS S.length cS, .slice aM M.length cM, .int .i64 L] 24)) := ⟨_, rfl⟩
  have h0 : HH w W [(w.heap.size, rowO 24 [.slice aS S.length cS, .slice aM M.length cM, .int .i64 L])] [] := by rw [hW]; exact ((HH.start w).alloc #[.slice aS S.length cS, .slice aM M.length cM, .int .i64 L] 24 rfl rfl)
  have H0 := Lib.hid h0
  have HF : Hid (∀ W', Calls Try.prog 42 #[.agg #[.slice aS S.length cS, .slice aM M.length cM, .int .i64 L]] W' fun e w' => e = .returned (.bool false) ∧ Below W'.heap.size W' w') := Lib.hid fun W' => by rw [← hf]; exact few6_any S M L aS aM cS cM W' hSl hMl
  clear hf hSl hMl h0
  go_enter Try.func16, Try.ntmps16
  go_wp2_with fail
  rw [← hW]
  clear hW
  refine (awake6_any W).mono ?_
  rintro e w1 ⟨rfl, hb1⟩
  have H1 := Lib.hid (H0.out.call hb1)
  clear hb1 H0
  have hc0_0 := H1.out.cell (k := 0) (i := 0) rfl rfl
  have hc0_1 := H1.out.cell (k := 0) (i := 1) rfl rfl
  have hc0_2 := H1.out.cell (k := 0) (i := 2) rfl rfl
  go_wp2_with fail
  refine (HF.out w1).mono ?_
  rintro e w2 ⟨rfl, hb2⟩
  have H2 := Lib.hid (H1.out.call hb2)
  clear hb2 H1
  clear hc0_0 hc0_1 hc0_2
  have hc0_0 := H2.out.cell (k := 0) (i := 0) rfl rfl
  have hc0_1 := H2.out.cell (k := 0) (i := 1) rfl rfl
  have hc0_2 := H2.out.cell (k := 0) (i := 2) rfl rfl
  go_wp2_with fail
  refine (awake6_any w2).mono ?_
  rintro e w3 ⟨rfl, hb3⟩
  have H3 := Lib.hid (H2.out.call hb3)
  clear hb3 H2
  clear hc0_0 hc0_1 hc0_2
  have hc0_0 := H3.out.cell (k := 0) (i := 0) rfl rfl
  have hc0_1 := H3.out.cell (k := 0) (i := 1) rfl rfl
  have hc0_2 := H3.out.cell (k := 0) (i := 2) rfl rfl
  go_wp2_with fail
  go_ret
  exact ⟨rfl, H3.out.below⟩
set_option maxRecDepth 100000 in
set_option maxHeartbeats 16000000 in
theorem mcm_no (S M : List Int) (L : Int) (aS aM : Option Addr) (cS cM : Nat) (k1 k2 n1 n2 : Int) (w : World) (hf : few6B S M = true) (hv : vldB S M L = false) (hS : IntsAt w aS S) (hM : IntsAt w aM M) :
    Calls Try.prog 16 #[.agg #[.slice aS S.length cS, .slice aM M.length cM, .int .i64 L], .int .u8 k1, .int .u8 k2, .int .u8 n1, .int .u8 n2] w fun e w' => e = .returned (.bool true) ∧ Below w.heap.size w w' := by
  have hl : S.length ≤ 14 ∧ M.length ≤ 70 := by
    have := of_decide_eq_true hf
    exact ⟨this.1, this.2⟩
  have hSl : S.length ≤ 1000000000 := by omega
  have hMl : M.length ≤ 1000000000 := by omega
  obtain ⟨W, hW⟩ : ∃ W, W = (w.alloc (.cells #[.slice aS S.length cS, .slice aM M.length cM, .int .i64 L] 24)) := ⟨_, rfl⟩
  have h0 : HH w W [(w.heap.size, rowO 24 [.slice aS S.length cS, .slice aM M.length cM, .int .i64 L])] [] := by rw [hW]; exact ((HH.start w).alloc #[.slice aS S.length cS, .slice aM M.length cM, .int .i64 L] 24 rfl rfl)
  have H0 := Lib.hid h0
  have H42 : Hid (∀ W', Below w.heap.size w W' → Calls Try.prog 42 #[.agg #[.slice aS S.length cS, .slice aM M.length cM, .int .i64 L]] W' fun e w' => e = .returned (.bool true) ∧ Below W'.heap.size W' w') := Lib.hid fun W' hW' => by rw [← hf]; exact few6_any S M L aS aM cS cM W' (by unfold maxLen; omega) (by unfold maxLen; omega)
  have H39 : Hid (∀ W', Below w.heap.size w W' → Calls Try.prog 39 #[.agg #[.slice aS S.length cS, .slice aM M.length cM, .int .i64 L]] W' fun e w' => e = .returned (.bool false) ∧ Below W'.heap.size W' w') := Lib.hid fun W' hW' => by rw [← hv]; exact valid_any S M L aS aM cS cM W' hSl hMl (hS.later hW') (hM.later hW')
  clear hf hv hSl hMl hS hM hl h0
  go_enter Try.func16, Try.ntmps16
  go_wp2_with fail
  rw [← hW]
  clear hW
  refine (awake6_any W).mono ?_
  rintro e w1 ⟨rfl, hb1⟩
  have H1 := Lib.hid (H0.out.call hb1)
  clear hb1 H0
  have hc0_0 := H1.out.cell (k := 0) (i := 0) rfl rfl
  have hc0_1 := H1.out.cell (k := 0) (i := 1) rfl rfl
  have hc0_2 := H1.out.cell (k := 0) (i := 2) rfl rfl
  go_wp2_with fail
  refine (H42.out w1 H1.out.below).mono ?_
  rintro e w2 ⟨rfl, hb2⟩
  have H2 := Lib.hid (H1.out.call hb2)
  clear hb2 H1
  clear hc0_0 hc0_1 hc0_2
  have hc0_0 := H2.out.cell (k := 0) (i := 0) rfl rfl
  have hc0_1 := H2.out.cell (k := 0) (i := 1) rfl rfl
  have hc0_2 := H2.out.cell (k := 0) (i := 2) rfl rfl
  go_wp2_with fail
  refine (H39.out w2 H2.out.below).mono ?_
  rintro e w3 ⟨rfl, hb3⟩
  have H3 := Lib.hid (H2.out.call hb3)
  clear hb3 H2
  clear hc0_0 hc0_1 hc0_2
  have hc0_0 := H3.out.cell (k := 0) (i := 0) rfl rfl
  have hc0_1 := H3.out.cell (k := 0) (i := 1) rfl rfl
  have hc0_2 := H3.out.cell (k := 0) (i := 2) rfl rfl
  go_wp2_with fail
  refine (awake6_any w3).mono ?_
  rintro e w4 ⟨rfl, hb4⟩
  have H4 := Lib.hid (H3.out.call hb4)
  clear hb4 H3
  clear hc0_0 hc0_1 hc0_2
  have hc0_0 := H4.out.cell (k := 0) (i := 0) rfl rfl
  have hc0_1 := H4.out.cell (k := 0) (i := 1) rfl rfl
  have hc0_2 := H4.out.cell (k := 0) (i := 2) rfl rfl
  go_wp2_with fail
  go_ret
  exact ⟨rfl, H4.out.below⟩
set_option maxRecDepth 100000 in
set_option maxHeartbeats 16000000 in
theorem mcm_yes (S M : List Int) (L : Int) (aS aM : Option Addr) (cS cM : Nat) (k1 k2 n1 n2 : Nat) (w : World) (hf : few6B S M = true) (hv : vldB S M L = true) (hk1 : k1 ≤ 255) (hk2 : k2 ≤ 255) (hn1 : n1 ≤ 255) (hn2 : n2 ≤ 255) (hS : IntsAt w aS S) (hM : IntsAt w aM M) :
    Calls Try.prog 16 #[.agg #[.slice aS S.length cS, .slice aM M.length cM, .int .i64 L], .int .u8 (k1 : Int), .int .u8 (k2 : Int), .int .u8 (n1 : Int), .int .u8 (n2 : Int)] w fun e w' => e = .returned (.bool true) ∧ Below w.heap.size w w' := by
  have hl : S.length ≤ 14 ∧ M.length ≤ 70 := by
    have := of_decide_eq_true hf
    exact ⟨this.1, this.2⟩
  have hSl : S.length ≤ 1000000000 := by omega
  have hMl : M.length ≤ 1000000000 := by omega
  obtain ⟨W, hW⟩ : ∃ W, W = (w.alloc (.cells #[.slice aS S.length cS, .slice aM M.length cM, .int .i64 L] 24)) := ⟨_, rfl⟩
  have h0 : HH w W [(w.heap.size, rowO 24 [.slice aS S.length cS, .slice aM M.length cM, .int .i64 L])] [] := by rw [hW]; exact ((HH.start w).alloc #[.slice aS S.length cS, .slice aM M.length cM, .int .i64 L] 24 rfl rfl)
  have H0 := Lib.hid h0
  have H42 : Hid (∀ W', Below w.heap.size w W' → Calls Try.prog 42 #[.agg #[.slice aS S.length cS, .slice aM M.length cM, .int .i64 L]] W' fun e w' => e = .returned (.bool true) ∧ Below W'.heap.size W' w') := Lib.hid fun W' hW' => by rw [← hf]; exact few6_any S M L aS aM cS cM W' (by unfold maxLen; omega) (by unfold maxLen; omega)
  have H39 : Hid (∀ W', Below w.heap.size w W' → Calls Try.prog 39 #[.agg #[.slice aS S.length cS, .slice aM M.length cM, .int .i64 L]] W' fun e w' => e = .returned (.bool true) ∧ Below W'.heap.size W' w') := Lib.hid fun W' hW' => by rw [← hv]; exact valid_any S M L aS aM cS cM W' hSl hMl (hS.later hW') (hM.later hW')
  obtain ⟨a, ha⟩ : ∃ x, x = k1 % 4 := ⟨_, rfl⟩
  obtain ⟨b, hb⟩ : ∃ x, x = k2 % 4 := ⟨_, rfl⟩
  have ha4 : a < 4 := by omega
  have hb4 : b < 4 := by omega
  have hka : (k1 : Int) % 4 = (a : Int) := by omega
  have hkb : (k2 : Int) % 4 = (b : Int) := by omega
  have hka2 : (k1 : Int).tmod 4 = (a : Int) := by rw [Int.tmod_eq_emod_of_nonneg (by omega)]; exact hka
  have hkb2 : (k2 : Int).tmod 4 = (b : Int) := by rw [Int.tmod_eq_emod_of_nonneg (by omega)]; exact hkb
  have hc := op_comm hv a b (n1 % S.length) (n2 % S.length) ha4 hb4
  have hva := op_valid hv a (n1 % S.length)
  have hvb := op_valid hv b (n2 % S.length)
  obtain ⟨SA, hSA⟩ : ∃ x, x = mulS S (opG a (n1 % S.length)) := ⟨_, rfl⟩
  obtain ⟨MA, hMA⟩ : ∃ x, x = mvL (opT S a (n1 % S.length)) M := ⟨_, rfl⟩
  obtain ⟨SB, hSB⟩ : ∃ x, x = mulS S (opG b (n2 % S.length)) := ⟨_, rfl⟩
  obtain ⟨MB, hMB⟩ : ∃ x, x = mvL (opT S b (n2 % S.length)) M := ⟨_, rfl⟩
  rw [← hSA, ← hMA] at hc hva
  rw [← hSB, ← hMB] at hc hvb
  have lSA : SA.length = S.length := by rw [hSA, mulS_len]
  have lMA : MA.length = M.length := by rw [hMA, mvL_len]
  have lSB : SB.length = S.length := by rw [hSB, mulS_len]
  have lMB : MB.length = M.length := by rw [hMB, mvL_len]
  obtain ⟨SC, hSC⟩ : ∃ x, x = mulS SA (opG b (n2 % S.length)) := ⟨_, rfl⟩
  obtain ⟨MC, hMC⟩ : ∃ x, x = mvL (opT SA b (n2 % S.length)) MA := ⟨_, rfl⟩
  have lSC : SC.length = S.length := by rw [hSC, mulS_len, lSA]
  have lMC : MC.length = M.length := by rw [hMC, mvL_len, lMA]
  rw [← hSC, ← hMC] at hc
  have HA : Hid (∀ (x y : Option Addr) (c d : Nat) W', IntsAt W' x S → IntsAt W' y M → Calls Try.prog 69 #[.agg #[.slice x S.length c, .slice y M.length d, .int .i64 L], .int .i64 (a : Int), .int .i64 (n1 : Int)] W' fun e w' => ∃ (a b : Option Addr) (c d : Nat), e = .returned (.tuple #[.agg #[.slice a S.length c, .slice b M.length d, .int .i64 L], .bool true]) ∧ RowAt w' a SA ∧ RowAt w' b MA ∧ Below W'.heap.size W' w') := Lib.hid fun x y c d W' h1 h2 => by
    have h := oper_yes S M L x y c d a n1 W' hv (by omega) (by omega) h1 h2
    rw [Nat.mod_eq_of_lt (show a < 5 by omega), ← hSA, ← hMA] at h
    unfold OpR at h
    exact h
  have HB : Hid (∀ (x y : Option Addr) (c d : Nat) W', IntsAt W' x S → IntsAt W' y M → Calls Try.prog 69 #[.agg #[.slice x S.length c, .slice y M.length d, .int .i64 L], .int .i64 (b : Int), .int .i64 (n2 : Int)] W' fun e w' => ∃ (a b : Option Addr) (c d : Nat), e = .returned (.tuple #[.agg #[.slice a S.length c, .slice b M.length d, .int .i64 L], .bool true]) ∧ RowAt w' a SB ∧ RowAt w' b MB ∧ Below W'.heap.size W' w') := Lib.hid fun x y c d W' h1 h2 => by
    have h := oper_yes S M L x y c d b n2 W' hv (by omega) (by omega) h1 h2
    rw [Nat.mod_eq_of_lt (show b < 5 by omega), ← hSB, ← hMB] at h
    unfold OpR at h
    exact h
  have HAB : Hid (∀ (x y : Option Addr) (c d : Nat) W', IntsAt W' x SA → IntsAt W' y MA → Calls Try.prog 69 #[.agg #[.slice x S.length c, .slice y M.length d, .int .i64 L], .int .i64 (b : Int), .int .i64 (n2 : Int)] W' fun e w' => ∃ (a b : Option Addr) (c d : Nat), e = .returned (.tuple #[.agg #[.slice a S.length c, .slice b M.length d, .int .i64 L], .bool true]) ∧ RowAt w' a SC ∧ RowAt w' b MC ∧ Below W'.heap.size W' w') := Lib.hid fun x y c d W' h1 h2 => by
    rw [← lSA, ← lMA]
    have h := oper_yes SA MA L x y c d b n2 W' hva (by omega) (by omega) h1 h2
    rw [Nat.mod_eq_of_lt (show b < 5 by omega)] at h
    rw [show n2 % SA.length = n2 % S.length from by rw [lSA], ← hSC, ← hMC] at h
    unfold OpR at h
    exact h
  have HBA : Hid (∀ (x y : Option Addr) (c d : Nat) W', IntsAt W' x SB → IntsAt W' y MB → Calls Try.prog 69 #[.agg #[.slice x S.length c, .slice y M.length d, .int .i64 L], .int .i64 (a : Int), .int .i64 (n1 : Int)] W' fun e w' => ∃ (a b : Option Addr) (c d : Nat), e = .returned (.tuple #[.agg #[.slice a S.length c, .slice b M.length d, .int .i64 L], .bool true]) ∧ RowAt w' a SC ∧ RowAt w' b MC ∧ Below W'.heap.size W' w') := Lib.hid fun x y c d W' h1 h2 => by
    rw [← lSB, ← lMB]
    have h := oper_yes SB MB L x y c d a n1 W' hvb (by omega) (by omega) h1 h2
    rw [Nat.mod_eq_of_lt (show a < 5 by omega)] at h
    rw [show n1 % SB.length = n1 % S.length from by rw [lSB], ← hc.1, ← hc.2] at h
    unfold OpR at h
    exact h
  have H53 : Hid (∀ (a b a' b' : Option Addr) (c d c' d' : Nat) (W' : World), IntsAt W' a SC → IntsAt W' b MC → IntsAt W' a' SC → IntsAt W' b' MC → Calls Try.prog 53 #[.agg #[.slice a S.length c, .slice b M.length d, .int .i64 L], .agg #[.slice a' S.length c', .slice b' M.length d', .int .i64 L]] W' fun e w' => e = .returned (.bool true) ∧ Below W'.heap.size W' w') := Lib.hid fun a b a' b' c d c' d' W' i1 i2 i3 i4 => by
    have h := equalD_any SC MC SC MC L L a b a' b' c d c' d' W' (by rw [lSC]; exact hSl) (by rw [lMC]; exact hMl) i1 i2 i3 i4
    rw [show eqD SC MC L SC MC L = true from decide_eq_true ⟨rfl, rfl, rfl⟩, lSC, lMC] at h
    exact h
  have HSM := Lib.hid (And.intro hS hM)
  have hS64 : S.length ≤ 64 := by omega
  have hM64 : M.length ≤ 70 := by omega
  clear hf hv hSl hMl hS hM hl h0 hc hva hvb hSA hMA hSB hMB hSC hMC lSA lMA lSB lMB lSC lMC ha hb
  go_enter Try.func16, Try.ntmps16
  go_wp2_with fail
  rw [← hW]
  clear hW
  refine (awake6_any W).mono ?_
  rintro e w1 ⟨rfl, hb1⟩
  have H1 := Lib.hid (H0.out.call hb1)
  clear hb1 H0
  have hc0_0 := H1.out.cell (k := 0) (i := 0) rfl rfl
  have hc0_1 := H1.out.cell (k := 0) (i := 1) rfl rfl
  have hc0_2 := H1.out.cell (k := 0) (i := 2) rfl rfl
  go_wp2_with fail
  refine (H42.out w1 H1.out.below).mono ?_
  rintro e w2 ⟨rfl, hb2⟩
  have H2 := Lib.hid (H1.out.call hb2)
  clear hb2 H1
  clear hc0_0 hc0_1 hc0_2
  have hc0_0 := H2.out.cell (k := 0) (i := 0) rfl rfl
  have hc0_1 := H2.out.cell (k := 0) (i := 1) rfl rfl
  have hc0_2 := H2.out.cell (k := 0) (i := 2) rfl rfl
  go_wp2_with fail
  refine (H39.out w2 H2.out.below).mono ?_
  rintro e w3 ⟨rfl, hb3⟩
  have H3 := Lib.hid (H2.out.call hb3)
  clear hb3 H2
  clear hc0_0 hc0_1 hc0_2
  have hc0_0 := H3.out.cell (k := 0) (i := 0) rfl rfl
  have hc0_1 := H3.out.cell (k := 0) (i := 1) rfl rfl
  have hc0_2 := H3.out.cell (k := 0) (i := 2) rfl rfl
  go_wp2_with fail
  refine (HA.out aS aM cS cM w3 (H3.out.came HSM.out.1) (H3.out.came HSM.out.2)).mono ?_
  rintro e w4 ⟨a4, b4, c4, d4, rfl, hi4, hj4, hb4⟩
  have H4 := Lib.hid (H3.out.call hb4)
  clear hb4 H3 hc0_0 hc0_1 hc0_2
  go_upto_region 4 with fail
  obtain ⟨w5, hw5⟩ : ∃ x, x = w4.alloc (.cells #[.slice a4 S.length c4, .slice b4 M.length d4, .int .i64 L] 24) := ⟨_, rfl⟩
  rw [← hw5]
  have h5 : HH w w5 [(w.heap.size, rowO 24 [.slice aS S.length cS, .slice aM M.length cM, .int .i64 L]), (w4.heap.size, rowO 24 [.slice a4 S.length c4, .slice b4 M.length d4, .int .i64 L])] [] := by
    rw [hw5]; exact H4.out.alloc #[.slice a4 S.length c4, .slice b4 M.length d4, .int .i64 L] 24 rfl rfl
  have HI5 : Hid (RowAt w5 a4 SA ∧ RowAt w5 b4 MA) := Lib.hid (by rw [hw5]; exact ⟨hi4.alloc _, hj4.alloc _⟩)
  have H5 := Lib.hid h5
  generalize w4.heap.size = qX at *
  clear hw5 h5 hi4 hj4 H4
  have hc0 := H5.out.cell (k := 1) (i := 0) rfl rfl
  have hc1 := H5.out.cell (k := 1) (i := 1) rfl rfl
  have hc2 := H5.out.cell (k := 1) (i := 2) rfl rfl
  go_wp2_with fail
  refine (HAB.out a4 b4 c4 d4 w5 HI5.out.1.at HI5.out.2.at).mono ?_
  rintro e w6 ⟨a6, b6, c6, d6, rfl, hi6, hj6, hb6⟩
  have H6 := Lib.hid (H5.out.call hb6)
  have HI6 := Lib.hid (And.intro hi6 hj6)
  clear hb6 hi6 hj6 H5 HI5 hc0 hc1 hc2
  have hd0 := H6.out.cell (k := 1) (i := 0) rfl rfl
  have hd1 := H6.out.cell (k := 1) (i := 1) rfl rfl
  have hd2 := H6.out.cell (k := 1) (i := 2) rfl rfl
  have hf0 := H6.out.frozen (k := 1) rfl 0
  have hf1 := H6.out.frozen (k := 1) rfl 1
  have hf2 := H6.out.frozen (k := 1) rfl 2
  go_upto_region 5 with fail
  obtain ⟨w7, hw7⟩ : ∃ x, x = (((w6.setCell ⟨qX, 0, none⟩ (.slice a6 S.length c6)).setCell ⟨qX, 1, none⟩ (.slice b6 M.length d6)).setCell ⟨qX, 2, none⟩ (.int .i64 L)) := ⟨_, rfl⟩
  rw [← hw7]
  have H7 : Hid (HH w w7 [(w.heap.size, rowO 24 [.slice aS S.length cS, .slice aM M.length cM, .int .i64 L]), (qX, rowO 24 [.slice a6 S.length c6, .slice b6 M.length d6, .int .i64 L])] []) := Lib.hid (by
    rw [hw7]; exact ((H6.out.set (k := 1) rfl 0 _).set (k := 1) rfl 1 _).set (k := 1) rfl 2 _)
  have HI7 : Hid (RowAt w7 a6 SC ∧ RowAt w7 b6 MC) := Lib.hid (by
    rw [hw7]; exact ⟨HI6.out.1.box (H6.out.row (k := 1) rfl) _ _ _, HI6.out.2.box (H6.out.row (k := 1) rfl) _ _ _⟩)
  clear hw7 H6 HI6 hd0 hd1 hd2 hf0 hf1 hf2
  have hc0 := H7.out.cell (k := 0) (i := 0) rfl rfl
  have hc1 := H7.out.cell (k := 0) (i := 1) rfl rfl
  have hc2 := H7.out.cell (k := 0) (i := 2) rfl rfl
  go_wp2_with fail
  refine (HB.out aS aM cS cM w7 (H7.out.came HSM.out.1) (H7.out.came HSM.out.2)).mono ?_
  rintro e w8 ⟨a8, b8, c8, d8, rfl, hi8, hj8, hb8⟩
  have H8 := Lib.hid (H7.out.call hb8)
  have HI8 := Lib.hid (And.intro (HI7.out.1.later hb8) (HI7.out.2.later hb8))
  clear hb8 H7 HI7 hc0 hc1 hc2
  go_upto_region 6 with fail
  obtain ⟨w9, hw9⟩ : ∃ x, x = w8.alloc (.cells #[.slice a8 S.length c8, .slice b8 M.length d8, .int .i64 L] 24) := ⟨_, rfl⟩
  rw [← hw9]
  have h9 : HH w w9 [(w.heap.size, rowO 24 [.slice aS S.length cS, .slice aM M.length cM, .int .i64 L]), (qX, rowO 24 [.slice a6 S.length c6, .slice b6 M.length d6, .int .i64 L]), (w8.heap.size, rowO 24 [.slice a8 S.length c8, .slice b8 M.length d8, .int .i64 L])] [] := by
    rw [hw9]; exact H8.out.alloc #[.slice a8 S.length c8, .slice b8 M.length d8, .int .i64 L] 24 rfl rfl
  have HI9 : Hid ((RowAt w9 a6 SC ∧ RowAt w9 b6 MC) ∧ RowAt w9 a8 SB ∧ RowAt w9 b8 MB) := Lib.hid (by rw [hw9]; exact ⟨⟨HI8.out.1.alloc _, HI8.out.2.alloc _⟩, hi8.alloc _, hj8.alloc _⟩)
  have H9 := Lib.hid h9
  generalize w8.heap.size = qY at *
  clear hw9 h9 hi8 hj8 H8 HI8
  have hc0 := H9.out.cell (k := 2) (i := 0) rfl rfl
  have hc1 := H9.out.cell (k := 2) (i := 1) rfl rfl
  have hc2 := H9.out.cell (k := 2) (i := 2) rfl rfl
  go_wp2_with fail
  refine (HBA.out a8 b8 c8 d8 w9 HI9.out.2.1.at HI9.out.2.2.at).mono ?_
  rintro e w10 ⟨a10, b10, c10, d10, rfl, hi10, hj10, hb10⟩
  have H10 := Lib.hid (H9.out.call hb10)
  have HI10 := Lib.hid (And.intro (And.intro (HI9.out.1.1.later hb10) (HI9.out.1.2.later hb10)) (And.intro hi10 hj10))
  clear hb10 hi10 hj10 H9 HI9 hc0 hc1 hc2
  have hd0 := H10.out.cell (k := 2) (i := 0) rfl rfl
  have hd1 := H10.out.cell (k := 2) (i := 1) rfl rfl
  have hd2 := H10.out.cell (k := 2) (i := 2) rfl rfl
  have hf0 := H10.out.frozen (k := 2) rfl 0
  have hf1 := H10.out.frozen (k := 2) rfl 1
  have hf2 := H10.out.frozen (k := 2) rfl 2
  go_upto_region 7 with fail
  obtain ⟨w11, hw11⟩ : ∃ x, x = (((w10.setCell ⟨qY, 0, none⟩ (.slice a10 S.length c10)).setCell ⟨qY, 1, none⟩ (.slice b10 M.length d10)).setCell ⟨qY, 2, none⟩ (.int .i64 L)) := ⟨_, rfl⟩
  rw [← hw11]
  have H11 : Hid (HH w w11 [(w.heap.size, rowO 24 [.slice aS S.length cS, .slice aM M.length cM, .int .i64 L]), (qX, rowO 24 [.slice a6 S.length c6, .slice b6 M.length d6, .int .i64 L]), (qY, rowO 24 [.slice a10 S.length c10, .slice b10 M.length d10, .int .i64 L])] []) := Lib.hid (by
    rw [hw11]; exact ((H10.out.set (k := 2) rfl 0 _).set (k := 2) rfl 1 _).set (k := 2) rfl 2 _)
  have HI11 : Hid ((RowAt w11 a6 SC ∧ RowAt w11 b6 MC) ∧ RowAt w11 a10 SC ∧ RowAt w11 b10 MC) := Lib.hid (by
    rw [hw11]; exact ⟨⟨HI10.out.1.1.box (H10.out.row (k := 2) rfl) _ _ _, HI10.out.1.2.box (H10.out.row (k := 2) rfl) _ _ _⟩, HI10.out.2.1.box (H10.out.row (k := 2) rfl) _ _ _, HI10.out.2.2.box (H10.out.row (k := 2) rfl) _ _ _⟩)
  clear hw11 H10 HI10 hd0 hd1 hd2 hf0 hf1 hf2
  have hc0 := H11.out.cell (k := 1) (i := 0) rfl rfl
  have hc1 := H11.out.cell (k := 1) (i := 1) rfl rfl
  have hc2 := H11.out.cell (k := 1) (i := 2) rfl rfl
  have hd0 := H11.out.cell (k := 2) (i := 0) rfl rfl
  have hd1 := H11.out.cell (k := 2) (i := 1) rfl rfl
  have hd2 := H11.out.cell (k := 2) (i := 2) rfl rfl
  go_wp2_with fail
  refine (H53.out a6 b6 a10 b10 c6 d6 c10 d10 w11 HI11.out.1.1.at HI11.out.1.2.at HI11.out.2.1.at HI11.out.2.2.at).mono ?_
  rintro e w12 ⟨rfl, hb12⟩
  have Hbf := Lib.hid (H11.out.call hb12)
  clear hb12
  go_wp2_with fail
  go_ret
  exact ⟨rfl, Hbf.out.below⟩
theorem mcm_any (S M : List Int) (L : Int) (aS aM : Option Addr) (cS cM : Nat) (k1 k2 n1 n2 : Int) (w : World) (hSl : S.length ≤ maxLen) (hMl : M.length ≤ maxLen) (_ : (Lit.int .i64 L).wf = true) (hS : IntsAt w aS S) (hM : IntsAt w aM M) (hk1 : (Lit.int .u8 k1).wf = true) (hk2 : (Lit.int .u8 k2).wf = true) (hn1 : (Lit.int .u8 n1).wf = true) (hn2 : (Lit.int .u8 n2).wf = true) :
    Calls Try.prog 16 #[.agg #[.slice aS S.length cS, .slice aM M.length cM, .int .i64 L], .int .u8 k1, .int .u8 k2, .int .u8 n1, .int .u8 n2] w fun e w' => e = .returned (.bool true) ∧ Below w.heap.size w w' := by
  by_cases hf : few6B S M = true
  · by_cases hv : vldB S M L = true
    · simp only [Lit.wf, Bool.and_eq_true, decide_eq_true_eq] at hk1 hk2 hn1 hn2
      have e1 : IntKind.u8.min = 0 := rfl
      have e2 : IntKind.u8.max = 255 := rfl
      rw [e1, e2] at hk1 hk2 hn1 hn2
      obtain ⟨k1, rfl⟩ : ∃ f : Nat, k1 = (f : Int) := ⟨k1.toNat, by omega⟩
      obtain ⟨k2, rfl⟩ : ∃ f : Nat, k2 = (f : Int) := ⟨k2.toNat, by omega⟩
      obtain ⟨n1, rfl⟩ : ∃ f : Nat, n1 = (f : Int) := ⟨n1.toNat, by omega⟩
      obtain ⟨n2, rfl⟩ : ∃ f : Nat, n2 = (f : Int) := ⟨n2.toNat, by omega⟩
      exact mcm_yes S M L aS aM cS cM k1 k2 n1 n2 w hf hv (by omega) (by omega) (by omega) (by omega) hS hM
    · exact mcm_no S M L aS aM cS cM k1 k2 n1 n2 w hf (by simpa using hv) hS hM
  · exact mcm_large S M L aS aM cS cM k1 k2 n1 n2 w hSl hMl (by simpa using hf)
end Go.Proofs.Ytkopbcehfbmnmaa
