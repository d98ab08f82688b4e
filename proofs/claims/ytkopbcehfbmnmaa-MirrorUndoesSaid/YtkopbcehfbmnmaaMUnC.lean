/- The walk of the law MirrorUndoes, kind 4; the early ways. -/
import Derived.Test.YtkopbcehfbmnmaaAwake6
import Derived.Test.YtkopbcehfbmnmaaMCmW
import Derived.Test.YtkopbcehfbmnmaaOper4
import Derived.Test.YtkopbcehfbmnmaaMUnP
namespace Go.Proofs.Ytkopbcehfbmnmaa
open Go Go.RowKit
set_option maxRecDepth 100000 in
set_option maxHeartbeats 16000000 in
theorem mun_large (S M : List Int) (L : Int) (aS aM : Option Addr) (cS cM : Nat) (k n : Int) (w : World) (hSl : S.length ≤ maxLen) (hMl : M.length ≤ maxLen) (hf : few6B S M = false) :
    Calls Try.prog 18 #[.agg #[.slice aS S.length cS, .slice aM M.length cM, .int .i64 L], .int .u8 k, .int .u8 n] w fun e w' => e = .returned (.bool true) ∧ Below w.heap.size w w' := by
  obtain ⟨W, hW⟩ : ∃ W, W = (w.alloc (.cells #[.slice aS S.length cS, .slice aM M.length cM, .int .i64 L] 24)) := ⟨_, rfl⟩
  have h0 : HH w W [(w.heap.size, rowO 24 [.slice aS S.length cS, .slice aM M.length cM, .int .i64 L])] [] := by rw [hW]; exact ((HH.start w).alloc #[.slice aS S.length cS, .slice aM M.length cM, .int .i64 L] 24 rfl rfl)
  have H0 := Lib.hid h0
  have HF : Hid (∀ W', Calls Try.prog 42 #[.agg #[.slice aS S.length cS, .slice aM M.length cM, .int .i64 L]] W' fun e w' => e = .returned (.bool false) ∧ Below W'.heap.size W' w') := Lib.hid fun W' => by rw [← hf]; exact few6_any S M L aS aM cS cM W' hSl hMl
  clear hf hSl hMl h0
  go_enter Try.func18, Try.ntmps18
  go_wp2_with fail
  rw [← hW]
  clear hW
  refine (awake6_any W).mono ?_
  rintro e w1 ⟨rfl, hb1⟩
  have H1 := Lib.hid (H0.out.call hb1)
  clear hb1 H0
  have hc0_0 := H1.out.cell (k := 0) (i := 0) rfl rfl
  have hc0_1 := H1.out.cell (k := 0) (i := 1) rfl rfl
  have hc0_2 := H1.out.cell (k := 0) (i := 2) rfl rfl
  go_wp2_with fail
  refine (HF.out w1).mono ?_
  rintro e w2 ⟨rfl, hb2⟩
  have H2 := Lib.hid (H1.out.call hb2)
  clear hb2 H1
  clear hc0_0 hc0_1 hc0_2
  have hc0_0 := H2.out.cell (k := 0) (i := 0) rfl rfl
  have hc0_1 := H2.out.cell (k := 0) (i := 1) rfl rfl
  have hc0_2 := H2.out.cell (k := 0) (i := 2) rfl rfl
  go_wp2_with fail
  refine (awake6_any w2).mono ?_
  rintro e w3 ⟨rfl, hb3⟩
  have H3 := Lib.hid (H2.out.call hb3)
  clear hb3 H2
  clear hc0_0 hc0_1 hc0_2
  have hc0_0 := H3.out.cell (k := 0) (i := 0) rfl rfl
  have hc0_1 := H3.out.cell (k := 0) (i := 1) rfl rfl
  have hc0_2 := H3.out.cell (k := 0) (i := 2) rfl rfl
  go_wp2_with fail
  go_ret
  exact ⟨rfl, H3.out.below⟩
set_option maxRecDepth 100000 in
set_option maxHeartbeats 16000000 in
theorem mun_no (S M : List Int) (L : Int) (aS aM : Option Addr) (cS cM : Nat) (k n : Int) (w : World) (hf : few6B S M = true) (hv : vldB S M L = false) (hS : IntsAt w aS S) (hM : IntsAt w aM M) :
    Calls Try.prog 18 #[.agg #[.slice aS S.length cS, .slice aM M.length cM, .int .i64 L], .int .u8 k, .int .u8 n] w fun e w' => e = .returned (.bool true) ∧ Below w.heap.size w w' := by
  have hl : S.length ≤ 14 ∧ M.length ≤ 70 := by
    have := of_decide_eq_true hf
    exact ⟨this.1, this.2⟩
  have hSl : S.length ≤ 1000000000 := by omega
  have hMl : M.length ≤ 1000000000 := by omega
  obtain ⟨W, hW⟩ : ∃ W, W = (w.alloc (.cells #[.slice aS S.length cS, .slice aM M.length cM, .int .i64 L] 24)) := ⟨_, rfl⟩
  have h0 : HH w W [(w.heap.size, rowO 24 [.slice aS S.length cS, .slice aM M.length cM, .int .i64 L])] [] := by rw [hW]; exact ((HH.start w).alloc #[.slice aS S.length cS, .slice aM M.length cM, .int .i64 L] 24 rfl rfl)
  have H0 := Lib.hid h0
  have H42 : Hid (∀ W', Below w.heap.size w W' → Calls Try.prog 42 #[.agg #[.slice aS S.length cS, .slice aM M.length cM, .int .i64 L]] W' fun e w' => e = .returned (.bool true) ∧ Below W'.heap.size W' w') := Lib.hid fun W' hW' => by rw [← hf]; exact few6_any S M L aS aM cS cM W' (by unfold maxLen; omega) (by unfold maxLen; omega)
  have H39 : Hid (∀ W', Below w.heap.size w W' → Calls Try.prog 39 #[.agg #[.slice aS S.length cS, .slice aM M.length cM, .int .i64 L]] W' fun e w' => e = .returned (.bool false) ∧ Below W'.heap.size W' w') := Lib.hid fun W' hW' => by rw [← hv]; exact valid_any S M L aS aM cS cM W' hSl hMl (hS.later hW') (hM.later hW')
  clear hf hv hSl hMl hS hM hl h0
  go_enter Try.func18, Try.ntmps18
  go_wp2_with fail
  rw [← hW]
  clear hW
  refine (awake6_any W).mono ?_
  rintro e w1 ⟨rfl, hb1⟩
  have H1 := Lib.hid (H0.out.call hb1)
  clear hb1 H0
  have hc0_0 := H1.out.cell (k := 0) (i := 0) rfl rfl
  have hc0_1 := H1.out.cell (k := 0) (i := 1) rfl rfl
  have hc0_2 := H1.out.cell (k := 0) (i := 2) rfl rfl
  go_wp2_with fail
  refine (H42.out w1 H1.out.below).mono ?_
  rintro e w2 ⟨rfl, hb2⟩
  have H2 := Lib.hid (H1.out.call hb2)
  clear hb2 H1
  clear hc0_0 hc0_1 hc0_2
  have hc0_0 := H2.out.cell (k := 0) (i := 0) rfl rfl
  have hc0_1 := H2.out.cell (k := 0) (i := 1) rfl rfl
  have hc0_2 := H2.out.cell (k := 0) (i := 2) rfl rfl
  go_wp2_with fail
  refine (H39.out w2 H2.out.below).mono ?_
  rintro e w3 ⟨rfl, hb3⟩
  have H3 := Lib.hid (H2.out.call hb3)
  clear hb3 H2
  clear hc0_0 hc0_1 hc0_2
  have hc0_0 := H3.out.cell (k := 0) (i := 0) rfl rfl
  have hc0_1 := H3.out.cell (k := 0) (i := 1) rfl rfl
  have hc0_2 := H3.out.cell (k := 0) (i := 2) rfl rfl
  go_wp2_with fail
  refine (awake6_any w3).mono ?_
  rintro e w4 ⟨rfl, hb4⟩
  have H4 := Lib.hid (H3.out.call hb4)
  clear hb4 H3
  clear hc0_0 hc0_1 hc0_2
  have hc0_0 := H4.out.cell (k := 0) (i := 0) rfl rfl
  have hc0_1 := H4.out.cell (k := 0) (i := 1) rfl rfl
  have hc0_2 := H4.out.cell (k := 0) (i := 2) rfl rfl
  go_wp2_with fail
  go_ret
  exact ⟨rfl, H4.out.below⟩
set_option maxRecDepth 100000 in
set_option maxHeartbeats 16000000 in
theorem mun_four (S M : List Int) (L : Int) (aS aM : Option Addr) (cS cM : Nat) (k n N : Nat) (w : World) (hf : few6B S M = true) (hv : vldB S M L = true) (hk255 : k ≤ 255) (hn255 : n ≤ 255) (hk : k % 5 = 4) (hN : compsN S M L = (N : Int)) (hN0 : 0 < N) (hS : IntsAt w aS S) (hM : IntsAt w aM M) :
    Calls Try.prog 18 #[.agg #[.slice aS S.length cS, .slice aM M.length cM, .int .i64 L], .int .u8 (k : Int), .int .u8 (n : Int)] w fun e w' => e = .returned (.bool true) ∧ Below w.heap.size w w' := by
  have hl : S.length ≤ 14 ∧ M.length ≤ 70 := by
    have := of_decide_eq_true hf
    exact ⟨this.1, this.2⟩
  have hSl : S.length ≤ 1000000000 := by omega
  have hMl : M.length ≤ 1000000000 := by omega
  obtain ⟨W, hW⟩ : ∃ W, W = (w.alloc (.cells #[.slice aS S.length cS, .slice aM M.length cM, .int .i64 L] 24)) := ⟨_, rfl⟩
  have h0 : HH w W [(w.heap.size, rowO 24 [.slice aS S.length cS, .slice aM M.length cM, .int .i64 L])] [] := by rw [hW]; exact ((HH.start w).alloc #[.slice aS S.length cS, .slice aM M.length cM, .int .i64 L] 24 rfl rfl)
  have H0 := Lib.hid h0
  have H42 : Hid (∀ W', Below w.heap.size w W' → Calls Try.prog 42 #[.agg #[.slice aS S.length cS, .slice aM M.length cM, .int .i64 L]] W' fun e w' => e = .returned (.bool true) ∧ Below W'.heap.size W' w') := Lib.hid fun W' hW' => by rw [← hf]; exact few6_any S M L aS aM cS cM W' (by unfold maxLen; omega) (by unfold maxLen; omega)
  have H39 : Hid (∀ W', Below w.heap.size w W' → Calls Try.prog 39 #[.agg #[.slice aS S.length cS, .slice aM M.length cM, .int .i64 L]] W' fun e w' => e = .returned (.bool true) ∧ Below W'.heap.size W' w') := Lib.hid fun W' hW' => by rw [← hv]; exact valid_any S M L aS aM cS cM W' hSl hMl (hS.later hW') (hM.later hW')
  have hst : ((strandsL S M L).length : Int) + L = (N : Int) := by rw [← hN, compsN, if_pos hv]
  have hNl : N ≤ 1000 := by
    obtain ⟨N', hNx, hNy, _⟩ := comps_nat hv
    rw [hN] at hNx; omega
  obtain ⟨q, hq⟩ : ∃ x, x = n % N := ⟨_, rfl⟩
  have hqN : q < N := by rw [hq]; exact Nat.mod_lt _ hN0
  obtain ⟨j, hj1, hj2, hj3, hj4⟩ := r1_back hv q
  have hjN : j < N := by
    rw [strands_many hv] at hst
    have := (vldB_shape hv).lo
    by_cases h : q < (leasts S M).length
    · have := hj1 h; omega
    · have := hj2 (by omega); omega
  clear hj1 hj2
  obtain ⟨SA, hSA⟩ : ∃ x, x = mulS S (r1S S M q) := ⟨_, rfl⟩
  obtain ⟨MA, hMA⟩ : ∃ x, x = mvL (trn (r1B S M q)) M := ⟨_, rfl⟩
  have hvA := r1_valid hv q
  have hNA := comps_rone hv q
  have hFA := ft_rone hv q
  rw [← hSA, ← hMA] at hvA hNA hFA hj3 hj4
  have lSA : SA.length = S.length := by rw [hSA, mulS_len]
  have lMA : MA.length = M.length := by rw [hMA, mvL_len]
  rw [hN] at hNA
  obtain ⟨Fc, hFc⟩ : ∃ x, x = FT M S.length := ⟨_, rfl⟩
  rw [← hFc] at hFA
  have HO : Hid (∀ W', Below w.heap.size w W' → Calls Try.prog 69 #[.agg #[.slice aS S.length cS, .slice aM M.length cM, .int .i64 L], .int .i64 (k : Int), .int .i64 (n : Int)] W' fun e w' => ∃ (a b : Option Addr) (c d : Nat), e = .returned (.tuple #[.agg #[.slice a SA.length c, .slice b MA.length d, .int .i64 L], .bool true]) ∧ IntsAt w' a SA ∧ IntsAt w' b MA ∧ Below W'.heap.size W' w') := Lib.hid fun W' hW' => by
    have h := oper4y S M L aS aM cS cM k n N W' hv hk hst hN0 hn255 (hS.later hW') (hM.later hW')
    rw [← hq, ← hSA, ← hMA] at h
    refine h.mono ?_
    rintro e w' ⟨a, b, c, d, he, h1, h2, h3⟩
    rw [← lSA, ← lMA] at he
    exact ⟨a, b, c, d, he, h1.at, h2.at, h3⟩
  have HVA : Hid (∀ (a b : Option Addr) (c d : Nat) (W' : World), IntsAt W' a SA → IntsAt W' b MA → Calls Try.prog 39 #[.agg #[.slice a SA.length c, .slice b MA.length d, .int .i64 L]] W' fun e w' => e = .returned (.bool true) ∧ Below W'.heap.size W' w') := Lib.hid fun a b c d W' h1 h2 => by rw [← hvA]; exact valid_any SA MA L a b c d W' (by rw [lSA]; exact hSl) (by rw [lMA]; exact hMl) h1 h2
  have HFA : Hid (∀ (a b : Option Addr) (c d : Nat) (W' : World), IntsAt W' a SA → IntsAt W' b MA → Calls Try.prog 71 #[.agg #[.slice a SA.length c, .slice b MA.length d, .int .i64 L]] W' fun e w' => ∃ a c, e = .returned (.slice a Fc c) ∧ Below W'.heap.size W' w') := Lib.hid fun a b c d W' h1 h2 => by rw [← hFA]; exact faces_yes SA MA L a b c d W' hvA h1 h2
  have HFD : Hid (∀ W', Below w.heap.size w W' → Calls Try.prog 71 #[.agg #[.slice aS S.length cS, .slice aM M.length cM, .int .i64 L]] W' fun e w' => ∃ a c, e = .returned (.slice a Fc c) ∧ Below W'.heap.size W' w') := Lib.hid fun W' hW' => by rw [hFc]; exact faces_yes S M L aS aM cS cM W' hv (hS.later hW') (hM.later hW')
  have HCA : Hid (∀ (a b : Option Addr) (c d : Nat) (W' : World), IntsAt W' a SA → IntsAt W' b MA → Calls Try.prog 40 #[.agg #[.slice a SA.length c, .slice b MA.length d, .int .i64 L]] W' fun e w' => e = .returned (.int .i64 (N : Int)) ∧ Below W'.heap.size W' w') := Lib.hid fun a b c d W' h1 h2 => by rw [← hNA]; exact components_any SA MA L a b c d W' (by rw [lSA]; exact hSl) (by rw [lMA]; exact hMl) h1 h2
  have HCD : Hid (∀ W', Below w.heap.size w W' → Calls Try.prog 40 #[.agg #[.slice aS S.length cS, .slice aM M.length cM, .int .i64 L]] W' fun e w' => e = .returned (.int .i64 (N : Int)) ∧ Below W'.heap.size W' w') := Lib.hid fun W' hW' => by rw [← hN]; exact components_any S M L aS aM cS cM W' hSl hMl (hS.later hW') (hM.later hW')
  have H56 : Hid (∀ (i : Nat) (a b : Option Addr) (c d : Nat) (W' : World), i < N → IntsAt W' a SA → IntsAt W' b MA → Calls Try.prog 56 #[.agg #[.slice a SA.length c, .slice b MA.length d, .int .i64 L], .int .i64 (i : Int)] W' fun e w' => ∃ (a b : Option Addr) (c d : Nat), e = .returned (.tuple #[.agg #[.slice a SA.length c, .slice b MA.length d, .int .i64 L], .int .i64 0]) ∧ IntsAt w' a (mulS SA (r1S SA MA i)) ∧ IntsAt w' b (mvL (trn (r1B SA MA i)) MA) ∧ Below W'.heap.size W' w') := Lib.hid fun i a b c d W' hi h1 h2 => by
    refine (rone_yes SA MA L a b c d i W' hvA (by have h : compsN SA MA L = ((strandsL SA MA L).length : Int) + L := by { rw [compsN, if_pos hvA] }
                                                  rw [← h, hNA]; omega) h1 h2).mono ?_
    rintro e w' ⟨a, b, c, d, he, h1, h2, h3⟩
    rw [mulS_len, mvL_len] at he
    exact ⟨a, b, c, d, he, h1, h2, h3⟩
  have H53 : Hid (∀ (i : Nat) (a b : Option Addr) (c d : Nat) (W' : World), Below w.heap.size w W' → IntsAt W' a (mulS SA (r1S SA MA i)) → IntsAt W' b (mvL (trn (r1B SA MA i)) MA) → Calls Try.prog 53 #[.agg #[.slice a SA.length c, .slice b MA.length d, .int .i64 L], .agg #[.slice aS S.length cS, .slice aM M.length cM, .int .i64 L]] W' fun e w' => e = .returned (.bool (eqD (mulS SA (r1S SA MA i)) (mvL (trn (r1B SA MA i)) MA) L S M L)) ∧ Below W'.heap.size W' w') := Lib.hid fun i a b c d W' hW' i1 i2 => by
    have h := equalD_any (mulS SA (r1S SA MA i)) (mvL (trn (r1B SA MA i)) MA) S M L L a b aS aM c d cS cM W' (by rw [mulS_len, lSA]; exact hSl) (by rw [mvL_len, lMA]; exact hMl) i1 i2 (hS.later hW') (hM.later hW')
    rw [mulS_len, mvL_len] at h
    exact h
  have Hgood : Hid (eqD (mulS SA (r1S SA MA j)) (mvL (trn (r1B SA MA j)) MA) L S M L = true) := Lib.hid (by rw [hj3, hj4]; exact decide_eq_true ⟨rfl, rfl, rfl⟩)
  have HSM := Lib.hid (And.intro hS hM)
  have hS64 : S.length ≤ 64 := by omega
  have hM64 : M.length ≤ 70 := by omega
  have hA64 : SA.length ≤ 64 := by omega
  have hB64 : MA.length ≤ 70 := by omega
  have hk1 : (k : Int) % 5 = 4 := by omega
  have hk2 : (k : Int).tmod 5 = 4 := by rw [Int.tmod_eq_emod_of_nonneg (by omega)]; exact hk1
  clear hk hst
  clear hj3 hj4 hq hqN
  clear hf hv hSl hMl hS hM hl h0 hvA hNA hFA hFc hSA hMA lSA lMA hN
  go_enter Try.func18, Try.ntmps18
  go_wp2_with fail
  rw [← hW]
  clear hW
  refine (awake6_any W).mono ?_
  rintro e w1 ⟨rfl, hb1⟩
  have H1 := Lib.hid (H0.out.call hb1)
  clear hb1 H0
  have hc0_0 := H1.out.cell (k := 0) (i := 0) rfl rfl
  have hc0_1 := H1.out.cell (k := 0) (i := 1) rfl rfl
  have hc0_2 := H1.out.cell (k := 0) (i := 2) rfl rfl
  go_wp2_with fail
  refine (H42.out w1 H1.out.below).mono ?_
  rintro e w2 ⟨rfl, hb2⟩
  have H2 := Lib.hid (H1.out.call hb2)
  clear hb2 H1
  clear hc0_0 hc0_1 hc0_2
  have hc0_0 := H2.out.cell (k := 0) (i := 0) rfl rfl
  have hc0_1 := H2.out.cell (k := 0) (i := 1) rfl rfl
  have hc0_2 := H2.out.cell (k := 0) (i := 2) rfl rfl
  go_wp2_with fail
  refine (H39.out w2 H2.out.below).mono ?_
  rintro e w3 ⟨rfl, hb3⟩
  have H3 := Lib.hid (H2.out.call hb3)
  clear hb3 H2
  clear hc0_0 hc0_1 hc0_2
  have hc0_0 := H3.out.cell (k := 0) (i := 0) rfl rfl
  have hc0_1 := H3.out.cell (k := 0) (i := 1) rfl rfl
  have hc0_2 := H3.out.cell (k := 0) (i := 2) rfl rfl
  go_wp2_with fail
  refine (HO.out w3 H3.out.below).mono ?_
  rintro e w4 ⟨aA, bA, cA, dA, rfl, hiA, hjA, hb4⟩
  have H4 := Lib.hid (H3.out.call hb4)
  clear hb4 H3
  clear hc0_0 hc0_1 hc0_2
  go_upto_region 4 with fail
  obtain ⟨v4, hv4⟩ : ∃ x, x = w4.alloc (.cells #[.slice aA SA.length cA, .slice bA MA.length dA, .int .i64 L] 24) := ⟨_, rfl⟩
  rw [← hv4]
  have h4v : HH w v4 [(w.heap.size, rowO 24 [.slice aS S.length cS, .slice aM M.length cM, .int .i64 L]), (w4.heap.size, rowO 24 [.slice aA SA.length cA, .slice bA MA.length dA, .int .i64 L])] [] := by
    rw [hv4]; exact H4.out.alloc #[.slice aA SA.length cA, .slice bA MA.length dA, .int .i64 L] 24 rfl rfl
  have hb4v : Below w4.heap.size w4 v4 := by rw [hv4]; exact (Below.refl _ _).alloc (Nat.le_refl _) _
  have H4v := Lib.hid h4v
  have HIA : Hid (∀ W', Below v4.heap.size v4 W' → IntsAt W' aA SA ∧ IntsAt W' bA MA) := Lib.hid fun W' h => ⟨(hiA.later hb4v).later h, (hjA.later hb4v).later h⟩
  have HBA := Lib.hid (Below.refl v4.heap.size v4)
  generalize w4.heap.size = qA at *
  clear hv4 h4v hb4v hiA hjA H4
  have HK : Hid (∀ W', Below v4.heap.size v4 W' → HH w W' [(w.heap.size, rowO 24 [.slice aS S.length cS, .slice aM M.length cM, .int .i64 L]), (qA, rowO 24 [.slice aA SA.length cA, .slice bA MA.length dA, .int .i64 L])] []) := Lib.hid fun W' h => H4v.out.call h
  clear HBA H4v
  go_cut [57] (fun s57 wx => s57 = .bool false ∧ Below v4.heap.size v4 wx)
  case first =>
    have Hr := Lib.hid ((Below.refl v4.heap.size v4).drew)
    have Hz := Lib.hid ((HK.out _ Hr.out).below)
    have hq0_0 := (HK.out _ Hr.out).cell (k := 0) (i := 0) rfl rfl
    have hq0_1 := (HK.out _ Hr.out).cell (k := 0) (i := 1) rfl rfl
    have hq0_2 := (HK.out _ Hr.out).cell (k := 0) (i := 2) rfl rfl
    have hq1_0 := (HK.out _ Hr.out).cell (k := 1) (i := 0) rfl rfl
    have hq1_1 := (HK.out _ Hr.out).cell (k := 1) (i := 1) rfl rfl
    have hq1_2 := (HK.out _ Hr.out).cell (k := 1) (i := 2) rfl rfl
    go_region_with (first
      | ((with_reducible refine (HVA.out aA bA cA dA _ (HIA.out _ Hr.out).1 (HIA.out _ Hr.out).2).mono ?_); rintro e wn ⟨rfl, hbx⟩; replace Hr := Lib.hid (below_of Hr.out hbx Hr.out.size); replace Hz := Lib.hid ((HK.out _ Hr.out).below); clear hbx hq0_0 hq0_1 hq0_2 hq1_0 hq1_1 hq1_2; have hq0_0 := (HK.out _ Hr.out).cell (k := 0) (i := 0) rfl rfl; have hq0_1 := (HK.out _ Hr.out).cell (k := 0) (i := 1) rfl rfl; have hq0_2 := (HK.out _ Hr.out).cell (k := 0) (i := 2) rfl rfl; have hq1_0 := (HK.out _ Hr.out).cell (k := 1) (i := 0) rfl rfl; have hq1_1 := (HK.out _ Hr.out).cell (k := 1) (i := 1) rfl rfl; have hq1_2 := (HK.out _ Hr.out).cell (k := 1) (i := 2) rfl rfl)
      | ((with_reducible refine (HFA.out aA bA cA dA _ (HIA.out _ Hr.out).1 (HIA.out _ Hr.out).2).mono ?_); rintro e wn ⟨af, cf, rfl, hbx⟩; replace Hr := Lib.hid (below_of Hr.out hbx Hr.out.size); replace Hz := Lib.hid ((HK.out _ Hr.out).below); clear hbx hq0_0 hq0_1 hq0_2 hq1_0 hq1_1 hq1_2; have hq0_0 := (HK.out _ Hr.out).cell (k := 0) (i := 0) rfl rfl; have hq0_1 := (HK.out _ Hr.out).cell (k := 0) (i := 1) rfl rfl; have hq0_2 := (HK.out _ Hr.out).cell (k := 0) (i := 2) rfl rfl; have hq1_0 := (HK.out _ Hr.out).cell (k := 1) (i := 0) rfl rfl; have hq1_1 := (HK.out _ Hr.out).cell (k := 1) (i := 1) rfl rfl; have hq1_2 := (HK.out _ Hr.out).cell (k := 1) (i := 2) rfl rfl)
      | ((with_reducible refine (HFD.out _ Hz.out).mono ?_); rintro e wn ⟨af, cf, rfl, hbx⟩; replace Hr := Lib.hid (below_of Hr.out hbx Hr.out.size); replace Hz := Lib.hid ((HK.out _ Hr.out).below); clear hbx hq0_0 hq0_1 hq0_2 hq1_0 hq1_1 hq1_2; have hq0_0 := (HK.out _ Hr.out).cell (k := 0) (i := 0) rfl rfl; have hq0_1 := (HK.out _ Hr.out).cell (k := 0) (i := 1) rfl rfl; have hq0_2 := (HK.out _ Hr.out).cell (k := 0) (i := 2) rfl rfl; have hq1_0 := (HK.out _ Hr.out).cell (k := 1) (i := 0) rfl rfl; have hq1_1 := (HK.out _ Hr.out).cell (k := 1) (i := 1) rfl rfl; have hq1_2 := (HK.out _ Hr.out).cell (k := 1) (i := 2) rfl rfl)
      | ((with_reducible refine (HCA.out aA bA cA dA _ (HIA.out _ Hr.out).1 (HIA.out _ Hr.out).2).mono ?_); rintro e wn ⟨rfl, hbx⟩; replace Hr := Lib.hid (below_of Hr.out hbx Hr.out.size); replace Hz := Lib.hid ((HK.out _ Hr.out).below); clear hbx hq0_0 hq0_1 hq0_2 hq1_0 hq1_1 hq1_2; have hq0_0 := (HK.out _ Hr.out).cell (k := 0) (i := 0) rfl rfl; have hq0_1 := (HK.out _ Hr.out).cell (k := 0) (i := 1) rfl rfl; have hq0_2 := (HK.out _ Hr.out).cell (k := 0) (i := 2) rfl rfl; have hq1_0 := (HK.out _ Hr.out).cell (k := 1) (i := 0) rfl rfl; have hq1_1 := (HK.out _ Hr.out).cell (k := 1) (i := 1) rfl rfl; have hq1_2 := (HK.out _ Hr.out).cell (k := 1) (i := 2) rfl rfl)
      | ((with_reducible refine (HCD.out _ Hz.out).mono ?_); rintro e wn ⟨rfl, hbx⟩; replace Hr := Lib.hid (below_of Hr.out hbx Hr.out.size); replace Hz := Lib.hid ((HK.out _ Hr.out).below); clear hbx hq0_0 hq0_1 hq0_2 hq1_0 hq1_1 hq1_2; have hq0_0 := (HK.out _ Hr.out).cell (k := 0) (i := 0) rfl rfl; have hq0_1 := (HK.out _ Hr.out).cell (k := 0) (i := 1) rfl rfl; have hq0_2 := (HK.out _ Hr.out).cell (k := 0) (i := 2) rfl rfl; have hq1_0 := (HK.out _ Hr.out).cell (k := 1) (i := 0) rfl rfl; have hq1_1 := (HK.out _ Hr.out).cell (k := 1) (i := 1) rfl rfl; have hq1_2 := (HK.out _ Hr.out).cell (k := 1) (i := 2) rfl rfl))
    all_goals (go_wp2_with fail; go_meet)
    all_goals exact ⟨rfl, Hr.out⟩
  case rest =>
  obtain ⟨rfl, hbc⟩ := hcut
  have Hbc := Lib.hid hbc
  clear hbc
  have H5 := Lib.hid (HK.out _ Hbc.out)
  have hc1_0 := H5.out.cell (k := 1) (i := 0) rfl rfl
  have hc1_1 := H5.out.cell (k := 1) (i := 1) rfl rfl
  have hc1_2 := H5.out.cell (k := 1) (i := 2) rfl rfl
  go_wp2_with fail
  refine (HCA.out aA bA cA dA wc (HIA.out _ Hbc.out).1 (HIA.out _ Hbc.out).2).mono ?_
  rintro e w6 ⟨rfl, hb6⟩
  have Hb6 := Lib.hid (below_of Hbc.out hb6 Hbc.out.size)
  clear hb6 H5 hc1_0 hc1_1 hc1_2
  go_wp2_with fail
  go_loopg [63] N (fun g t wr => ∃ i : Nat, i ≤ j ∧ g = N - i ∧ t = .int .i64 i ∧ Below v4.heap.size v4 wr)
  case atStart => exact ⟨0, Nat.zero_le _, rfl, rfl, Hb6.out⟩
  case round =>
    clear Hb6
    obtain ⟨i, hi, rfl, rfl, hb⟩ := hrel
    have Hb := Lib.hid hb
    clear hb
    have hiN : i < N := by omega
    have H8 := Lib.hid (HK.out _ Hb.out)
    have hc1_0 := H8.out.cell (k := 1) (i := 0) rfl rfl
    have hc1_1 := H8.out.cell (k := 1) (i := 1) rfl rfl
    have hc1_2 := H8.out.cell (k := 1) (i := 2) rfl rfl
    go_wp2_with fail
    refine (H56.out i aA bA cA dA wr hiN (HIA.out _ Hb.out).1 (HIA.out _ Hb.out).2).mono ?_
    rintro e w9 ⟨aB, bB, cB, dB, rfl, hiB, hjB, hb9⟩
    have H9 := Lib.hid (H8.out.call hb9)
    have Hb9 := Lib.hid (below_of Hb.out hb9 Hb.out.size)
    clear hb9 H8 hc1_0 hc1_1 hc1_2
    go_upto_region 11 with fail
    obtain ⟨wx, hwx⟩ : ∃ x, x = w9.alloc (.cells #[.slice aB SA.length cB, .slice bB MA.length dB, .int .i64 L] 24) := ⟨_, rfl⟩
    rw [← hwx]
    have hx : HH w wx [(w.heap.size, rowO 24 [.slice aS S.length cS, .slice aM M.length cM, .int .i64 L]), (qA, rowO 24 [.slice aA SA.length cA, .slice bA MA.length dA, .int .i64 L]), (w9.heap.size, rowO 24 [.slice aB SA.length cB, .slice bB MA.length dB, .int .i64 L])] [] := by
      rw [hwx]; exact H9.out.alloc #[.slice aB SA.length cB, .slice bB MA.length dB, .int .i64 L] 24 rfl rfl
    have hb9x : Below w9.heap.size w9 wx := by rw [hwx]; exact (Below.refl _ _).alloc (Nat.le_refl _) _
    have HIB := Lib.hid (And.intro (hiB.later hb9x) (hjB.later hb9x))
    have Hbx := Lib.hid (below_of Hb9.out hb9x Hb9.out.size)
    have Hx := Lib.hid hx
    generalize w9.heap.size = qB at *
    clear hwx hx hb9x hiB hjB H9 Hb9
    have hc0_0 := Hx.out.cell (k := 0) (i := 0) rfl rfl
    have hc0_1 := Hx.out.cell (k := 0) (i := 1) rfl rfl
    have hc0_2 := Hx.out.cell (k := 0) (i := 2) rfl rfl
    have hc2_0 := Hx.out.cell (k := 2) (i := 0) rfl rfl
    have hc2_1 := Hx.out.cell (k := 2) (i := 1) rfl rfl
    have hc2_2 := Hx.out.cell (k := 2) (i := 2) rfl rfl
    go_wp2_with fail
    refine (H53.out i aB bB cB dB wx Hx.out.below HIB.out.1 HIB.out.2).mono ?_
    rintro e wy ⟨rfl, hby⟩
    have Hby := Lib.hid (below_of Hbx.out hby Hbx.out.size)
    have Hbf := Lib.hid (Hx.out.call hby).below
    have Hij : Hid (eqD (mulS SA (r1S SA MA i)) (mvL (trn (r1B SA MA i)) MA) L S M L = false → i + 1 ≤ j) := Lib.hid fun he => by
      have h := Hgood.out
      rcases Nat.lt_or_ge i j with g | g
      · omega
      · obtain rfl : i = j := by omega
        rw [he] at h; cases h
    clear hby Hx HIB hc0_0 hc0_1 hc0_2 hc2_0 hc2_1 hc2_2
    generalize eqD (mulS SA (r1S SA MA i)) (mvL (trn (r1B SA MA i)) MA) L S M L = t at *
    cases t
    · have Hi1 := Lib.hid (Hij.out rfl)
      clear Hij
      go_wp2_with fail
      go_roundg (N - (i + 1))
      case measure => omega
      case rel => exact ⟨i + 1, Hi1.out, rfl, by go_num, Hby.out⟩
    · go_wp2_with fail
      go_ret
      exact ⟨rfl, Hbf.out⟩
end Go.Proofs.Ytkopbcehfbmnmaa
