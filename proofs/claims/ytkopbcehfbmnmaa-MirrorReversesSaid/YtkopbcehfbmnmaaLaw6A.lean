/- The walks of the small helpers of layer 6: few, zero, both Equals. -/
import Derived.Test.YtkopbcehfbmnmaaRefSmallW
import Derived.Test.YtkopbcehfbmnmaaHeap
namespace Go.Proofs.Ytkopbcehfbmnmaa
open Go Go.RowKit
def few6B (S M : List Int) : Bool := decide (S.length ≤ 14 ∧ M.length ≤ 70)
theorem few6_any (S M : List Int) (L : Int) (aS aM : Option Addr) (cS cM : Nat) (w : World) (hSl : S.length ≤ maxLen) (hMl : M.length ≤ maxLen) :
    Calls Try.prog 42 #[.agg #[.slice aS S.length cS, .slice aM M.length cM, .int .i64 L]] w fun e w' => e = .returned (.bool (few6B S M)) ∧ Below w.heap.size w w' := by
  have HB : Hid (∀ o, Below w.heap.size w (w.alloc o)) := Lib.hid fun o => (Below.refl _ _).alloc (Nat.le_refl _) o
  unfold maxLen at hSl hMl
  by_cases h1 : S.length ≤ 14
  · by_cases h2 : M.length ≤ 70
    · have hf : few6B S M = true := decide_eq_true ⟨h1, h2⟩
      rw [hf]
      have d3 : decide ((M.length : Int) ≤ 70) = true := decide_eq_true (by omega)
      clear hf
      go_enter Try.func42, Try.ntmps42
      go_wp2_with fail
      go_ret
      exact ⟨rfl, HB.out _⟩
    · have hf : few6B S M = false := decide_eq_false (by omega)
      rw [hf]
      have d2 : decide ((M.length : Int) ≤ 70) = false := decide_eq_false (by omega)
      clear hf
      go_enter Try.func42, Try.ntmps42
      go_wp2_with fail
      go_ret
      exact ⟨rfl, HB.out _⟩
  · have hf : few6B S M = false := decide_eq_false (by omega)
    rw [hf]
    have d1 : decide ((S.length : Int) ≤ 14) = false := decide_eq_false (by omega)
    clear hf
    go_enter Try.func42, Try.ntmps42
    go_wp2_with fail
    go_ret
    exact ⟨rfl, HB.out _⟩
theorem zero_yes (aS aM : Option Addr) (cS cM : Nat) (w : World) :
    Calls Try.prog 46 #[.agg #[.slice aS 0 cS, .slice aM 0 cM, .int .i64 0]] w fun e w' => e = .returned (.bool true) ∧ Below w.heap.size w w' := by
  have HB : Hid (∀ o, Below w.heap.size w (w.alloc o)) := Lib.hid fun o => (Below.refl _ _).alloc (Nat.le_refl _) o
  go_enter Try.func46, Try.ntmps46
  go_wp2_with fail
  go_ret
  exact ⟨rfl, HB.out _⟩
/-- Are two diagrams equal? -/
def eqD (S M : List Int) (L : Int) (T N : List Int) (K : Int) : Bool := decide (S = T ∧ M = N ∧ L = K)
set_option maxRecDepth 100000 in
set_option maxHeartbeats 4000000 in
theorem equalR_any (S M T N : List Int) (L K : Int) (aS aM bS bM : Option Addr) (cS cM dS dM : Nat) (w : World) (hSl : S.length ≤ 1000000000) (hMl : M.length ≤ 1000000000) (hS : IntsAt w aS S) (hM : IntsAt w aM M) (hT : IntsAt w bS T) (hN : IntsAt w bM N) :
    Calls Try.prog 47 #[.agg #[.slice aS S.length cS, .slice aM M.length cM, .int .i64 L], .agg #[.slice bS T.length dS, .slice bM N.length dM, .int .i64 K]] w fun e w' => e = .returned (.bool (eqD S M L T N K)) ∧ Below w.heap.size w w' := by
  obtain ⟨W, hW⟩ : ∃ W, W = ((w.alloc (.cells #[.slice aS S.length cS, .slice aM M.length cM, .int .i64 L] 24)).alloc (.cells #[.slice bS T.length dS, .slice bM N.length dM, .int .i64 K] 24)) := ⟨_, rfl⟩
  have h0 : HH w W [(w.heap.size, rowO 24 [.slice aS S.length cS, .slice aM M.length cM, .int .i64 L]), (w.heap.size + 1, rowO 24 [.slice bS T.length dS, .slice bM N.length dM, .int .i64 K])] [] := by rw [hW]; exact (((HH.start w).alloc #[.slice aS S.length cS, .slice aM M.length cM, .int .i64 L] 24 rfl rfl).alloc #[.slice bS T.length dS, .slice bM N.length dM, .int .i64 K] 24 (by simp) rfl)
  have H0 := Lib.hid h0
  have HI1 : Hid (∀ W', Below w.heap.size w W' → Calls Try.prog 107 #[.slice aS S.length cS, .slice bS T.length dS] W' fun e w' => e = .returned (.bool (decide (S = T))) ∧ Below W'.heap.size W' w') := Lib.hid fun W' h => (ints_any S T aS bS cS dS W' hSl (hS.later h) (hT.later h)).mono fun e w' ⟨he, m, hm⟩ => ⟨he, hm ▸ below_drewNN (Below.refl _ _) m⟩
  have HI2 : Hid (∀ W', Below w.heap.size w W' → Calls Try.prog 107 #[.slice aM M.length cM, .slice bM N.length dM] W' fun e w' => e = .returned (.bool (decide (M = N))) ∧ Below W'.heap.size W' w') := Lib.hid fun W' h => (ints_any M N aM bM cM dM W' hMl (hM.later h) (hN.later h)).mono fun e w' ⟨he, m, hm⟩ => ⟨he, hm ▸ below_drewNN (Below.refl _ _) m⟩
  obtain ⟨r, hr⟩ : ∃ r, r = eqD S M L T N K := ⟨_, rfl⟩
  rw [← hr]
  have Hr := Lib.hid hr
  clear h0 hS hM hT hN hSl hMl hr
  by_cases e1 : S = T
  · have g1 := decide_eq_true e1
    rw [g1] at HI1
    by_cases e2 : M = N
    · have g2 := decide_eq_true e2
      rw [g2] at HI2
      by_cases e3 : L = K
      · obtain rfl : r = true := by rw [Hr.out]; exact decide_eq_true ⟨e1, e2, e3⟩
        have t1 : (L == K) = true := by rw [e3]; exact beq_self_eq_true _
        clear e1 g1 e2 g2 e3 Hr
        go_enter Try.func47, Try.ntmps47
        go_wp2_with fail
        rw [← hW]
        clear hW
        refine (HI1.out W H0.out.below).mono ?_
        rintro e w1 ⟨rfl, hb1⟩
        have H1 := Lib.hid (H0.out.call hb1)
        clear hb1 H0
        have hc0_0 := H1.out.cell (k := 0) (i := 0) rfl rfl
        have hc0_1 := H1.out.cell (k := 0) (i := 1) rfl rfl
        have hc0_2 := H1.out.cell (k := 0) (i := 2) rfl rfl
        have hc1_0 := H1.out.cell (k := 1) (i := 0) rfl rfl
        have hc1_1 := H1.out.cell (k := 1) (i := 1) rfl rfl
        have hc1_2 := H1.out.cell (k := 1) (i := 2) rfl rfl
        go_wp2_with fail
        refine (HI2.out w1 H1.out.below).mono ?_
        rintro e w2 ⟨rfl, hb2⟩
        have H2 := Lib.hid (H1.out.call hb2)
        clear hb2 H1
        clear hc0_0 hc0_1 hc0_2 hc1_0 hc1_1 hc1_2
        have hc0_0 := H2.out.cell (k := 0) (i := 0) rfl rfl
        have hc0_1 := H2.out.cell (k := 0) (i := 1) rfl rfl
        have hc0_2 := H2.out.cell (k := 0) (i := 2) rfl rfl
        have hc1_0 := H2.out.cell (k := 1) (i := 0) rfl rfl
        have hc1_1 := H2.out.cell (k := 1) (i := 1) rfl rfl
        have hc1_2 := H2.out.cell (k := 1) (i := 2) rfl rfl
        go_wp2_with fail
        go_ret
        exact ⟨rfl, H2.out.below⟩
      · obtain rfl : r = false := by rw [Hr.out]; exact decide_eq_false (fun e => e3 e.2.2)
        have t1 : (L == K) = false := by rw [beq_eq_false_iff_ne]; exact e3
        clear e1 g1 e2 g2 e3 Hr
        go_enter Try.func47, Try.ntmps47
        go_wp2_with fail
        rw [← hW]
        clear hW
        refine (HI1.out W H0.out.below).mono ?_
        rintro e w1 ⟨rfl, hb1⟩
        have H1 := Lib.hid (H0.out.call hb1)
        clear hb1 H0
        have hc0_0 := H1.out.cell (k := 0) (i := 0) rfl rfl
        have hc0_1 := H1.out.cell (k := 0) (i := 1) rfl rfl
        have hc0_2 := H1.out.cell (k := 0) (i := 2) rfl rfl
        have hc1_0 := H1.out.cell (k := 1) (i := 0) rfl rfl
        have hc1_1 := H1.out.cell (k := 1) (i := 1) rfl rfl
        have hc1_2 := H1.out.cell (k := 1) (i := 2) rfl rfl
        go_wp2_with fail
        refine (HI2.out w1 H1.out.below).mono ?_
        rintro e w2 ⟨rfl, hb2⟩
        have H2 := Lib.hid (H1.out.call hb2)
        clear hb2 H1
        clear hc0_0 hc0_1 hc0_2 hc1_0 hc1_1 hc1_2
        have hc0_0 := H2.out.cell (k := 0) (i := 0) rfl rfl
        have hc0_1 := H2.out.cell (k := 0) (i := 1) rfl rfl
        have hc0_2 := H2.out.cell (k := 0) (i := 2) rfl rfl
        have hc1_0 := H2.out.cell (k := 1) (i := 0) rfl rfl
        have hc1_1 := H2.out.cell (k := 1) (i := 1) rfl rfl
        have hc1_2 := H2.out.cell (k := 1) (i := 2) rfl rfl
        go_wp2_with fail
        go_ret
        exact ⟨rfl, H2.out.below⟩
    · have g2 := decide_eq_false e2
      rw [g2] at HI2
      obtain rfl : r = false := by rw [Hr.out]; exact decide_eq_false (fun e => e2 e.2.1)
      clear e1 g1 e2 g2 Hr
      go_enter Try.func47, Try.ntmps47
      go_wp2_with fail
      rw [← hW]
      clear hW
      refine (HI1.out W H0.out.below).mono ?_
      rintro e w1 ⟨rfl, hb1⟩
      have H1 := Lib.hid (H0.out.call hb1)
      clear hb1 H0
      have hc0_0 := H1.out.cell (k := 0) (i := 0) rfl rfl
      have hc0_1 := H1.out.cell (k := 0) (i := 1) rfl rfl
      have hc0_2 := H1.out.cell (k := 0) (i := 2) rfl rfl
      have hc1_0 := H1.out.cell (k := 1) (i := 0) rfl rfl
      have hc1_1 := H1.out.cell (k := 1) (i := 1) rfl rfl
      have hc1_2 := H1.out.cell (k := 1) (i := 2) rfl rfl
      go_wp2_with fail
      refine (HI2.out w1 H1.out.below).mono ?_
      rintro e w2 ⟨rfl, hb2⟩
      have H2 := Lib.hid (H1.out.call hb2)
      clear hb2 H1
      clear hc0_0 hc0_1 hc0_2 hc1_0 hc1_1 hc1_2
      have hc0_0 := H2.out.cell (k := 0) (i := 0) rfl rfl
      have hc0_1 := H2.out.cell (k := 0) (i := 1) rfl rfl
      have hc0_2 := H2.out.cell (k := 0) (i := 2) rfl rfl
      have hc1_0 := H2.out.cell (k := 1) (i := 0) rfl rfl
      have hc1_1 := H2.out.cell (k := 1) (i := 1) rfl rfl
      have hc1_2 := H2.out.cell (k := 1) (i := 2) rfl rfl
      go_wp2_with fail
      go_ret
      exact ⟨rfl, H2.out.below⟩
  · have g1 := decide_eq_false e1
    rw [g1] at HI1
    obtain rfl : r = false := by rw [Hr.out]; exact decide_eq_false (fun e => e1 e.1)
    clear e1 g1 Hr
    go_enter Try.func47, Try.ntmps47
    go_wp2_with fail
    rw [← hW]
    clear hW
    refine (HI1.out W H0.out.below).mono ?_
    rintro e w1 ⟨rfl, hb1⟩
    have H1 := Lib.hid (H0.out.call hb1)
    clear hb1 H0
    have hc0_0 := H1.out.cell (k := 0) (i := 0) rfl rfl
    have hc0_1 := H1.out.cell (k := 0) (i := 1) rfl rfl
    have hc0_2 := H1.out.cell (k := 0) (i := 2) rfl rfl
    have hc1_0 := H1.out.cell (k := 1) (i := 0) rfl rfl
    have hc1_1 := H1.out.cell (k := 1) (i := 1) rfl rfl
    have hc1_2 := H1.out.cell (k := 1) (i := 2) rfl rfl
    go_wp2_with fail
    go_ret
    exact ⟨rfl, H1.out.below⟩
set_option maxRecDepth 100000 in
set_option maxHeartbeats 4000000 in
theorem sEq_any (xs ys : List Int) (a b : Option Addr) (c d : Nat) (w : World) (hx : xs.length ≤ 1000000000) (hA : IntsAt w a xs) (hB : IntsAt w b ys) :
    Calls Try.prog 74 #[.slice a xs.length c, .slice b ys.length d] w fun e w' => e = .returned (.bool (decide (xs = ys))) ∧ ∃ m, w' = w.drewN m := by
  by_cases hl : xs.length = ys.length
  · have d1 : ((xs.length : Int) != (ys.length : Int)) = false := by rw [hl]; simp
    have hl1 : xs.length ≤ ys.length := by omega
    have HA := Lib.hid hA
    have HB := Lib.hid hB
    have Hl := Lib.hid hl
    clear hl hA hB
    go_enter Try.func74, Try.ntmps74
    go_wp2_with fail
    clear d1
    go_loopg [13] xs.length (fun g v wr => ∃ k : Nat, k ≤ xs.length ∧ g = xs.length - k ∧ v = .int .i64 k ∧ (∀ i, i < k → nth xs i = nth ys i) ∧ ∃ m, wr = w.drewN m)
    case atStart => exact ⟨0, Nat.zero_le _, rfl, rfl, fun i h => absurd h (Nat.not_lt_zero i), 0, rfl⟩
    case round =>
      obtain ⟨k, hk, rfl, rfl, hq, m, rfl⟩ := hrel
      have Hq := Lib.hid hq
      clear hq
      by_cases hkl : k < xs.length
      · obtain ⟨b1, o1, rfl, _, hc1⟩ := HA.out.open (by omega)
        obtain ⟨b2, o2, rfl, _, hc2⟩ := HB.out.open (by omega)
        have hx1 := hc1 k hkl
        have hx2 := hc2 k (by omega)
        have hl2 : k < ys.length := by omega
        clear hc1 hc2
        by_cases he : nth xs k = nth ys k
        · have hne : (nth xs k != nth ys k) = false := by rw [he]; simp
          have He := Lib.hid he
          clear he
          have Hq2 : Hid (∀ i, i < k + 1 → nth xs i = nth ys i) := Lib.hid fun i hi => by
            by_cases e : i = k
            · rw [e]; exact He.out
            · exact Hq.out i (by omega)
          clear He
          generalize nth xs k = x at *
          generalize nth ys k = y at *
          go_wp2_with fail
          go_quiet (fail)
          go_wp2_with fail
          go_roundg (xs.length - (k + 1))
          case measure => omega
          case rel => exact ⟨k + 1, by omega, rfl, by go_num, Hq2.out, m + nq, rfl⟩
        · have hne : (nth xs k != nth ys k) = true := by rw [bne, Bool.not_eq_true', beq_eq_false_iff_ne]; exact he
          have Hxy : Hid (decide (xs = ys) = false) := Lib.hid (decide_eq_false fun e => he (by rw [e]))
          have he2 := he
          clear he
          generalize nth xs k = x at *
          generalize nth ys k = y at *
          go_wp2_with fail
          go_quiet (fail)
          go_wp2_with fail
          go_ret
          rw [Hxy.out]
          exact ⟨rfl, m + nq, World.drewN_drewN _ _ _⟩
      · obtain rfl : k = xs.length := by omega
        have Hxy : Hid (decide (xs = ys) = true) := Lib.hid (decide_eq_true (list_ext_nth Hl.out Hq.out))
        go_wp2_with fail
        go_ret
        rw [Hxy.out]
        exact ⟨rfl, m, rfl⟩
  · have d1 : ((xs.length : Int) != (ys.length : Int)) = true := by
      rw [bne, Bool.not_eq_true', beq_eq_false_iff_ne]; omega
    have d2 : ¬ ((xs.length : Int) = (ys.length : Int)) := by omega
    have Hxy : Hid (decide (xs = ys) = false) := Lib.hid (decide_eq_false fun e => hl (by rw [e]))
    rw [Hxy.out]
    clear hA hB
    go_enter Try.func74, Try.ntmps74
    go_wp2_with fail
    go_ret
    exact ⟨rfl, 0, rfl⟩
set_option maxRecDepth 100000 in
set_option maxHeartbeats 4000000 in
theorem equalD_any (S M T N : List Int) (L K : Int) (aS aM bS bM : Option Addr) (cS cM dS dM : Nat) (w : World) (hSl : S.length ≤ 1000000000) (hMl : M.length ≤ 1000000000) (hS : IntsAt w aS S) (hM : IntsAt w aM M) (hT : IntsAt w bS T) (hN : IntsAt w bM N) :
    Calls Try.prog 53 #[.agg #[.slice aS S.length cS, .slice aM M.length cM, .int .i64 L], .agg #[.slice bS T.length dS, .slice bM N.length dM, .int .i64 K]] w fun e w' => e = .returned (.bool (eqD S M L T N K)) ∧ Below w.heap.size w w' := by
  obtain ⟨W, hW⟩ : ∃ W, W = ((w.alloc (.cells #[.slice aS S.length cS, .slice aM M.length cM, .int .i64 L] 24)).alloc (.cells #[.slice bS T.length dS, .slice bM N.length dM, .int .i64 K] 24)) := ⟨_, rfl⟩
  have h0 : HH w W [(w.heap.size, rowO 24 [.slice aS S.length cS, .slice aM M.length cM, .int .i64 L]), (w.heap.size + 1, rowO 24 [.slice bS T.length dS, .slice bM N.length dM, .int .i64 K])] [] := by rw [hW]; exact (((HH.start w).alloc #[.slice aS S.length cS, .slice aM M.length cM, .int .i64 L] 24 rfl rfl).alloc #[.slice bS T.length dS, .slice bM N.length dM, .int .i64 K] 24 (by simp) rfl)
  have H0 := Lib.hid h0
  have HI1 : Hid (∀ W', Below w.heap.size w W' → Calls Try.prog 74 #[.slice aS S.length cS, .slice bS T.length dS] W' fun e w' => e = .returned (.bool (decide (S = T))) ∧ Below W'.heap.size W' w') := Lib.hid fun W' h => (sEq_any S T aS bS cS dS W' hSl (hS.later h) (hT.later h)).mono fun e w' ⟨he, m, hm⟩ => ⟨he, hm ▸ below_drewNN (Below.refl _ _) m⟩
  have HI2 : Hid (∀ W', Below w.heap.size w W' → Calls Try.prog 74 #[.slice aM M.length cM, .slice bM N.length dM] W' fun e w' => e = .returned (.bool (decide (M = N))) ∧ Below W'.heap.size W' w') := Lib.hid fun W' h => (sEq_any M N aM bM cM dM W' hMl (hM.later h) (hN.later h)).mono fun e w' ⟨he, m, hm⟩ => ⟨he, hm ▸ below_drewNN (Below.refl _ _) m⟩
  obtain ⟨r, hr⟩ : ∃ r, r = eqD S M L T N K := ⟨_, rfl⟩
  rw [← hr]
  have Hr := Lib.hid hr
  clear h0 hS hM hT hN hSl hMl hr
  by_cases e1 : S = T
  · have g1 := decide_eq_true e1
    rw [g1] at HI1
    by_cases e2 : M = N
    · have g2 := decide_eq_true e2
      rw [g2] at HI2
      by_cases e3 : L = K
      · obtain rfl : r = true := by rw [Hr.out]; exact decide_eq_true ⟨e1, e2, e3⟩
        have t1 : (L == K) = true := by rw [e3]; exact beq_self_eq_true _
        clear e1 g1 e2 g2 e3 Hr
        go_enter Try.func53, Try.ntmps53
        go_wp2_with fail
        rw [← hW]
        clear hW
        refine (HI1.out W H0.out.below).mono ?_
        rintro e w1 ⟨rfl, hb1⟩
        have H1 := Lib.hid (H0.out.call hb1)
        clear hb1 H0
        have hc0_0 := H1.out.cell (k := 0) (i := 0) rfl rfl
        have hc0_1 := H1.out.cell (k := 0) (i := 1) rfl rfl
        have hc0_2 := H1.out.cell (k := 0) (i := 2) rfl rfl
        have hc1_0 := H1.out.cell (k := 1) (i := 0) rfl rfl
        have hc1_1 := H1.out.cell (k := 1) (i := 1) rfl rfl
        have hc1_2 := H1.out.cell (k := 1) (i := 2) rfl rfl
        go_wp2_with fail
        refine (HI2.out w1 H1.out.below).mono ?_
        rintro e w2 ⟨rfl, hb2⟩
        have H2 := Lib.hid (H1.out.call hb2)
        clear hb2 H1
        clear hc0_0 hc0_1 hc0_2 hc1_0 hc1_1 hc1_2
        have hc0_0 := H2.out.cell (k := 0) (i := 0) rfl rfl
        have hc0_1 := H2.out.cell (k := 0) (i := 1) rfl rfl
        have hc0_2 := H2.out.cell (k := 0) (i := 2) rfl rfl
        have hc1_0 := H2.out.cell (k := 1) (i := 0) rfl rfl
        have hc1_1 := H2.out.cell (k := 1) (i := 1) rfl rfl
        have hc1_2 := H2.out.cell (k := 1) (i := 2) rfl rfl
        go_wp2_with fail
        go_ret
        exact ⟨rfl, H2.out.below⟩
      · obtain rfl : r = false := by rw [Hr.out]; exact decide_eq_false (fun e => e3 e.2.2)
        have t1 : (L == K) = false := by rw [beq_eq_false_iff_ne]; exact e3
        clear e1 g1 e2 g2 e3 Hr
        go_enter Try.func53, Try.ntmps53
        go_wp2_with fail
        rw [← hW]
        clear hW
        refine (HI1.out W H0.out.below).mono ?_
        rintro e w1 ⟨rfl, hb1⟩
        have H1 := Lib.hid (H0.out.call hb1)
        clear hb1 H0
        have hc0_0 := H1.out.cell (k := 0) (i := 0) rfl rfl
        have hc0_1 := H1.out.cell (k := 0) (i := 1) rfl rfl
        have hc0_2 := H1.out.cell (k := 0) (i := 2) rfl rfl
        have hc1_0 := H1.out.cell (k := 1) (i := 0) rfl rfl
        have hc1_1 := H1.out.cell (k := 1) (i := 1) rfl rfl
        have hc1_2 := H1.out.cell (k := 1) (i := 2) rfl rfl
        go_wp2_with fail
        refine (HI2.out w1 H1.out.below).mono ?_
        rintro e w2 ⟨rfl, hb2⟩
        have H2 := Lib.hid (H1.out.call hb2)
        clear hb2 H1
        clear hc0_0 hc0_1 hc0_2 hc1_0 hc1_1 hc1_2
        have hc0_0 := H2.out.cell (k := 0) (i := 0) rfl rfl
        have hc0_1 := H2.out.cell (k := 0) (i := 1) rfl rfl
        have hc0_2 := H2.out.cell (k := 0) (i := 2) rfl rfl
        have hc1_0 := H2.out.cell (k := 1) (i := 0) rfl rfl
        have hc1_1 := H2.out.cell (k := 1) (i := 1) rfl rfl
        have hc1_2 := H2.out.cell (k := 1) (i := 2) rfl rfl
        go_wp2_with fail
        go_ret
        exact ⟨rfl, H2.out.below⟩
    · have g2 := decide_eq_false e2
      rw [g2] at HI2
      obtain rfl : r = false := by rw [Hr.out]; exact decide_eq_false (fun e => e2 e.2.1)
      clear e1 g1 e2 g2 Hr
      go_enter Try.func53, Try.ntmps53
      go_wp2_with fail
      rw [← hW]
      clear hW
      refine (HI1.out W H0.out.below).mono ?_
      rintro e w1 ⟨rfl, hb1⟩
      have H1 := Lib.hid (H0.out.call hb1)
      clear hb1 H0
      have hc0_0 := H1.out.cell (k := 0) (i := 0) rfl rfl
      have hc0_1 := H1.out.cell (k := 0) (i := 1) rfl rfl
      have hc0_2 := H1.out.cell (k := 0) (i := 2) rfl rfl
      have hc1_0 := H1.out.cell (k := 1) (i := 0) rfl rfl
      have hc1_1 := H1.out.cell (k := 1) (i := 1) rfl rfl
      have hc1_2 := H1.out.cell (k := 1) (i := 2) rfl rfl
      go_wp2_with fail
      refine (HI2.out w1 H1.out.below).mono ?_
      rintro e w2 ⟨rfl, hb2⟩
      have H2 := Lib.hid (H1.out.call hb2)
      clear hb2 H1
      clear hc0_0 hc0_1 hc0_2 hc1_0 hc1_1 hc1_2
      have hc0_0 := H2.out.cell (k := 0) (i := 0) rfl rfl
      have hc0_1 := H2.out.cell (k := 0) (i := 1) rfl rfl
      have hc0_2 := H2.out.cell (k := 0) (i := 2) rfl rfl
      have hc1_0 := H2.out.cell (k := 1) (i := 0) rfl rfl
      have hc1_1 := H2.out.cell (k := 1) (i := 1) rfl rfl
      have hc1_2 := H2.out.cell (k := 1) (i := 2) rfl rfl
      go_wp2_with fail
      go_ret
      exact ⟨rfl, H2.out.below⟩
  · have g1 := decide_eq_false e1
    rw [g1] at HI1
    obtain rfl : r = false := by rw [Hr.out]; exact decide_eq_false (fun e => e1 e.1)
    clear e1 g1 Hr
    go_enter Try.func53, Try.ntmps53
    go_wp2_with fail
    rw [← hW]
    clear hW
    refine (HI1.out W H0.out.below).mono ?_
    rintro e w1 ⟨rfl, hb1⟩
    have H1 := Lib.hid (H0.out.call hb1)
    clear hb1 H0
    have hc0_0 := H1.out.cell (k := 0) (i := 0) rfl rfl
    have hc0_1 := H1.out.cell (k := 0) (i := 1) rfl rfl
    have hc0_2 := H1.out.cell (k := 0) (i := 2) rfl rfl
    have hc1_0 := H1.out.cell (k := 1) (i := 0) rfl rfl
    have hc1_1 := H1.out.cell (k := 1) (i := 1) rfl rfl
    have hc1_2 := H1.out.cell (k := 1) (i := 2) rfl rfl
    go_wp2_with fail
    go_ret
    exact ⟨rfl, H1.out.below⟩
end Go.Proofs.Ytkopbcehfbmnmaa
