/- Diagrams compared: Ints and Equal of the reference, diagram.Equal, slices.EqualFunc, same of law07; the number of components. -/
import Derived.Test.YtmjoijfafachhaaAwkW
import Derived.Test.YtmjoijfafachhaaStrandA
import Derived.Test.YtmjoijfafachhaaDgL
import Derived.Test.YtmjoijfafachhaaHeap
namespace Go.Proofs.Ytmjoijfafachhaa
open Go Go.RowKit
theorem list_ext_nth {xs ys : List Int} (hl : xs.length = ys.length) (h : ∀ i, i < xs.length → nth xs i = nth ys i) : xs = ys := by
  refine List.ext_getElem hl fun i h1 h2 => ?_
  have := h i h1
  simpa [nth, h1, h2] using this
set_option maxRecDepth 100000 in
set_option maxHeartbeats 2000000 in
theorem ints_any (xs ys : List Int) (a b : Option Addr) (c d : Nat) (w : World) (hx : xs.length ≤ 1000000000) (hA : IntsAt w a xs) (hB : IntsAt w b ys) :
    Calls Try.prog 63 #[.slice a xs.length c, .slice b ys.length d] w fun e w' => e = .returned (.bool (decide (xs = ys))) ∧ ∃ m, w' = w.drewN m := by
  by_cases hl : xs.length = ys.length
  · have d1 : ((xs.length : Int) != (ys.length : Int)) = false := by rw [hl]; simp
    have hl1 : xs.length ≤ ys.length := by omega
    have HA := Lib.hid hA
    have HB := Lib.hid hB
    have Hl := Lib.hid hl
    clear hl hA hB
    go_enter Try.func63, Try.ntmps63
    go_wp2_with fail
    go_loopg [5] xs.length (fun g i wr => ∃ k q : Nat, k ≤ xs.length ∧ g = xs.length - k ∧ i = .int .i64 k ∧ wr = w.drewN q ∧ ∀ j, j < k → nth xs j = nth ys j)
    case atStart => exact ⟨0, 0, Nat.zero_le _, rfl, rfl, rfl, fun j hj => by omega⟩
    case round =>
      obtain ⟨k, q, hk, rfl, rfl, rfl, he⟩ := hrel
      have He := Lib.hid he
      clear he
      by_cases hlt : k < xs.length
      · obtain ⟨ba, oa, rfl, _, hca⟩ := HA.out.open (by omega)
        obtain ⟨bb, ob, rfl, _, hcb⟩ := HB.out.open (by have := Hl.out; omega)
        have h1 := hca k hlt
        have h2 := hcb k (by have := Hl.out; omega)
        clear hca hcb
        by_cases heq : nth xs k = nth ys k
        · have t1 : (nth xs k != nth ys k) = false := by rw [heq]; simp
          have Heq := Lib.hid heq
          clear heq
          go_wp2_with fail
          go_quiet (fail)
          go_wp2_with fail
          go_roundg (xs.length - (k + 1))
          case measure => omega
          case rel =>
            refine ⟨k + 1, q + nq, by omega, rfl, by go_num, rfl, fun j hj => ?_⟩
            rcases Nat.lt_or_ge j k with h | h
            · exact He.out j h
            · obtain rfl : j = k := by omega
              exact Heq.out
        · have t1 : (nth xs k != nth ys k) = true := by simpa using heq
          have Hf : Hid (decide (xs = ys) = false) := Lib.hid (decide_eq_false fun e => heq (by rw [e]))
          clear heq
          go_wp2_with fail
          go_quiet (fail)
          go_wp2_with fail
          go_ret
          rw [Hf.out]
          exact ⟨rfl, q + nq, World.drewN_drewN _ _ _⟩
      · obtain rfl : k = xs.length := by omega
        have Hf : Hid (decide (xs = ys) = true) := Lib.hid (decide_eq_true (list_ext_nth Hl.out He.out))
        go_wp2_with fail
        go_ret
        rw [Hf.out]
        exact ⟨rfl, _, rfl⟩
  · have d1 : ((xs.length : Int) != (ys.length : Int)) = true := by rw [bne_iff_ne]; omega
    have hf : decide (xs = ys) = false := decide_eq_false fun e => hl (by rw [e])
    rw [hf]
    clear hl hf hA hB
    go_enter Try.func63, Try.ntmps63
    go_wp2_with fail
    go_ret
    exact ⟨rfl, 0, rfl⟩
/-- Are two diagrams equal? -/
def eqD (S M : List Int) (L : Int) (T N : List Int) (K : Int) : Bool := decide (S = T ∧ M = N ∧ L = K)
set_option maxRecDepth 100000 in
set_option maxHeartbeats 4000000 in
theorem equalR_any (S M T N : List Int) (L K : Int) (aS aM bS bM : Option Addr) (cS cM dS dM : Nat) (w : World) (hSl : S.length ≤ 1000000000) (hMl : M.length ≤ 1000000000) (hS : IntsAt w aS S) (hM : IntsAt w aM M) (hT : IntsAt w bS T) (hN : IntsAt w bM N) :
    Calls Try.prog 24 #[.agg #[.slice aS S.length cS, .slice aM M.length cM, .int .i64 L], .agg #[.slice bS T.length dS, .slice bM N.length dM, .int .i64 K]] w fun e w' => e = .returned (.bool (eqD S M L T N K)) ∧ Below w.heap.size w w' := by
  obtain ⟨W, hW⟩ : ∃ W, W = ((w.alloc (.cells #[.slice aS S.length cS, .slice aM M.length cM, .int .i64 L] 24)).alloc (.cells #[.slice bS T.length dS, .slice bM N.length dM, .int .i64 K] 24)) := ⟨_, rfl⟩
  have h0 : HH w W [(w.heap.size, rowO 24 [.slice aS S.length cS, .slice aM M.length cM, .int .i64 L]), (w.heap.size + 1, rowO 24 [.slice bS T.length dS, .slice bM N.length dM, .int .i64 K])] [] := by rw [hW]; exact (((HH.start w).alloc #[.slice aS S.length cS, .slice aM M.length cM, .int .i64 L] 24 rfl rfl).alloc #[.slice bS T.length dS, .slice bM N.length dM, .int .i64 K] 24 (by simp) rfl)
  have H0 := Lib.hid h0
  have HI1 : Hid (∀ W', Below w.heap.size w W' → Calls Try.prog 63 #[.slice aS S.length cS, .slice bS T.length dS] W' fun e w' => e = .returned (.bool (decide (S = T))) ∧ Below W'.heap.size W' w') := Lib.hid fun W' h => (ints_any S T aS bS cS dS W' hSl (hS.later h) (hT.later h)).mono fun e w' ⟨he, m, hm⟩ => ⟨he, hm ▸ below_drewNN (Below.refl _ _) m⟩
  have HI2 : Hid (∀ W', Below w.heap.size w W' → Calls Try.prog 63 #[.slice aM M.length cM, .slice bM N.length dM] W' fun e w' => e = .returned (.bool (decide (M = N))) ∧ Below W'.heap.size W' w') := Lib.hid fun W' h => (ints_any M N aM bM cM dM W' hMl (hM.later h) (hN.later h)).mono fun e w' ⟨he, m, hm⟩ => ⟨he, hm ▸ below_drewNN (Below.refl _ _) m⟩
  obtain ⟨r, hr⟩ : ∃ r, r = eqD S M L T N K := ⟨_, rfl⟩
  rw [← hr]
  have Hr := Lib.hid hr
  clear h0 hS hM hT hN hSl hMl hr
  by_cases e1 : S = T
  · have g1 := decide_eq_true e1
    rw [g1] at HI1
    by_cases e2 : M = N
    · have g2 := decide_eq_true e2
      rw [g2] at HI2
      by_cases e3 : L = K
      · obtain rfl : r = true := by rw [Hr.out]; exact decide_eq_true ⟨e1, e2, e3⟩
        have t1 : (L == K) = true := by rw [e3]; exact beq_self_eq_true _
        clear e1 g1 e2 g2 e3 Hr
        go_enter Try.func24, Try.ntmps24
        go_wp2_with fail
        rw [← hW]
        clear hW
        refine (HI1.out W H0.out.below).mono ?_
        rintro e w1 ⟨rfl, hb1⟩
        have H1 := Lib.hid (H0.out.call hb1)
        clear hb1 H0
        have hc0_0 := H1.out.cell (k := 0) (i := 0) rfl rfl
        have hc0_1 := H1.out.cell (k := 0) (i := 1) rfl rfl
        have hc0_2 := H1.out.cell (k := 0) (i := 2) rfl rfl
        have hc1_0 := H1.out.cell (k := 1) (i := 0) rfl rfl
        have hc1_1 := H1.out.cell (k := 1) (i := 1) rfl rfl
        have hc1_2 := H1.out.cell (k := 1) (i := 2) rfl rfl
        go_wp2_with fail
        refine (HI2.out w1 H1.out.below).mono ?_
        rintro e w2 ⟨rfl, hb2⟩
        have H2 := Lib.hid (H1.out.call hb2)
        clear hb2 H1
        clear hc0_0 hc0_1 hc0_2 hc1_0 hc1_1 hc1_2
        have hc0_0 := H2.out.cell (k := 0) (i := 0) rfl rfl
        have hc0_1 := H2.out.cell (k := 0) (i := 1) rfl rfl
        have hc0_2 := H2.out.cell (k := 0) (i := 2) rfl rfl
        have hc1_0 := H2.out.cell (k := 1) (i := 0) rfl rfl
        have hc1_1 := H2.out.cell (k := 1) (i := 1) rfl rfl
        have hc1_2 := H2.out.cell (k := 1) (i := 2) rfl rfl
        go_wp2_with fail
        go_ret
        exact ⟨rfl, H2.out.below⟩
      · obtain rfl : r = false := by rw [Hr.out]; exact decide_eq_false (fun e => e3 e.2.2)
        have t1 : (L == K) = false := by rw [beq_eq_false_iff_ne]; exact e3
        clear e1 g1 e2 g2 e3 Hr
        go_enter Try.func24, Try.ntmps24
        go_wp2_with fail
        rw [← hW]
        clear hW
        refine (HI1.out W H0.out.below).mono ?_
        rintro e w1 ⟨rfl, hb1⟩
        have H1 := Lib.hid (H0.out.call hb1)
        clear hb1 H0
        have hc0_0 := H1.out.cell (k := 0) (i := 0) rfl rfl
        have hc0_1 := H1.out.cell (k := 0) (i := 1) rfl rfl
        have hc0_2 := H1.out.cell (k := 0) (i := 2) rfl rfl
        have hc1_0 := H1.out.cell (k := 1) (i := 0) rfl rfl
        have hc1_1 := H1.out.cell (k := 1) (i := 1) rfl rfl
        have hc1_2 := H1.out.cell (k := 1) (i := 2) rfl rfl
        go_wp2_with fail
        refine (HI2.out w1 H1.out.below).mono ?_
        rintro e w2 ⟨rfl, hb2⟩
        have H2 := Lib.hid (H1.out.call hb2)
        clear hb2 H1
        clear hc0_0 hc0_1 hc0_2 hc1_0 hc1_1 hc1_2
        have hc0_0 := H2.out.cell (k := 0) (i := 0) rfl rfl
        have hc0_1 := H2.out.cell (k := 0) (i := 1) rfl rfl
        have hc0_2 := H2.out.cell (k := 0) (i := 2) rfl rfl
        have hc1_0 := H2.out.cell (k := 1) (i := 0) rfl rfl
        have hc1_1 := H2.out.cell (k := 1) (i := 1) rfl rfl
        have hc1_2 := H2.out.cell (k := 1) (i := 2) rfl rfl
        go_wp2_with fail
        go_ret
        exact ⟨rfl, H2.out.below⟩
    · have g2 := decide_eq_false e2
      rw [g2] at HI2
      obtain rfl : r = false := by rw [Hr.out]; exact decide_eq_false (fun e => e2 e.2.1)
      clear e1 g1 e2 g2 Hr
      go_enter Try.func24, Try.ntmps24
      go_wp2_with fail
      rw [← hW]
      clear hW
      refine (HI1.out W H0.out.below).mono ?_
      rintro e w1 ⟨rfl, hb1⟩
      have H1 := Lib.hid (H0.out.call hb1)
      clear hb1 H0
      have hc0_0 := H1.out.cell (k := 0) (i := 0) rfl rfl
      have hc0_1 := H1.out.cell (k := 0) (i := 1) rfl rfl
      have hc0_2 := H1.out.cell (k := 0) (i := 2) rfl rfl
      have hc1_0 := H1.out.cell (k := 1) (i := 0) rfl rfl
      have hc1_1 := H1.out.cell (k := 1) (i := 1) rfl rfl
      have hc1_2 := H1.out.cell (k := 1) (i := 2) rfl rfl
      go_wp2_with fail
      refine (HI2.out w1 H1.out.below).mono ?_
      rintro e w2 ⟨rfl, hb2⟩
      have H2 := Lib.hid (H1.out.call hb2)
      clear hb2 H1
      clear hc0_0 hc0_1 hc0_2 hc1_0 hc1_1 hc1_2
      have hc0_0 := H2.out.cell (k := 0) (i := 0) rfl rfl
      have hc0_1 := H2.out.cell (k := 0) (i := 1) rfl rfl
      have hc0_2 := H2.out.cell (k := 0) (i := 2) rfl rfl
      have hc1_0 := H2.out.cell (k := 1) (i := 0) rfl rfl
      have hc1_1 := H2.out.cell (k := 1) (i := 1) rfl rfl
      have hc1_2 := H2.out.cell (k := 1) (i := 2) rfl rfl
      go_wp2_with fail
      go_ret
      exact ⟨rfl, H2.out.below⟩
  · have g1 := decide_eq_false e1
    rw [g1] at HI1
    obtain rfl : r = false := by rw [Hr.out]; exact decide_eq_false (fun e => e1 e.1)
    clear e1 g1 Hr
    go_enter Try.func24, Try.ntmps24
    go_wp2_with fail
    rw [← hW]
    clear hW
    refine (HI1.out W H0.out.below).mono ?_
    rintro e w1 ⟨rfl, hb1⟩
    have H1 := Lib.hid (H0.out.call hb1)
    clear hb1 H0
    have hc0_0 := H1.out.cell (k := 0) (i := 0) rfl rfl
    have hc0_1 := H1.out.cell (k := 0) (i := 1) rfl rfl
    have hc0_2 := H1.out.cell (k := 0) (i := 2) rfl rfl
    have hc1_0 := H1.out.cell (k := 1) (i := 0) rfl rfl
    have hc1_1 := H1.out.cell (k := 1) (i := 1) rfl rfl
    have hc1_2 := H1.out.cell (k := 1) (i := 2) rfl rfl
    go_wp2_with fail
    go_ret
    exact ⟨rfl, H1.out.below⟩
set_option maxRecDepth 100000 in
set_option maxHeartbeats 4000000 in
theorem equalD_any (S M T N : List Int) (L K : Int) (aS aM bS bM : Option Addr) (cS cM dS dM : Nat) (w : World) (hSl : S.length ≤ 1000000000) (hMl : M.length ≤ 1000000000) (hS : IntsAt w aS S) (hM : IntsAt w aM M) (hT : IntsAt w bS T) (hN : IntsAt w bM N) :
    Calls Try.prog 20 #[.agg #[.slice aS S.length cS, .slice aM M.length cM, .int .i64 L], .agg #[.slice bS T.length dS, .slice bM N.length dM, .int .i64 K]] w fun e w' => e = .returned (.bool (eqD S M L T N K)) ∧ Below w.heap.size w w' := by
  obtain ⟨W, hW⟩ : ∃ W, W = ((w.alloc (.cells #[.slice aS S.length cS, .slice aM M.length cM, .int .i64 L] 24)).alloc (.cells #[.slice bS T.length dS, .slice bM N.length dM, .int .i64 K] 24)) := ⟨_, rfl⟩
  have h0 : HH w W [(w.heap.size, rowO 24 [.slice aS S.length cS, .slice aM M.length cM, .int .i64 L]), (w.heap.size + 1, rowO 24 [.slice bS T.length dS, .slice bM N.length dM, .int .i64 K])] [] := by rw [hW]; exact (((HH.start w).alloc #[.slice aS S.length cS, .slice aM M.length cM, .int .i64 L] 24 rfl rfl).alloc #[.slice bS T.length dS, .slice bM N.length dM, .int .i64 K] 24 (by simp) rfl)
  have H0 := Lib.hid h0
  have HI1 : Hid (∀ W', Below w.heap.size w W' → Calls Try.prog 39 #[.slice aS S.length cS, .slice bS T.length dS] W' fun e w' => e = .returned (.bool (decide (S = T))) ∧ Below W'.heap.size W' w') := Lib.hid fun W' h => sEq_any S T aS bS cS dS W' hSl (hS.later h) (hT.later h)
  have HI2 : Hid (∀ W', Below w.heap.size w W' → Calls Try.prog 39 #[.slice aM M.length cM, .slice bM N.length dM] W' fun e w' => e = .returned (.bool (decide (M = N))) ∧ Below W'.heap.size W' w') := Lib.hid fun W' h => sEq_any M N aM bM cM dM W' hMl (hM.later h) (hN.later h)
  obtain ⟨r, hr⟩ : ∃ r, r = eqD S M L T N K := ⟨_, rfl⟩
  rw [← hr]
  have Hr := Lib.hid hr
  clear h0 hS hM hT hN hSl hMl hr
  by_cases e1 : S = T
  · have g1 := decide_eq_true e1
    rw [g1] at HI1
    by_cases e2 : M = N
    · have g2 := decide_eq_true e2
      rw [g2] at HI2
      by_cases e3 : L = K
      · obtain rfl : r = true := by rw [Hr.out]; exact decide_eq_true ⟨e1, e2, e3⟩
        have t1 : (L == K) = true := by rw [e3]; exact beq_self_eq_true _
        clear e1 g1 e2 g2 e3 Hr
        go_enter Try.func20, Try.ntmps20
        go_wp2_with fail
        rw [← hW]
        clear hW
        refine (HI1.out W H0.out.below).mono ?_
        rintro e w1 ⟨rfl, hb1⟩
        have H1 := Lib.hid (H0.out.call hb1)
        clear hb1 H0
        have hc0_0 := H1.out.cell (k := 0) (i := 0) rfl rfl
        have hc0_1 := H1.out.cell (k := 0) (i := 1) rfl rfl
        have hc0_2 := H1.out.cell (k := 0) (i := 2) rfl rfl
        have hc1_0 := H1.out.cell (k := 1) (i := 0) rfl rfl
        have hc1_1 := H1.out.cell (k := 1) (i := 1) rfl rfl
        have hc1_2 := H1.out.cell (k := 1) (i := 2) rfl rfl
        go_wp2_with fail
        refine (HI2.out w1 H1.out.below).mono ?_
        rintro e w2 ⟨rfl, hb2⟩
        have H2 := Lib.hid (H1.out.call hb2)
        clear hb2 H1
        clear hc0_0 hc0_1 hc0_2 hc1_0 hc1_1 hc1_2
        have hc0_0 := H2.out.cell (k := 0) (i := 0) rfl rfl
        have hc0_1 := H2.out.cell (k := 0) (i := 1) rfl rfl
        have hc0_2 := H2.out.cell (k := 0) (i := 2) rfl rfl
        have hc1_0 := H2.out.cell (k := 1) (i := 0) rfl rfl
        have hc1_1 := H2.out.cell (k := 1) (i := 1) rfl rfl
        have hc1_2 := H2.out.cell (k := 1) (i := 2) rfl rfl
        go_wp2_with fail
        go_ret
        exact ⟨rfl, H2.out.below⟩
      · obtain rfl : r = false := by rw [Hr.out]; exact decide_eq_false (fun e => e3 e.2.2)
        have t1 : (L == K) = false := by rw [beq_eq_false_iff_ne]; exact e3
        clear e1 g1 e2 g2 e3 Hr
        go_enter Try.func20, Try.ntmps20
        go_wp2_with fail
        rw [← hW]
        clear hW
        refine (HI1.out W H0.out.below).mono ?_
        rintro e w1 ⟨rfl, hb1⟩
        have H1 := Lib.hid (H0.out.call hb1)
        clear hb1 H0
        have hc0_0 := H1.out.cell (k := 0) (i := 0) rfl rfl
        have hc0_1 := H1.out.cell (k := 0) (i := 1) rfl rfl
        have hc0_2 := H1.out.cell (k := 0) (i := 2) rfl rfl
        have hc1_0 := H1.out.cell (k := 1) (i := 0) rfl rfl
        have hc1_1 := H1.out.cell (k := 1) (i := 1) rfl rfl
        have hc1_2 := H1.out.cell (k := 1) (i := 2) rfl rfl
        go_wp2_with fail
        refine (HI2.out w1 H1.out.below).mono ?_
        rintro e w2 ⟨rfl, hb2⟩
        have H2 := Lib.hid (H1.out.call hb2)
        clear hb2 H1
        clear hc0_0 hc0_1 hc0_2 hc1_0 hc1_1 hc1_2
        have hc0_0 := H2.out.cell (k := 0) (i := 0) rfl rfl
        have hc0_1 := H2.out.cell (k := 0) (i := 1) rfl rfl
        have hc0_2 := H2.out.cell (k := 0) (i := 2) rfl rfl
        have hc1_0 := H2.out.cell (k := 1) (i := 0) rfl rfl
        have hc1_1 := H2.out.cell (k := 1) (i := 1) rfl rfl
        have hc1_2 := H2.out.cell (k := 1) (i := 2) rfl rfl
        go_wp2_with fail
        go_ret
        exact ⟨rfl, H2.out.below⟩
    · have g2 := decide_eq_false e2
      rw [g2] at HI2
      obtain rfl : r = false := by rw [Hr.out]; exact decide_eq_false (fun e => e2 e.2.1)
      clear e1 g1 e2 g2 Hr
      go_enter Try.func20, Try.ntmps20
      go_wp2_with fail
      rw [← hW]
      clear hW
      refine (HI1.out W H0.out.below).mono ?_
      rintro e w1 ⟨rfl, hb1⟩
      have H1 := Lib.hid (H0.out.call hb1)
      clear hb1 H0
      have hc0_0 := H1.out.cell (k := 0) (i := 0) rfl rfl
      have hc0_1 := H1.out.cell (k := 0) (i := 1) rfl rfl
      have hc0_2 := H1.out.cell (k := 0) (i := 2) rfl rfl
      have hc1_0 := H1.out.cell (k := 1) (i := 0) rfl rfl
      have hc1_1 := H1.out.cell (k := 1) (i := 1) rfl rfl
      have hc1_2 := H1.out.cell (k := 1) (i := 2) rfl rfl
      go_wp2_with fail
      refine (HI2.out w1 H1.out.below).mono ?_
      rintro e w2 ⟨rfl, hb2⟩
      have H2 := Lib.hid (H1.out.call hb2)
      clear hb2 H1
      clear hc0_0 hc0_1 hc0_2 hc1_0 hc1_1 hc1_2
      have hc0_0 := H2.out.cell (k := 0) (i := 0) rfl rfl
      have hc0_1 := H2.out.cell (k := 0) (i := 1) rfl rfl
      have hc0_2 := H2.out.cell (k := 0) (i := 2) rfl rfl
      have hc1_0 := H2.out.cell (k := 1) (i := 0) rfl rfl
      have hc1_1 := H2.out.cell (k := 1) (i := 1) rfl rfl
      have hc1_2 := H2.out.cell (k := 1) (i := 2) rfl rfl
      go_wp2_with fail
      go_ret
      exact ⟨rfl, H2.out.below⟩
  · have g1 := decide_eq_false e1
    rw [g1] at HI1
    obtain rfl : r = false := by rw [Hr.out]; exact decide_eq_false (fun e => e1 e.1)
    clear e1 g1 Hr
    go_enter Try.func20, Try.ntmps20
    go_wp2_with fail
    rw [← hW]
    clear hW
    refine (HI1.out W H0.out.below).mono ?_
    rintro e w1 ⟨rfl, hb1⟩
    have H1 := Lib.hid (H0.out.call hb1)
    clear hb1 H0
    have hc0_0 := H1.out.cell (k := 0) (i := 0) rfl rfl
    have hc0_1 := H1.out.cell (k := 0) (i := 1) rfl rfl
    have hc0_2 := H1.out.cell (k := 0) (i := 2) rfl rfl
    have hc1_0 := H1.out.cell (k := 1) (i := 0) rfl rfl
    have hc1_1 := H1.out.cell (k := 1) (i := 1) rfl rfl
    have hc1_2 := H1.out.cell (k := 1) (i := 2) rfl rfl
    go_wp2_with fail
    go_ret
    exact ⟨rfl, H1.out.below⟩
/-- The number of components. -/
def compsN (S M : List Int) (L : Int) : Int := if vldB S M L = true then ((strandsL S M L).length : Int) + L else 0
set_option maxRecDepth 100000 in
set_option maxHeartbeats 2000000 in
theorem components_any (S M : List Int) (L : Int) (aS aM : Option Addr) (cS cM : Nat) (w : World) (hSl : S.length ≤ 1000000000) (hMl : M.length ≤ 1000000000) (hS : IntsAt w aS S) (hM : IntsAt w aM M) :
    Calls Try.prog 44 #[.agg #[.slice aS S.length cS, .slice aM M.length cM, .int .i64 L]] w fun e w' => e = .returned (.int .i64 (compsN S M L)) ∧ Below w.heap.size w w' := by
  have hB : Below w.heap.size w (w.alloc (.cells #[.slice aS S.length cS, .slice aM M.length cM, .int .i64 L] 24)) := (Below.refl _ _).alloc (Nat.le_refl _) _
  have HV := Lib.hid (valid_any S M L aS aM cS cM (w.alloc (.cells #[.slice aS S.length cS, .slice aM M.length cM, .int .i64 L] 24)) hSl hMl (hS.later hB) (hM.later hB))
  have Hbox := Lib.hid (Row.new w #[.slice aS S.length cS, .slice aM M.length cM, .int .i64 L] 24)
  have HS := Lib.hid hS
  have HM := Lib.hid hM
  have HB := Lib.hid hB
  clear hB hS hM
  by_cases hv : vldB S M L = true
  · have Hc : Hid (compsN S M L = ((strandsL S M L).length : Int) + L) := Lib.hid (if_pos hv)
    rw [hv] at HV
    have hl1 := (strandsL_lists hv).few
    have hl2 := (vldB_shape hv).few
    have hl3 := (vldB_shape hv).lo
    have hl4 := (vldB_shape hv).hi
    clear hv
    go_enter Try.func44, Try.ntmps44
    go_wp2_with fail
    refine HV.out.mono ?_
    rintro e w1 ⟨rfl, hb1⟩
    have Hb1 := Lib.hid (below_of HB.out hb1 (by simp))
    have Hbx := Lib.hid (Hbox.out.later hb1 (by simp))
    have Hbx3 : Hid (∀ W, Below w1.heap.size w1 W → W.cell? ⟨w.heap.size, 2, none⟩ = some (.int .i64 L)) := Lib.hid fun W hW => by
      have h1 := (Hbx.out.later hW Hbx.out.lt).cell 2
      simpa using h1
    have HSt : Hid (∀ W, Below w1.heap.size w1 W → Calls Try.prog 45 #[.agg #[.slice aS S.length cS, .slice aM M.length cM, .int .i64 L]] W fun e w' => ∃ a c, e = .returned (.slice a (strandsL S M L).length c) ∧ Below w1.heap.size w1 w') := Lib.hid fun W hW =>
      (strands_any S M L aS aM cS cM W hSl hMl (HS.out.later (below_step Hb1.out hW)) (HM.out.later (below_step Hb1.out hW))).mono fun e w' ⟨a, c, he, hb, _⟩ => ⟨a, c, he, below_step hW hb⟩
    have hc0 := Hbx.out.cell 0
    have hc1 := Hbx.out.cell 1
    have hc2 := Hbx.out.cell 2
    simp only [List.getElem?_cons_succ, List.getElem?_cons_zero] at hc0 hc1 hc2
    generalize (strandsL S M L).length = ln at *
    clear hb1
    go_wp2_with fail
    go_region_with (go_at_call 45; refine (HSt.out _ ((Below.refl _ _).drew)).mono ?_; rintro e w2 ⟨a, c, rfl, hb2⟩; have hc2' := Hbx3.out _ hb2)
    all_goals (have Hb2 := Lib.hid (below_step Hb1.out hb2); go_wp2_with fail; go_ret; rw [Hc.out]; refine ⟨?_, Hb2.out⟩; clear hSl hMl HV Hbox HS HM HB HSt; simp [Act.put]; rw [IntKind.wrap_i64]; omega)
  · have Hc : Hid (compsN S M L = 0) := Lib.hid (if_neg hv)
    have hv2 : vldB S M L = false := by simpa using hv
    rw [hv2] at HV
    clear hv hv2
    go_enter Try.func44, Try.ntmps44
    go_wp2_with fail
    refine HV.out.mono ?_
    rintro e w1 ⟨rfl, hb1⟩
    have Hb1 := Lib.hid (below_of HB.out hb1 (by simp))
    clear hb1
    go_wp2_with fail
    go_ret
    rw [Hc.out]
    exact ⟨rfl, Hb1.out⟩
/-- A list of diagrams that is read. -/
def RdD (w : World) (A : Option Addr) (ds : List Dgm) : Prop := ∀ (i : Nat) (d : Dgm), ds[i]? = some d → ∃ b o a c e f, A = some ⟨b, o, none⟩ ∧ w.cell? ⟨b, o + i * 3, none⟩ = some (.slice a d.1.length c) ∧ w.cell? ⟨b, o + i * 3 + 1, none⟩ = some (.slice e d.2.1.length f) ∧ w.cell? ⟨b, o + i * 3 + 2, none⟩ = some (.int .i64 d.2.2) ∧ IntsAt w a d.1 ∧ IntsAt w e d.2.1
theorem DLO.rd {w : World} {B B0 : Nat} {A : Option Addr} {C : Nat} {ds : List Dgm} (h : DLO w B B0 A C ds) : RdD w A ds := fun i d hd => by
  have hi : i < ds.length := (List.getElem?_eq_some_iff.1 hd).1
  obtain ⟨b, o, rfl, hc⟩ := h.open (by omega)
  obtain ⟨a, c, e, f, h1, h2, h3, h4, h5⟩ := hc i d hd
  exact ⟨b, o, a, c, e, f, rfl, h1, h2, h3, h4.at, h5.at⟩
theorem RdD.later {w w' : World} {A : Option Addr} {ds : List Dgm} (h : RdD w A ds) (hb : Below w.heap.size w w') : RdD w' A ds := fun i d hd => by
  obtain ⟨b, o, a, c, e, f, rfl, h1, h2, h3, h4, h5⟩ := h i d hd
  exact ⟨b, o, a, c, e, f, rfl, (hb.cell (p := ⟨b, o + i * 3, none⟩) (World.block_lt_of_cell? _ _ h1)).trans h1, (hb.cell (p := ⟨b, o + i * 3 + 1, none⟩) (World.block_lt_of_cell? _ _ h2)).trans h2, (hb.cell (p := ⟨b, o + i * 3 + 2, none⟩) (World.block_lt_of_cell? _ _ h3)).trans h3, h4.later hb, h5.later hb⟩
theorem eqD_same' (S M : List Int) (L : Int) : eqD S M L S M L = true := by unfold eqD; simp
set_option maxRecDepth 100000 in
set_option maxHeartbeats 2000000 in
theorem eqf_any (ds : List Dgm) (A B : Option Addr) (C D : Nat) (w : World) (hl : ds.length ≤ 100000) (hd : ∀ d ∈ ds, d.1.length ≤ 1000000000 ∧ d.2.1.length ≤ 1000000000) (hA : RdD w A ds) (hB : RdD w B ds) :
    Calls Try.prog 53 #[.slice A ds.length C, .slice B ds.length D, .func (.func 24) #[] #[]] w fun e w' => e = .returned (.bool true) ∧ Below w.heap.size w w' := by
  have HA := Lib.hid hA
  have HB := Lib.hid hB
  have HD : Hid (∀ i, i < ds.length → (ds.getD i ([], [], 0)).1.length ≤ 1000000000 ∧ (ds.getD i ([], [], 0)).2.1.length ≤ 1000000000) := Lib.hid fun i hi => hd _ (by rw [List.getD_eq_getElem?_getD, List.getElem?_eq_getElem hi]; exact List.getElem_mem _)
  clear hd hA hB
  go_enter Try.func53, Try.ntmps53
  go_wp2_with fail
  go_loopg [17] ds.length (fun g v wr => ∃ i : Nat, i ≤ ds.length ∧ g = ds.length - i ∧ v = .int .i64 i ∧ Below w.heap.size w wr)
  case atStart => exact ⟨0, Nat.zero_le _, rfl, rfl, Below.refl _ _⟩
  case round =>
    obtain ⟨i, hi, rfl, rfl, hb⟩ := hrel
    have Hb := Lib.hid hb
    clear hb
    by_cases hil : i < ds.length
    · obtain ⟨b, o, a, c, e, f, rfl, h1, h2, h3, h4, h5⟩ := HA.out.later Hb.out i _ (getD_some (d := ([], [], 0)) hil)
      obtain ⟨b', o', a', c', e', f', rfl, k1, k2, k3, k4, k5⟩ := HB.out.later Hb.out i _ (getD_some (d := ([], [], 0)) hil)
      obtain ⟨l1, l2⟩ := HD.out i hil
      generalize ds.getD i ([], [], 0) = dd at *
      obtain ⟨S, M, L⟩ := dd
      dsimp only at *
      have HI := Lib.hid (And.intro (And.intro h4 h5) (And.intro k4 k5))
      have bA : Below wr.heap.size wr (wr.alloc (.cells #[.slice a S.length c, .slice e M.length f, .int .i64 L] 24)) := (Below.refl _ _).alloc (Nat.le_refl _) _
      have m1 := (bA.cell (p := ⟨b', o' + i * 3, none⟩) (World.block_lt_of_cell? _ _ k1)).trans k1
      have m2 := (bA.cell (p := ⟨b', o' + i * 3 + 1, none⟩) (World.block_lt_of_cell? _ _ k2)).trans k2
      have m3 := (bA.cell (p := ⟨b', o' + i * 3 + 2, none⟩) (World.block_lt_of_cell? _ _ k3)).trans k3
      have HE : Hid (∀ W', Below wr.heap.size wr W' → Calls Try.prog 24 #[.agg #[.slice a S.length c, .slice e M.length f, .int .i64 L], .agg #[.slice a' S.length c', .slice e' M.length f', .int .i64 L]] W' fun e w' => e = .returned (.bool true) ∧ Below W'.heap.size W' w') := Lib.hid fun W' h => by
        have g := equalR_any S M S M L L a e a' e' c f c' f' W' l1 l2 (h4.later h) (h5.later h) (k4.later h) (k5.later h)
        rw [eqD_same'] at g; exact g
      have HBA : Hid (Below wr.heap.size wr ((wr.alloc (.cells #[.slice a S.length c, .slice e M.length f, .int .i64 L] 24)).alloc (.cells #[.slice a' S.length c', .slice e' M.length f', .int .i64 L] 24))) := Lib.hid (bA.alloc (by simp) _)
      clear h4 h5 k4 k5 bA HI
      generalize S.length = n at *
      generalize M.length = m at *
      go_wp2_with fail
      refine (HE.out _ HBA.out).mono ?_
      rintro e9 w9 ⟨rfl, hb⟩
      have Hb9 := Lib.hid (below_step (below_step Hb.out HBA.out) hb)
      clear hb h1 h2 h3 k1 k2 k3 m1 m2 m3
      go_wp2_with fail
      go_roundg (ds.length - (i + 1))
      case measure => omega
      case rel => exact ⟨i + 1, by omega, rfl, by go_num, Hb9.out⟩
    · obtain rfl : i = ds.length := by omega
      go_wp2_with fail
      go_ret
      exact ⟨rfl, Hb.out⟩
set_option maxRecDepth 100000 in
set_option maxHeartbeats 1000000 in
theorem same_any (ds : List Dgm) (A B : Option Addr) (C D : Nat) (w : World) (hl : ds.length ≤ 100000) (hd : ∀ d ∈ ds, d.1.length ≤ 1000000000 ∧ d.2.1.length ≤ 1000000000) (hA : RdD w A ds) (hB : RdD w B ds) :
    Calls Try.prog 17 #[.slice A ds.length C, .slice B ds.length D] w fun e w' => e = .returned (.bool true) ∧ Below w.heap.size w w' := by
  have HE := Lib.hid (eqf_any ds A B C D w hl hd hA hB)
  clear hA hB hd hl
  go_enter Try.func17, Try.ntmps17
  go_wp2_with fail
  refine HE.out.mono ?_
  rintro e w1 ⟨rfl, hb⟩
  have Hb := Lib.hid hb
  clear hb
  go_wp2_with fail
  go_ret
  exact ⟨rfl, Hb.out⟩
end Go.Proofs.Ytmjoijfafachhaa
