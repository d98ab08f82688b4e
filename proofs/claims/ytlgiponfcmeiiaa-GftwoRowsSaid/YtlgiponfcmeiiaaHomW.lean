/- The walk of gftwo.Homology. -/
import Derived.Test.YtlgiponfcmeiiaaRankW
namespace Go.Proofs.Ytlgiponfcmeiiaa
open Go Go.RowKit
/-- A product's row, as a number. -/
def mulN (ys : List Nat) (C x : Nat) : Nat := lin (fun j => ys.getD j 0) C x
theorem sumI_row (ys : List Nat) (C x : Nat) : sumI ys (rowOf C x) = mulN ys C x := by
  unfold sumI mulN rowOf
  rw [← lin_row, List.map_map]
  rfl
theorem mulN_lt {D : Nat} {ys : List Nat} (h : ∀ y ∈ ys, y < 2 ^ D) (C x : Nat) : mulN ys C x < 2 ^ D := lin_lt (fun k _ => getD_lt h k) x
theorem tab_vld {C : Nat} {xs : List Nat} (hC : C ≤ 65536) (hR : xs.length ≤ 65536) : vldM C (tabN C xs) = true := vldM_iff.2 ⟨⟨by omega, by omega, by rw [tabN_len]; exact hR⟩, fun l hl => by
  obtain ⟨x, _, rfl⟩ := List.mem_map.1 hl
  exact rowOf_asc C x⟩
/-- A valid matrix is a table of numbers. -/
theorem vld_tab {C : Int} {T : List (List Int)} (h : vldM C T = true) : ∃ (n : Nat) (xs : List Nat), C = (n : Int) ∧ T = tabN n xs ∧ n ≤ 65536 ∧ xs.length ≤ 65536 ∧ ∀ x ∈ xs, x < 2 ^ n := by
  obtain ⟨⟨h1, h2, h3⟩, h4⟩ := vldM_iff.1 h
  refine ⟨C.toNat, T.map bit, by omega, ?_, by omega, by simpa using h3, fun x hx => ?_⟩
  · unfold tabN
    rw [List.map_map]
    have hm : T.map (rowOf C.toNat ∘ bit) = T := by
      conv => rhs; rw [← List.map_id T]
      exact List.map_congr_left fun l hl => (asc_row (by rw [show ((C.toNat : Nat) : Int) = C by omega]; exact h4 l hl)).symm
    exact hm.symm
  · obtain ⟨l, hl, rfl⟩ := List.mem_map.1 hx
    exact bit_lt (by rw [show ((C.toNat : Nat) : Int) = C by omega]; exact h4 l hl)
theorem valid_tab (C : Nat) (xs : List Nat) (hC : C ≤ 65536) (hR : xs.length ≤ 65536) (a : Option Addr) (c : Nat) (w : World) (hT : TabAt w a (tabN C xs)) :
    Calls Try.prog 16 #[.agg #[.int .i64 (C : Int), .slice a xs.length c]] w fun e w' => e = .returned (.bool true) ∧ Below w.heap.size w w' := by
  have h := valid_any C (tabN C xs) a c w (by rw [tabN_len]; omega) (fun l hl => by
    obtain ⟨x, _, rfl⟩ := List.mem_map.1 hl
    exact Nat.le_trans (rowOf_len C x) (by omega)) (by omega) hT
  rwa [tab_vld hC hR, tabN_len] at h
set_option maxRecDepth 100000 in
set_option maxHeartbeats 4000000 in
theorem hom_bad (C D : Int) (T U : List (List Int)) (a b : Option Addr) (c d : Nat) (w : World) (hTl : T.length ≤ 1000000) (hRl : ∀ l ∈ T, l.length ≤ 1000000) (hUl : U.length ≤ 1000000) (hSl : ∀ l ∈ U, l.length ≤ 1000000) (hC : -9223372036854775808 ≤ C ∧ C ≤ 9223372036854775807) (hD : -9223372036854775808 ≤ D ∧ D ≤ 9223372036854775807)
    (hT : TabAt w a T) (hU : TabAt w b U) (hv : ¬ (vldM C T = true ∧ vldM D U = true)) :
    Calls Try.prog 20 #[.agg #[.int .i64 C, .slice a T.length c], .agg #[.int .i64 D, .slice b U.length d]] w fun e w' => e = .returned (.tuple #[.int .i64 0, .int .i64 1]) ∧ Below w.heap.size w w' := by
  obtain ⟨W, hW⟩ : ∃ W, W = (w.alloc (.cells #[.int .i64 C, .slice a T.length c] 26)).alloc (.cells #[.int .i64 D, .slice b U.length d] 26) := ⟨_, rfl⟩
  have h0 : HH w W [(w.heap.size, rowO 26 [.int .i64 C, .slice a T.length c]), (w.heap.size + 1, rowO 26 [.int .i64 D, .slice b U.length d])] [] := by rw [hW]; exact ((HH.start w).alloc #[.int .i64 C, .slice a T.length c] 26 rfl rfl).alloc #[.int .i64 D, .slice b U.length d] 26 (by simp) rfl
  have H0 := Lib.hid h0
  have HV := Lib.hid (valid_any C T a c W hTl hRl hC (hT.later h0.below))
  have HU : Hid (∀ W', Below w.heap.size w W' → Calls Try.prog 16 #[.agg #[.int .i64 D, .slice b U.length d]] W' fun e w' => e = .returned (.bool (vldM D U)) ∧ Below W'.heap.size W' w') := Lib.hid fun W' h => valid_any D U b d W' hUl hSl hD (hU.later h)
  clear h0 hT hU hRl hTl hUl hSl
  by_cases h1 : vldM C T = true
  · have h2 : vldM D U = false := by
      rw [← Bool.not_eq_true]; exact fun e => hv ⟨h1, e⟩
    rw [h1] at HV
    rw [h2] at HU
    clear h1 h2 hv
    go_enter Try.func20, Try.ntmps20
    have hc0_0 := H0.out.cell (k := 0) (i := 0) rfl rfl
    have hc0_1 := H0.out.cell (k := 0) (i := 1) rfl rfl
    have hc1_0 := H0.out.cell (k := 1) (i := 0) rfl rfl
    have hc1_1 := H0.out.cell (k := 1) (i := 1) rfl rfl
    rw [hW] at hc0_0 hc0_1 hc1_0 hc1_1
    go_wp2_with fail
    rw [← hW]
    clear hW
    refine HV.out.mono ?_
    rintro e w1 ⟨rfl, hb⟩
    have H1 := Lib.hid (H0.out.call hb)
    clear hb hc0_0 hc0_1 hc1_0 hc1_1 HV H0
    have hc0_0 := H1.out.cell (k := 0) (i := 0) rfl rfl
    have hc0_1 := H1.out.cell (k := 0) (i := 1) rfl rfl
    have hc1_0 := H1.out.cell (k := 1) (i := 0) rfl rfl
    have hc1_1 := H1.out.cell (k := 1) (i := 1) rfl rfl
    go_wp2_with fail
    refine (HU.out w1 H1.out.below).mono ?_
    rintro e w2 ⟨rfl, hb⟩
    have H2 := Lib.hid (H1.out.call hb)
    clear hb hc0_0 hc0_1 hc1_0 hc1_1 HU H1
    go_wp2_with fail
    refine bodyPost_ret (v := .tuple #[.int .i64 0, .int .i64 1]) (by simp [results, Try.results20, go_sem]) rfl ?_
    exact ⟨rfl, H2.out.below⟩
  · have h2 : vldM C T = false := by rw [← Bool.not_eq_true]; exact h1
    rw [h2] at HV
    clear h1 h2 hv HU
    go_enter Try.func20, Try.ntmps20
    have hc0_0 := H0.out.cell (k := 0) (i := 0) rfl rfl
    have hc0_1 := H0.out.cell (k := 0) (i := 1) rfl rfl
    have hc1_0 := H0.out.cell (k := 1) (i := 0) rfl rfl
    have hc1_1 := H0.out.cell (k := 1) (i := 1) rfl rfl
    rw [hW] at hc0_0 hc0_1 hc1_0 hc1_1
    go_wp2_with fail
    rw [← hW]
    clear hW
    refine HV.out.mono ?_
    rintro e w1 ⟨rfl, hb⟩
    have H1 := Lib.hid (H0.out.call hb)
    clear hb hc0_0 hc0_1 hc1_0 hc1_1 HV H0
    go_wp2_with fail
    refine bodyPost_ret (v := .tuple #[.int .i64 0, .int .i64 1]) (by simp [results, Try.results20, go_sem]) rfl ?_
    exact ⟨rfl, H1.out.below⟩
set_option maxRecDepth 100000 in
set_option maxHeartbeats 4000000 in
theorem hom_any (C D : Nat) (xs ys : List Nat) (hx : ∀ x ∈ xs, x < 2 ^ C) (hy : ∀ y ∈ ys, y < 2 ^ D) (hC : C ≤ 65536) (hD : D ≤ 65536) (hR : xs.length ≤ 65536) (hS : ys.length ≤ 65536) (a b : Option Addr) (c d : Nat) (w : World) (hT : TabAt w a (tabN C xs)) (hU : TabAt w b (tabN D ys)) :
    Calls Try.prog 20 #[.agg #[.int .i64 (C : Int), .slice a xs.length c], .agg #[.int .i64 (D : Int), .slice b ys.length d]] w fun e w' => (C ≠ ys.length → e = .returned (.tuple #[.int .i64 0, .int .i64 2])) ∧ (C = ys.length → (∃ x ∈ xs, mulN ys C x ≠ 0) → e = .returned (.tuple #[.int .i64 0, .int .i64 10])) ∧
      (C = ys.length → (∀ x ∈ xs, mulN ys C x = 0) → e = .returned (.tuple #[.int .i64 ((C : Int) - (rk xs : Nat) - (rk ys : Nat)), .int .i64 0])) ∧ Below w.heap.size w w' := by
  obtain ⟨W, hW⟩ : ∃ W, W = (w.alloc (.cells #[.int .i64 (C : Int), .slice a xs.length c] 26)).alloc (.cells #[.int .i64 (D : Int), .slice b ys.length d] 26) := ⟨_, rfl⟩
  have h0 : HH w W [(w.heap.size, rowO 26 [.int .i64 (C : Int), .slice a xs.length c]), (w.heap.size + 1, rowO 26 [.int .i64 (D : Int), .slice b ys.length d])] [] := by rw [hW]; exact ((HH.start w).alloc #[.int .i64 (C : Int), .slice a xs.length c] 26 rfl rfl).alloc #[.int .i64 (D : Int), .slice b ys.length d] 26 (by simp) rfl
  have H0 := Lib.hid h0
  have HV : Hid (∀ W', Below w.heap.size w W' → Calls Try.prog 16 #[.agg #[.int .i64 (C : Int), .slice a xs.length c]] W' fun e w' => e = .returned (.bool true) ∧ Below W'.heap.size W' w') := Lib.hid fun W' h => valid_tab C xs hC hR a c W' (hT.later h)
  have HU : Hid (∀ W', Below w.heap.size w W' → Calls Try.prog 16 #[.agg #[.int .i64 (D : Int), .slice b ys.length d]] W' fun e w' => e = .returned (.bool true) ∧ Below W'.heap.size W' w') := Lib.hid fun W' h => valid_tab D ys hD hS b d W' (hU.later h)
  by_cases hCS : C = ys.length
  · have HT := Lib.hid hT
    have Hx := Lib.hid hx
    have Hcs := Lib.hid hCS
    have HS : Hid (∀ (x : Nat) (A : Option Addr) (E : Nat) (W' : World), (rowOf C x).length ≤ E → Below w.heap.size w W' → IntsAt W' A (rowOf C x) → Calls Try.prog 28 #[.slice b ys.length d, .slice A (rowOf C x).length E] W' fun e w' => ∃ A' E', e = .returned (.slice A' (rowOf D (mulN ys C x)).length E') ∧ Below W'.heap.size W' w') := Lib.hid fun x A E W' hE hW hA => by
      have hl : (rowOf C x).length ≤ 65536 := Nat.le_trans (rowOf_len _ _) hC
      have h := total_any D ys hy hD (by omega) _ (rowOf C x) b A d E W' (Nat.le_refl _) (by omega) hE (fun j hj => by have := (rowOf_asc C x).2 j hj; omega) (hU.later hW) hA
      rw [sumI_row] at h
      refine h.mono ?_
      rintro e w' ⟨A', E', he, _, hb⟩
      exact ⟨A', E', he, hb⟩
    have HK1 : Hid (∀ W', Below w.heap.size w W' → Calls Try.prog 14 #[.agg #[.int .i64 (C : Int), .slice a xs.length c]] W' fun e w' => e = .returned (.tuple #[.int .i64 (rk xs : Nat), .int .i64 0]) ∧ Below W'.heap.size W' w') := Lib.hid fun W' h => rank_yes C xs hx hC hR a c W' (hT.later h)
    have HK2 : Hid (∀ W', Below w.heap.size w W' → Calls Try.prog 14 #[.agg #[.int .i64 (D : Int), .slice b ys.length d]] W' fun e w' => e = .returned (.tuple #[.int .i64 (rk ys : Nat), .int .i64 0]) ∧ Below W'.heap.size W' w') := Lib.hid fun W' h => rank_yes D ys hy hD hS b d W' (hU.later h)
    have hk1 : rk xs ≤ 65536 := Nat.le_trans (rk_le_len xs) hR
    have hk2 : rk ys ≤ 65536 := Nat.le_trans (rk_le_len ys) hS
    have d1 : ((C : Int) != (ys.length : Int)) = false := by rw [hCS]; simp
    have d1' : (C : Int) = (ys.length : Int) := by rw [hCS]
    have Hd1 := Lib.hid d1'
    have hmul : ∀ x, (rowOf D (mulN ys C x)).length = 0 ↔ mulN ys C x = 0 := fun x => by
      rw [← rowOf_nil (mulN_lt hy C x), List.length_eq_zero_iff]
    have Hmul := Lib.hid hmul
    clear hT hU hx hy hCS h0 hmul d1'
    generalize rk xs = k1 at *
    generalize rk ys = k2 at *
    go_enter Try.func20, Try.ntmps20
    have hc0_0 := H0.out.cell (k := 0) (i := 0) rfl rfl
    have hc0_1 := H0.out.cell (k := 0) (i := 1) rfl rfl
    have hc1_0 := H0.out.cell (k := 1) (i := 0) rfl rfl
    have hc1_1 := H0.out.cell (k := 1) (i := 1) rfl rfl
    rw [hW] at hc0_0 hc0_1 hc1_0 hc1_1
    go_wp2_with fail
    rw [← hW]
    clear hW
    refine (HV.out W H0.out.below).mono ?_
    rintro e w1 ⟨rfl, hb⟩
    have H1 := Lib.hid (H0.out.call hb)
    clear hb hc0_0 hc0_1 hc1_0 hc1_1 H0
    have hc0_0 := H1.out.cell (k := 0) (i := 0) rfl rfl
    have hc0_1 := H1.out.cell (k := 0) (i := 1) rfl rfl
    have hc1_0 := H1.out.cell (k := 1) (i := 0) rfl rfl
    have hc1_1 := H1.out.cell (k := 1) (i := 1) rfl rfl
    go_wp2_with fail
    refine (HU.out w1 H1.out.below).mono ?_
    rintro e w2 ⟨rfl, hb⟩
    have H2 := Lib.hid (H1.out.call hb)
    clear hb hc0_0 hc0_1 hc1_0 hc1_1 H1
    have hc0_0 := H2.out.cell (k := 0) (i := 0) rfl rfl
    have hc0_1 := H2.out.cell (k := 0) (i := 1) rfl rfl
    have hc1_0 := H2.out.cell (k := 1) (i := 0) rfl rfl
    have hc1_1 := H2.out.cell (k := 1) (i := 1) rfl rfl
    go_wp2_with fail
    clear hc0_0 hc0_1 hc1_0 hc1_1 HV HU d1
    go_loopg [28] xs.length (fun g v wr => ∃ i : Nat, i ≤ xs.length ∧ g = xs.length - i ∧ v = .int .i64 i ∧ HH w wr [(w.heap.size, rowO 26 [.int .i64 (C : Int), .slice a xs.length c]), (w.heap.size + 1, rowO 26 [.int .i64 (D : Int), .slice b ys.length d])] [] ∧ ∀ x ∈ xs.take i, mulN ys C x = 0)
    case atStart => exact ⟨0, Nat.zero_le _, rfl, rfl, H2.out, fun x h => by simp at h⟩
    case round =>
      obtain ⟨i, hi, rfl, rfl, hh, hz⟩ := hrel
      have Hh := Lib.hid hh
      have Hz := Lib.hid hz
      clear hh hz H2
      by_cases hil : i < xs.length
      · obtain ⟨b1, o1, a', c', rfl, hcr, hrow⟩ := HT.out.rowAt (tabN_get hil)
        have hc1 := (hrow wr Hh.out.below).1
        have HC := Lib.hid (HS.out (xs.getD i 0) a' c' wr hcr Hh.out.below (hrow wr Hh.out.below).2)
        have Hxm : Hid (xs.getD i 0 ∈ xs) := Lib.hid (by rw [List.getD_eq_getElem?_getD, List.getElem?_eq_getElem hil]; exact List.getElem_mem _)
        have Hst : Hid (xs.take (i + 1) = xs.take i ++ [xs.getD i 0]) := Lib.hid (by rw [List.take_succ_eq_append_getElem hil]; simp [hil])
        have Hmx := Lib.hid (Hmul.out (xs.getD i 0))
        have hl1 : (rowOf C (xs.getD i 0)).length ≤ 65536 := Nat.le_trans (rowOf_len _ _) hC
        have hl2 : (rowOf D (mulN ys C (xs.getD i 0))).length ≤ 65536 := Nat.le_trans (rowOf_len _ _) hD
        clear hrow hcr
        generalize xs.getD i 0 = x at *
        generalize (rowOf D (mulN ys C x)).length = L at *
        generalize (rowOf C x).length = L1 at *
        have hc1_1 := Hh.out.cell (k := 1) (i := 1) rfl rfl
        by_cases hL : 0 < L
        · go_wp2_with fail
          refine HC.out.mono ?_
          rintro e w3 ⟨A', E', rfl, hb⟩
          have H3 := Lib.hid (Hh.out.call hb)
          clear hb hc1_1 hc1 HC Hh
          go_wp2_with fail
          refine bodyPost_ret (v := .tuple #[.int .i64 0, .int .i64 10]) (by simp [results, Try.results20, go_sem]) rfl ?_
          refine ⟨fun h => absurd Hcs.out h, fun _ _ => rfl, fun _ h => ?_, H3.out.below⟩
          have := Hmx.out.2 (h x Hxm.out)
          omega
        · have hL0 : L = 0 := by omega
          subst hL0
          go_wp2_with fail
          refine HC.out.mono ?_
          rintro e w3 ⟨A', E', rfl, hb⟩
          have H3 := Lib.hid (Hh.out.call hb)
          clear hb hc1_1 hc1 HC Hh
          go_wp2_with fail
          go_roundg (xs.length - (i + 1))
          case measure => omega
          case rel =>
            refine ⟨i + 1, by omega, rfl, by go_num, H3.out, fun z hz => ?_⟩
            rw [Hst.out] at hz
            rcases List.mem_append.1 hz with e | e
            · exact Hz.out z e
            · obtain rfl := List.mem_singleton.1 e
              exact Hmx.out.1 (by simp)
      · obtain rfl : i = xs.length := by omega
        have hc0_0 := Hh.out.cell (k := 0) (i := 0) rfl rfl
        have hc0_1 := Hh.out.cell (k := 0) (i := 1) rfl rfl
        have hc1_0 := Hh.out.cell (k := 1) (i := 0) rfl rfl
        have hc1_1 := Hh.out.cell (k := 1) (i := 1) rfl rfl
        go_wp2_with fail
        refine (HK1.out wr Hh.out.below).mono ?_
        rintro e w3 ⟨rfl, hb⟩
        have H3 := Lib.hid (Hh.out.call hb)
        clear hb hc0_0 hc0_1 hc1_0 hc1_1 Hh
        have hc0_0 := H3.out.cell (k := 0) (i := 0) rfl rfl
        have hc0_1 := H3.out.cell (k := 0) (i := 1) rfl rfl
        have hc1_0 := H3.out.cell (k := 1) (i := 0) rfl rfl
        have hc1_1 := H3.out.cell (k := 1) (i := 1) rfl rfl
        go_wp2_with fail
        refine (HK2.out w3 H3.out.below).mono ?_
        rintro e w4 ⟨rfl, hb⟩
        have H4 := Lib.hid (H3.out.call hb)
        clear hb hc0_0 hc0_1 hc1_0 hc1_1 H3
        have hc0_0 := H4.out.cell (k := 0) (i := 0) rfl rfl
        have hc0_1 := H4.out.cell (k := 0) (i := 1) rfl rfl
        have hc1_0 := H4.out.cell (k := 1) (i := 0) rfl rfl
        have hc1_1 := H4.out.cell (k := 1) (i := 1) rfl rfl
        go_wp2_with fail
        refine bodyPost_ret (v := .tuple #[.int .i64 ((C : Int) - (k1 : Int) - (k2 : Int)), .int .i64 0]) (by simp [results, Try.results20, go_sem]) rfl ?_
        refine ⟨fun h => absurd Hcs.out h, fun _ h => ?_, fun _ _ => rfl, H4.out.below⟩
        obtain ⟨x, hx, hne⟩ := h
        exact absurd (Hz.out x (by rw [List.take_length]; exact hx)) hne
  · have Hcs := Lib.hid hCS
    have d1 : ((C : Int) != (ys.length : Int)) = true := by rw [bne, Bool.not_eq_true', beq_eq_false_iff_ne]; omega
    have d1' : ¬ (C : Int) = (ys.length : Int) := by omega
    clear hT hU hx hy hCS h0
    go_enter Try.func20, Try.ntmps20
    have hc0_0 := H0.out.cell (k := 0) (i := 0) rfl rfl
    have hc0_1 := H0.out.cell (k := 0) (i := 1) rfl rfl
    have hc1_0 := H0.out.cell (k := 1) (i := 0) rfl rfl
    have hc1_1 := H0.out.cell (k := 1) (i := 1) rfl rfl
    rw [hW] at hc0_0 hc0_1 hc1_0 hc1_1
    go_wp2_with fail
    rw [← hW]
    clear hW
    refine (HV.out W H0.out.below).mono ?_
    rintro e w1 ⟨rfl, hb⟩
    have H1 := Lib.hid (H0.out.call hb)
    clear hb hc0_0 hc0_1 hc1_0 hc1_1 H0
    have hc0_0 := H1.out.cell (k := 0) (i := 0) rfl rfl
    have hc0_1 := H1.out.cell (k := 0) (i := 1) rfl rfl
    have hc1_0 := H1.out.cell (k := 1) (i := 0) rfl rfl
    have hc1_1 := H1.out.cell (k := 1) (i := 1) rfl rfl
    go_wp2_with fail
    refine (HU.out w1 H1.out.below).mono ?_
    rintro e w2 ⟨rfl, hb⟩
    have H2 := Lib.hid (H1.out.call hb)
    clear hb hc0_0 hc0_1 hc1_0 hc1_1 H1
    have hc0_0 := H2.out.cell (k := 0) (i := 0) rfl rfl
    have hc0_1 := H2.out.cell (k := 0) (i := 1) rfl rfl
    have hc1_0 := H2.out.cell (k := 1) (i := 0) rfl rfl
    have hc1_1 := H2.out.cell (k := 1) (i := 1) rfl rfl
    go_wp2_with fail
    refine bodyPost_ret (v := .tuple #[.int .i64 0, .int .i64 2]) (by simp [results, Try.results20, go_sem]) rfl ?_
    exact ⟨fun _ => rfl, fun h => absurd h Hcs.out, fun h => absurd h Hcs.out, H2.out.below⟩
end Go.Proofs.Ytlgiponfcmeiiaa
