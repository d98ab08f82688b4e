/- The walk of the law GftwoMul: sizes that fit. -/
import Derived.Test.YtlgiponfcmeiiaaLMulW
namespace Go.Proofs.Ytlgiponfcmeiiaa
open Go Go.RowKit
set_option maxRecDepth 100000 in
set_option maxHeartbeats 4000000 in
theorem lmul_y (C : Int) (T : List (List Int)) (a : Option Addr) (c : Nat) (D : Int) (U : List (List Int)) (b : Option Addr) (d : Nat) (w : World) (hs : smallB C T = true) (hs2 : smallB D U = true) (hC : (Lit.int .i64 C).wf = true) (hD : (Lit.int .i64 D).wf = true) (hv : vldM C T = true) (hv2 : vldM D U = true) (n m : Nat) (xs ys : List Nat) (hn : C = (n : Int)) (hx : T = tabN n xs) (hxl : ∀ x ∈ xs, x < 2 ^ n) (hm : D = (m : Int)) (hy : U = tabN m ys) (hyl : ∀ y ∈ ys, y < 2 ^ m) (heq : n = ys.length) (hT : TabAt w a T) (hU : TabAt w b U) :
    Calls Try.prog 8 #[.int .i64 C, .slice a T.length c, .int .i64 D, .slice b U.length d] w fun e w' => e = .returned (.bool true) ∧ Below w.heap.size w w' := by
  have HS1 : Hid (∀ W', Below w.heap.size w W' → Calls Try.prog 12 #[.int .i64 C, .slice a T.length c] W' fun e w' => e = .returned (.int .i64 (sI (smallB C T))) ∧ Below W'.heap.size W' w') := Lib.hid fun W' h => small_any C T a c W' (hT.later h)
  have HS2 : Hid (∀ W', Below w.heap.size w W' → Calls Try.prog 12 #[.int .i64 D, .slice b U.length d] W' fun e w' => e = .returned (.int .i64 (sI (smallB D U))) ∧ Below W'.heap.size W' w') := Lib.hid fun W' h => small_any D U b d W' (hU.later h)
  have hl := (smallB_iff.1 hs).1.1
  have hr := (smallB_iff.1 hs).2
  have hl2 := (smallB_iff.1 hs2).1.1
  have hr2 := (smallB_iff.1 hs2).2
  have HV1 : Hid (∀ W', Below w.heap.size w W' → Calls Try.prog 15 #[.int .i64 C, .slice a T.length c] W' fun e w' => e = .returned (.bool (vldM C T)) ∧ Below W'.heap.size W' w') := Lib.hid fun W' h => rvalid_any C T a c W' (by omega) (fun l hl => by have := hr l hl; omega) (wf_lo hC) (hT.later h)
  have HV2 : Hid (∀ W', Below w.heap.size w W' → Calls Try.prog 15 #[.int .i64 D, .slice b U.length d] W' fun e w' => e = .returned (.bool (vldM D U)) ∧ Below W'.heap.size W' w') := Lib.hid fun W' h => rvalid_any D U b d W' (by omega) (fun l hl => by have := hr2 l hl; omega) (wf_lo hD) (hU.later h)
  rw [hs, show sI true = 1 from rfl] at HS1
  rw [hs2, show sI true = 1 from rfl] at HS2
  rw [hv] at HV1
  rw [hv2] at HV2
  have hn4 : n ≤ 65536 := by have := (vldM_iff.1 hv).1; omega
  have hm4 : m ≤ 65536 := by have := (vldM_iff.1 hv2).1; omega
  subst hn
  subst hm
  subst hx
  subst hy
  rw [tabN_len n xs] at *
  rw [tabN_len m ys] at *
  have HD1 : Hid (∀ W', Below w.heap.size w W' → Calls Try.prog 18 #[.int .i64 (n : Int), .slice a xs.length c] W' fun e w' => ∃ A E, e = .returned (.slice A xs.length E) ∧ BTabAt w' A n xs ∧ Below W'.heap.size W' w') := Lib.hid fun W' h => dense_any n xs hxl hn4 (by omega) a c W' (hT.later h)
  have HD2 : Hid (∀ W', Below w.heap.size w W' → Calls Try.prog 18 #[.int .i64 (m : Int), .slice b ys.length d] W' fun e w' => ∃ A E, e = .returned (.slice A ys.length E) ∧ BTabAt w' A m ys ∧ Below W'.heap.size W' w') := Lib.hid fun W' h => dense_any m ys hyl hm4 (by omega) b d W' (hU.later h)
  have HM : Hid (∀ (A B : Option Addr) (E G : Nat) W', BTabAt W' A n xs → BTabAt W' B m ys → Calls Try.prog 22 #[.slice A xs.length E, .slice B ys.length G, .int .i64 (m : Int)] W' fun e w' => ∃ A E, e = .returned (.slice A (xs.map (mulN ys n)).length E) ∧ BTabAt w' A m (xs.map (mulN ys n)) ∧ Below W'.heap.size W' w') := Lib.hid fun A B E G W' h1 h2 => by
    rw [List.length_map, heq]
    exact rmul_any ys.length m xs ys rfl hm4 (by omega) (by omega) A B E G W' (by rw [← heq]; exact h1) h2
  have HZS : Hid (∀ (A : Option Addr) (E : Nat) W', BTabAt W' A m (xs.map (mulN ys n)) → Calls Try.prog 21 #[.slice A (xs.map (mulN ys n)).length E] W' fun e w' => ∃ A E, e = .returned (.slice A (xs.map (mulN ys n)).length E) ∧ TabAt w' A (tabN m (xs.map (mulN ys n))) ∧ Below W'.heap.size W' w') := Lib.hid fun A E W' h => sparse_any m (xs.map (mulN ys n)) hm4 (by rw [List.length_map]; omega) A E W' h
  have HZL : Hid (∀ i, (xs.map (mulN ys n)).getD i 0 < 2 ^ m) := Lib.hid fun i => getD_lt (fun z hz => by
    obtain ⟨x, _, rfl⟩ := List.mem_map.1 hz
    exact mulN_lt hyl n x) i
  have hzl : (xs.map (mulN ys n)).length ≤ 30 := by rw [List.length_map]; exact hl
  have HH0 : Hid (∀ W', Below w.heap.size w W' → Calls Try.prog 23 #[.agg #[.int .i64 (n : Int), .slice a xs.length c], .agg #[.int .i64 (m : Int), .slice b ys.length d]] W' fun e w' => ∃ A E, e = .returned (.tuple #[.agg #[.int .i64 (m : Int), .slice A xs.length E], .int .i64 0]) ∧ TabAt w' A (tabN m (xs.map (mulN ys n))) ∧ Below W'.heap.size W' w') := Lib.hid fun W' h => mul_yes n m xs ys hyl hn4 hm4 (by omega) (by omega) a b c d W' (hT.later h) (hU.later h) heq
  have e1 : ((n : Int) != (ys.length : Nat)) = false := by rw [heq]; simp
  have HRk1 : Hid (∀ W', Below w.heap.size w W' → Calls Try.prog 14 #[.agg #[.int .i64 (n : Int), .slice a xs.length c]] W' fun e w' => e = .returned (.tuple #[.int .i64 (rk xs : Nat), .int .i64 0]) ∧ Below W'.heap.size W' w') := Lib.hid fun W' h => rank_yes n xs hxl hn4 (by omega) a c W' (hT.later h)
  have HRk2 : Hid (∀ W', Below w.heap.size w W' → Calls Try.prog 14 #[.agg #[.int .i64 (m : Int), .slice b ys.length d]] W' fun e w' => e = .returned (.tuple #[.int .i64 (rk ys : Nat), .int .i64 0]) ∧ Below W'.heap.size W' w') := Lib.hid fun W' h => rank_yes m ys hyl hm4 (by omega) b d W' (hU.later h)
  have HZA : Hid (∀ z ∈ xs.map (mulN ys n), z < 2 ^ m) := Lib.hid fun z hz => by
    obtain ⟨x, _, rfl⟩ := List.mem_map.1 hz
    exact mulN_lt hyl n x
  have hq1 := rk_mul_left xs ys n
  have hq2 := rk_mul_right xs ys heq
  generalize rk xs = r1 at *
  generalize rk ys = r2 at *
  obtain ⟨r3, hr3⟩ : ∃ r3 : Nat, rk (xs.map (mulN ys n)) = r3 := ⟨_, rfl⟩
  rw [hr3] at hq1 hq2
  have Hr3 := Lib.hid hr3
  have d9 : decide ((r3 : Int) ≤ min (r1 : Int) (r2 : Int)) = true := decide_eq_true (by omega)
  have Hlz : Hid ((xs.map (mulN ys n)).length = xs.length) := Lib.hid (List.length_map _)
  clear hv hv2 hxl hyl heq hq1 hq2 hr3
  clear hs hs2 hT hU hr hr2 hC hD 
  generalize xs.map (mulN ys n) = zs at *
  go_enter Try.func8, Try.ntmps8
  go_wp2_with fail
  refine (awake_any w).mono ?_
  rintro e w1 ⟨rfl, hb⟩
  have H1 := Lib.hid ((HH.start w).call hb)
  clear hb
  go_wp2_with fail
  refine (HS1.out w1 H1.out.below).mono ?_
  rintro e w2 ⟨rfl, hb⟩
  have H2 := Lib.hid (H1.out.call hb)
  clear hb H1
  go_wp2_with fail
  refine (HS2.out w2 H2.out.below).mono ?_
  rintro e w3 ⟨rfl, hb⟩
  have H3 := Lib.hid (H2.out.call hb)
  clear hb H2
  go_wp2_with fail
  refine (matrix_any n xs.length a c w3).mono ?_
  rintro e w4 ⟨rfl, hb⟩
  have H4 := Lib.hid (H3.out.call hb)
  clear hb H3
  go_wp2_with fail
  refine (matrix_any m ys.length b d w4).mono ?_
  rintro e w5 ⟨rfl, hb⟩
  have H5 := Lib.hid (H4.out.call hb)
  clear hb H4
  go_wp2_with fail
  obtain ⟨v5, hv5⟩ : ∃ x, x = (w5.alloc (.cells #[.int .i64 (n : Int), .slice a xs.length c] 26)).alloc (.cells #[.int .i64 (m : Int), .slice b ys.length d] 26) := ⟨_, rfl⟩
  rw [← hv5]
  have h6 : HH w v5 [(w5.heap.size, rowO 26 [.int .i64 (n : Int), .slice a xs.length c]), (w5.heap.size + 1, rowO 26 [.int .i64 (m : Int), .slice b ys.length d])] [] := by rw [hv5]; exact (H5.out.alloc #[.int .i64 (n : Int), .slice a xs.length c] 26 rfl rfl).alloc #[.int .i64 (m : Int), .slice b ys.length d] 26 (by simp) rfl
  have H6 := Lib.hid h6
  generalize w5.heap.size = q at *
  clear hv5 h6 H5
  refine (HH0.out v5 H6.out.below).mono ?_
  rintro e w6 ⟨A, E, rfl, hbt, hb⟩
  have Hbt := Lib.hid hbt
  clear hbt
  have H7 := Lib.hid ((H6.out.call hb).alloc #[.int .i64 (m : Int), .slice A xs.length E] 26 rfl rfl)
  obtain ⟨v6, hv6⟩ : ∃ x, x = w6.alloc (.cells #[.int .i64 (m : Int), .slice A xs.length E] 26) := ⟨_, rfl⟩
  have Hbt2 := Lib.hid (Hbt.out.later ((Below.refl w6.heap.size w6).alloc (Nat.le_refl _) (.cells #[.int .i64 (m : Int), .slice A xs.length E] 26)))
  rw [← hv6] at Hbt2
  clear hb H6 HH0 Hbt
  go_wp2_with fail
  rw [← hv6]
  rw [← hv6] at H7
  generalize w6.heap.size = q2 at *
  clear hv6
  refine (HV1.out v6 H7.out.below).mono ?_
  rintro e w7 ⟨rfl, hb⟩
  have H8 := Lib.hid (H7.out.call hb)
  replace Hbt2 := Lib.hid (Hbt2.out.later hb)
  clear hb H7
  go_wp2_with fail
  refine (HV2.out w7 H8.out.below).mono ?_
  rintro e w8 ⟨rfl, hb⟩
  have H9 := Lib.hid (H8.out.call hb)
  replace Hbt2 := Lib.hid (Hbt2.out.later hb)
  clear hb H8
  have hc2_0 := H9.out.cell (k := 2) (i := 0) rfl rfl
  have hc2_1 := H9.out.cell (k := 2) (i := 1) rfl rfl
  go_wp2_with fail
  have HBw := Lib.hid H9.out.below
  have HKS : Hid (∀ w', Below w8.heap.size w8 w' → w'.cell? ⟨q2, 0, none⟩ = some (.int .i64 (m : Int)) ∧ w'.cell? ⟨q2, 1, none⟩ = some (.slice A xs.length E)) := Lib.hid fun w' h => have hh := H9.out.call h; ⟨hh.cell (k := 2) (i := 0) rfl rfl, hh.cell (k := 2) (i := 1) rfl rfl⟩
  have HE : Hid (∀ (A4 : Option Addr) (E4 : Nat) W', Below w8.heap.size w8 W' → TabAt W' A4 (tabN m zs) → Calls Try.prog 24 #[.slice A xs.length E, .slice A4 zs.length E4] W' fun e w' => e = .returned (.bool true) ∧ Below W'.heap.size W' w') := Lib.hid fun A4 E4 W' h h4 => by
    have hq := equalT_any (tabN m zs) (tabN m zs) A A4 E E4 W' (by rw [tabN_len, Hlz.out]; omega) (fun l hl => by
      obtain ⟨z, _, rfl⟩ := List.mem_map.1 hl
      have := rowOf_len m z
      omega) (Hbt2.out.later h) h4
    rw [tabN_len, decide_eq_true rfl] at hq
    rw [← Hlz.out]
    refine hq.mono ?_
    rintro e w' ⟨rfl, k, rfl⟩
    exact ⟨rfl, (below_drewNN (Below.refl _ _) k)⟩
  have HRk3 : Hid (∀ W', Below w8.heap.size w8 W' → Calls Try.prog 14 #[.agg #[.int .i64 (m : Int), .slice A xs.length E]] W' fun e w' => e = .returned (.tuple #[.int .i64 r3, .int .i64 0]) ∧ Below W'.heap.size W' w') := Lib.hid fun W' h => by
    have hq := rank_yes m zs HZA.out hm4 (by rw [Hlz.out]; omega) A E W' (Hbt2.out.later h)
    rw [Hlz.out, Hr3.out] at hq
    exact hq
  have Hr := Lib.hid ((Below.refl w8.heap.size w8).drew)
  clear hc2_0 hc2_1
  go_region_held3 (fun w' => w'.cell? ⟨q2, 0, none⟩ = some (.int .i64 (m : Int)) ∧ w'.cell? ⟨q2, 1, none⟩ = some (.slice A xs.length E))
    (first
      | with_reducible exact HKS.out _ Hr.out)
    (first
      | ((with_reducible refine (HD1.out _ (below_of HBw.out Hr.out HBw.out.size)).mono ?_); rintro e wa ⟨A1, E1, rfl, hbt, hb⟩; have Hb1 := Lib.hid hbt; (try replace Hb2 := Lib.hid (Hb2.out.later hb)); replace Hr := Lib.hid (below_of Hr.out hb Hr.out.size); clear hbt hb)
      | ((with_reducible refine (HD2.out _ (below_of HBw.out Hr.out HBw.out.size)).mono ?_); rintro e wb ⟨A2, E2, rfl, hbt, hb⟩; have Hb2 := Lib.hid hbt; (try replace Hb1 := Lib.hid (Hb1.out.later hb)); replace Hr := Lib.hid (below_of Hr.out hb Hr.out.size); clear hbt hb)
      | ((with_reducible refine (HM.out _ _ _ _ _ Hb1.out Hb2.out).mono ?_); rintro e wc ⟨A3, E3, rfl, hbt, hb⟩; have Hb3 := Lib.hid hbt; replace Hr := Lib.hid (below_of Hr.out hb Hr.out.size); clear hbt hb)
      | ((with_reducible refine (HZS.out _ _ _ Hb3.out).mono ?_); rintro e wd ⟨A4, E4, rfl, hbt, hb⟩; have Hb4 := Lib.hid hbt; replace Hr := Lib.hid (below_of Hr.out hb Hr.out.size); clear hbt hb)
      | ((with_reducible refine (HE.out _ _ _ Hr.out Hb4.out).mono ?_); rintro e we ⟨rfl, hb⟩; replace Hr := Lib.hid (below_of Hr.out hb Hr.out.size); clear hb))
  all_goals
    clear Hb1 Hb2 Hb3 Hb4 HD1 HD2 HM HZS HE HZL
    have H10 := Lib.hid (H9.out.call Hr.out)
    clear H9 HKS
    have hc0_0 := H10.out.cell (k := 0) (i := 0) rfl rfl
    have hc0_1 := H10.out.cell (k := 0) (i := 1) rfl rfl
    have hc1_0 := H10.out.cell (k := 1) (i := 0) rfl rfl
    have hc1_1 := H10.out.cell (k := 1) (i := 1) rfl rfl
    have hc2_0 := H10.out.cell (k := 2) (i := 0) rfl rfl
    have hc2_1 := H10.out.cell (k := 2) (i := 1) rfl rfl
    go_wp2_with fail
    clear hc0_0 hc0_1 hc1_0 hc1_1 hc2_0 hc2_1
    refine (HRk1.out _ H10.out.below).mono ?_
    rintro e w11 ⟨rfl, hb⟩
    have H11 := Lib.hid (H10.out.call hb)
    replace Hr := Lib.hid (below_of Hr.out hb Hr.out.size)
    clear hb H10 HRk1
    have hc0_0 := H11.out.cell (k := 0) (i := 0) rfl rfl
    have hc0_1 := H11.out.cell (k := 0) (i := 1) rfl rfl
    have hc1_0 := H11.out.cell (k := 1) (i := 0) rfl rfl
    have hc1_1 := H11.out.cell (k := 1) (i := 1) rfl rfl
    have hc2_0 := H11.out.cell (k := 2) (i := 0) rfl rfl
    have hc2_1 := H11.out.cell (k := 2) (i := 1) rfl rfl
    go_wp2_with fail
    clear hc0_0 hc0_1 hc1_0 hc1_1 hc2_0 hc2_1
    refine (HRk2.out _ H11.out.below).mono ?_
    rintro e w12 ⟨rfl, hb⟩
    have H12 := Lib.hid (H11.out.call hb)
    replace Hr := Lib.hid (below_of Hr.out hb Hr.out.size)
    clear hb H11 HRk2
    have hc0_0 := H12.out.cell (k := 0) (i := 0) rfl rfl
    have hc0_1 := H12.out.cell (k := 0) (i := 1) rfl rfl
    have hc1_0 := H12.out.cell (k := 1) (i := 0) rfl rfl
    have hc1_1 := H12.out.cell (k := 1) (i := 1) rfl rfl
    have hc2_0 := H12.out.cell (k := 2) (i := 0) rfl rfl
    have hc2_1 := H12.out.cell (k := 2) (i := 1) rfl rfl
    go_wp2_with fail
    clear hc0_0 hc0_1 hc1_0 hc1_1 hc2_0 hc2_1
    refine (HRk3.out _ Hr.out).mono ?_
    rintro e w13 ⟨rfl, hb⟩
    have H13 := Lib.hid (H12.out.call hb)
    clear hb H12 HRk3
    go_wp2_with fail
    go_ret
    exact ⟨rfl, H13.out.below⟩
end Go.Proofs.Ytlgiponfcmeiiaa
