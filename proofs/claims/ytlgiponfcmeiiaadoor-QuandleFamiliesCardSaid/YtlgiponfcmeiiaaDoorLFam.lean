/- The walk of the law QuandleFamilies. -/
import Derived.Test.YtlgiponfcmeiiaaDoorLawD
import Derived.Test.YtlgiponfcmeiiaaDoorRAffW
namespace Go.Proofs.YtlgiponfcmeiiaaDoor
open Go Go.RowKit
set_option maxRecDepth 100000 in
set_option maxHeartbeats 4000000 in
theorem lfam_r (n t : Int) (w : World) (h : n < 1 ∨ 30 < n) : Calls Tryd.prog 3 #[.int .i64 n, .int .i64 t] w fun e w' => e = .returned (.bool true) ∧ Below w.heap.size w w' := by
  have HA : Hid (∀ W', Calls Tryd.prog 11 #[.int .i64 n, .int .i64 t] W' fun e w' => e = .returned (.tuple #[.agg #[.slice none 0 0], .int .i64 2]) ∧ Below W'.heap.size W' w') := Lib.hid fun W' => aff_range n t W' h
  have HD : Hid (∀ W', Calls Tryd.prog 12 #[.int .i64 n] W' fun e w' => e = .returned (.tuple #[.agg #[.slice none 0 0], .int .i64 2]) ∧ Below W'.heap.size W' w') := Lib.hid fun W' => dih_range n W' h
  by_cases h1 : n < 1
  · have d1 : decide (n < 1) = true := decide_eq_true h1
    clear h h1
    go_enter Tryd.func3, Tryd.ntmps3
    go_wp2_with fail
    refine (awake_any w).mono ?_
    rintro e w1 ⟨rfl, hb⟩
    have H1 := Lib.hid ((HH.start w).call hb)
    clear hb
    go_wp2_with fail
    refine (HA.out w1).mono ?_
    rintro e w2 ⟨rfl, hb⟩
    have H2 := Lib.hid ((H1.out.call hb).alloc #[.slice none 0 0] 25 rfl rfl)
    clear hb H1 HA
    obtain ⟨v2, hv⟩ : ∃ x, x = w2.alloc (.cells #[.slice none 0 0] 25) := ⟨_, rfl⟩
    go_wp2_with fail
    rw [← hv]
    rw [← hv] at H2 
    generalize w2.heap.size = q1 at *
    clear hv
    refine (HD.out v2).mono ?_
    rintro e w3 ⟨rfl, hb⟩
    have H3 := Lib.hid ((H2.out.call hb).alloc #[.slice none 0 0] 25 rfl rfl)
    clear hb H2 HD
    have hc0 := H3.out.cell (k := 0) (i := 0) rfl rfl
    have hc1 := H3.out.cell (k := 1) (i := 0) rfl rfl
    go_wp2_with fail
    go_ret
    exact ⟨rfl, H3.out.below⟩
  · have d1 : decide (n < 1) = false := decide_eq_false h1
    have d2 : decide (30 < n) = true := decide_eq_true (by omega)
    clear h h1
    go_enter Tryd.func3, Tryd.ntmps3
    go_wp2_with fail
    refine (awake_any w).mono ?_
    rintro e w1 ⟨rfl, hb⟩
    have H1 := Lib.hid ((HH.start w).call hb)
    clear hb
    go_wp2_with fail
    refine (HA.out w1).mono ?_
    rintro e w2 ⟨rfl, hb⟩
    have H2 := Lib.hid ((H1.out.call hb).alloc #[.slice none 0 0] 25 rfl rfl)
    clear hb H1 HA
    obtain ⟨v2, hv⟩ : ∃ x, x = w2.alloc (.cells #[.slice none 0 0] 25) := ⟨_, rfl⟩
    go_wp2_with fail
    rw [← hv]
    rw [← hv] at H2 
    generalize w2.heap.size = q1 at *
    clear hv
    refine (HD.out v2).mono ?_
    rintro e w3 ⟨rfl, hb⟩
    have H3 := Lib.hid ((H2.out.call hb).alloc #[.slice none 0 0] 25 rfl rfl)
    clear hb H2 HD
    have hc0 := H3.out.cell (k := 0) (i := 0) rfl rfl
    have hc1 := H3.out.cell (k := 1) (i := 0) rfl rfl
    go_wp2_with fail
    go_ret
    exact ⟨rfl, H3.out.below⟩
set_option maxRecDepth 100000 in
set_option maxHeartbeats 4000000 in
theorem lfam_x (n : Nat) (t : Int) (w : World) (h1 : 1 ≤ n) (h30 : n ≤ 30) (hg : 1 < Nat.gcd (t % (n : Int)).toNat n) : Calls Tryd.prog 3 #[.int .i64 (n : Int), .int .i64 t] w fun e w' => e = .returned (.bool true) ∧ Below w.heap.size w w' := by
  have HA : Hid (∀ W', Calls Tryd.prog 11 #[.int .i64 (n : Int), .int .i64 t] W' fun e w' => e = .returned (.tuple #[.agg #[.slice none 0 0], .int .i64 10]) ∧ Below W'.heap.size W' w') := Lib.hid fun W' => aff_exact n t W' h1 h30 hg
  have HCP : Hid (∀ W', Calls Tryd.prog 16 #[.int .i64 (n : Int), .int .i64 t] W' fun e w' => e = .returned (.bool false) ∧ Below W'.heap.size W' w') := Lib.hid fun W' => by
    have h := cop_any n t W' h1 h30
    rw [decide_eq_false (by omega)] at h
    exact h
  have d1 : decide ((n : Int) < 1) = false := decide_eq_false (by omega)
  have d2 : decide (30 < (n : Int)) = false := decide_eq_false (by omega)
  have d3 : decide (n < 1) = false := decide_eq_false (by omega)
  have d4 : decide (30 < n) = false := decide_eq_false (by omega)
  have hqD : Qnd (afT n (n - 1)) := afT_qnd n (n - 1) h1 h30 (by omega) (by rw [(dih_t n h1).2])
  have HD : Hid (∀ W', Calls Tryd.prog 12 #[.int .i64 (n : Int)] W' fun e w' => ∃ A E, e = .returned (.tuple #[.agg #[.slice A n E], .int .i64 0]) ∧ TabNew W'.heap.size w' A (afT n (n - 1)) ∧ Below W'.heap.size W' w') := Lib.hid fun W' => dih_yes n W' h1 h30
  have HRA : Hid (∀ W', Calls Tryd.prog 14 #[.int .i64 (n : Int), .int .i64 (-1)] W' fun e w' => ∃ A E, e = .returned (.slice A n E) ∧ TabAt w' A (afT n (n - 1)) ∧ Below W'.heap.size W' w') := Lib.hid fun W' => raff_any n (-1) W' h1 h30 (n - 1) (dih_t n h1).1.symm
  have HEQ : Hid (∀ (m : Nat) (A B : Option Addr) (E G : Nat) W', TabAt W' A (afT n m) → TabAt W' B (afT n m) → Calls Tryd.prog 13 #[.slice A n E, .slice B n G] W' fun e w' => e = .returned (.bool true) ∧ Below W'.heap.size W' w') := Lib.hid fun m A B E G W' ha hb => by
    have hq := equalT_any (afT n m) (afT n m) A B E G W' (by rw [afT_len]; omega) (fun l hl => by
      obtain ⟨i, hi⟩ := List.getElem?_of_mem hl
      have hil := (List.getElem?_eq_some_iff.1 hi).1
      rw [afT_len] at hil
      have h9 := afT_row n m i hil
      rw [List.getD_eq_getElem?_getD, hi] at h9
      have h9 : l = _ := h9
      rw [h9, List.length_map, List.length_range]; omega) ha hb
    rw [afT_len, decide_eq_true rfl] at hq
    refine hq.mono ?_
    rintro e w' ⟨rfl, k, rfl⟩
    exact ⟨rfl, (below_drewNN (Below.refl _ _) k)⟩
  have HVA : Hid (∀ (m : Nat) (A : Option Addr) (E : Nat) W', Qnd (afT n m) → TabAt W' A (afT n m) → Calls Tryd.prog 15 #[.agg #[.slice A n E]] W' fun e w' => e = .returned (.bool true) ∧ Below W'.heap.size W' w') := Lib.hid fun m A E W' hm ht => by
    have hq := qvalid_any (afT n m) A E W' (by rw [afT_len]; omega) (fun l hl => by
      obtain ⟨i, hi⟩ := List.getElem?_of_mem hl
      have hil := (List.getElem?_eq_some_iff.1 hi).1
      rw [afT_len] at hil
      have h9 := afT_row n m i hil
      rw [List.getD_eq_getElem?_getD, hi] at h9
      have h9 : l = _ := h9
      rw [h9, List.length_map, List.length_range]; omega) ht
    rw [okB_yes hm, afT_len] at hq
    exact hq
  have HqD := Lib.hid hqD
  have hn0 : (n : Int) ≠ 0 := by omega
  have hn00 : n ≠ 0 := by omega
  clear hqD
  clear hg
  go_enter Tryd.func3, Tryd.ntmps3
  go_wp2_with fail
  refine (awake_any w).mono ?_
  rintro e w1 ⟨rfl, hb⟩
  have H1 := Lib.hid ((HH.start w).call hb)
  clear hb
  go_wp2_with fail
  refine (HA.out w1).mono ?_
  rintro e w2 ⟨rfl, hb⟩
  have H2 := Lib.hid ((H1.out.call hb).alloc #[.slice none 0 0] 25 rfl rfl)
  clear hb H1 HA
  obtain ⟨v2, hv⟩ : ∃ x, x = w2.alloc (.cells #[.slice none 0 0] 25) := ⟨_, rfl⟩
  go_wp2_with fail
  rw [← hv]
  rw [← hv] at H2 
  generalize w2.heap.size = q1 at *
  clear hv
  refine (HD.out v2).mono ?_
  rintro e w3 ⟨A2, E2, rfl, hbt, hb⟩
  have H3 := Lib.hid ((H2.out.call hb).alloc #[.slice A2 n E2] 25 rfl rfl)
  have Ht2 := Lib.hid (hbt.at.later ((Below.refl w3.heap.size w3).alloc (Nat.le_refl _) (.cells #[.slice A2 n E2] 25)))
  clear hbt
  clear hb H2 HD
  obtain ⟨v3, hv⟩ : ∃ x, x = w3.alloc (.cells #[.slice A2 n E2] 25) := ⟨_, rfl⟩
  go_wp2_with fail
  rw [← hv]
  rw [← hv] at H3 Ht2
  generalize w3.heap.size = q2 at *
  clear hv
  have HKS : Hid (∀ W', Below v3.heap.size v3 W' → W'.cell? ⟨q2, 0, none⟩ = some (.slice A2 n E2)) := Lib.hid fun W' h => (H3.out.call h).cell (k := 1) (i := 0) rfl rfl
  have HTD : Hid (∀ W', Below v3.heap.size v3 W' → TabAt W' A2 (afT n (n - 1))) := Lib.hid fun W' h => Ht2.out.later h
  have Hr := Lib.hid ((Below.refl v3.heap.size v3).drew)
  go_region_held3 (fun W' => W'.cell? ⟨q2, 0, none⟩ = some (.slice A2 n E2))
    (first
      | with_reducible exact HKS.out _ Hr.out)
    (first
      | ((with_reducible refine (HRA.out _).mono ?_); rintro e w5 ⟨A5, E5, rfl, hbt, hb⟩; have Ht5 := Lib.hid hbt; replace Hr := Lib.hid (below_of Hr.out hb Hr.out.size); clear hbt hb)
      | ((with_reducible refine (HEQ.out (n - 1) _ _ _ _ _ (HTD.out _ Hr.out) Ht5.out).mono ?_); rintro e w6 ⟨rfl, hb⟩; replace Hr := Lib.hid (below_of Hr.out hb Hr.out.size); clear hb)
      | ((with_reducible refine (HVA.out (n - 1) _ _ _ HqD.out (HTD.out _ Hr.out)).mono ?_); rintro e w7 ⟨rfl, hb⟩; replace Hr := Lib.hid (below_of Hr.out hb Hr.out.size); clear hb))
  have H4 := Lib.hid (H3.out.call Hr.out)
  replace Ht2 := Lib.hid (Ht2.out.later Hr.out)
  clear Ht5 HKS HTD H3 Hr
  go_wp2_with fail
  refine (HCP.out _).mono ?_
  rintro e w8 ⟨rfl, hb⟩
  have H5 := Lib.hid (H4.out.call hb)
  clear hb H4
  have hc0 := H5.out.cell (k := 0) (i := 0) rfl rfl
  go_wp2_with fail
  go_ret
  exact ⟨rfl, H5.out.below⟩
set_option maxRecDepth 100000 in
set_option maxHeartbeats 4000000 in
theorem lfam_y (n : Nat) (t : Int) (w : World) (h1 : 1 ≤ n) (h30 : n ≤ 30) (hg : Nat.gcd (t % (n : Int)).toNat n = 1) : Calls Tryd.prog 3 #[.int .i64 (n : Int), .int .i64 t] w fun e w' => e = .returned (.bool true) ∧ Below w.heap.size w w' := by
  have HCP : Hid (∀ W', Calls Tryd.prog 16 #[.int .i64 (n : Int), .int .i64 t] W' fun e w' => e = .returned (.bool true) ∧ Below W'.heap.size W' w') := Lib.hid fun W' => by
    have h := cop_any n t W' h1 h30
    rw [decide_eq_true (by omega)] at h
    exact h
  obtain ⟨tt, htt⟩ : ∃ tt, tt = (t % (n : Int)).toNat := ⟨_, rfl⟩
  have hg' : Nat.gcd tt n = 1 := by rw [htt]; exact hg
  have httn : tt < n := by
    have h0 : 0 ≤ t % (n : Int) := Int.emod_nonneg _ (by omega)
    have hlt : t % (n : Int) < n := Int.emod_lt_of_pos _ (by omega)
    omega
  have HA : Hid (∀ W', Calls Tryd.prog 11 #[.int .i64 (n : Int), .int .i64 t] W' fun e w' => ∃ A E, e = .returned (.tuple #[.agg #[.slice A n E], .int .i64 0]) ∧ TabNew W'.heap.size w' A (afT n tt) ∧ Below W'.heap.size W' w') := Lib.hid fun W' => aff_yes n t W' h1 h30 tt htt hg'
  obtain ⟨t1, ht1⟩ : ∃ t1, t.tmod (n : Int) = t1 := ⟨_, rfl⟩
  have HA2 : Hid (∀ W', Calls Tryd.prog 11 #[.int .i64 (n : Int), .int .i64 t1] W' fun e w' => ∃ A E, e = .returned (.tuple #[.agg #[.slice A n E], .int .i64 0]) ∧ TabNew W'.heap.size w' A (afT n tt) ∧ Below W'.heap.size W' w') := Lib.hid fun W' => aff_yes n t1 W' h1 h30 tt (by rw [← ht1, t_red2, htt]) hg'
  have HRA2 : Hid (∀ W', Calls Tryd.prog 14 #[.int .i64 (n : Int), .int .i64 t] W' fun e w' => ∃ A E, e = .returned (.slice A n E) ∧ TabAt w' A (afT n tt) ∧ Below W'.heap.size W' w') := Lib.hid fun W' => raff_any n t W' h1 h30 tt htt
  have HqA : Hid (Qnd (afT n tt)) := Lib.hid (afT_qnd n tt h1 h30 httn hg')
  have d1 : decide ((n : Int) < 1) = false := decide_eq_false (by omega)
  have d2 : decide (30 < (n : Int)) = false := decide_eq_false (by omega)
  have d3 : decide (n < 1) = false := decide_eq_false (by omega)
  have d4 : decide (30 < n) = false := decide_eq_false (by omega)
  have hqD : Qnd (afT n (n - 1)) := afT_qnd n (n - 1) h1 h30 (by omega) (by rw [(dih_t n h1).2])
  have HD : Hid (∀ W', Calls Tryd.prog 12 #[.int .i64 (n : Int)] W' fun e w' => ∃ A E, e = .returned (.tuple #[.agg #[.slice A n E], .int .i64 0]) ∧ TabNew W'.heap.size w' A (afT n (n - 1)) ∧ Below W'.heap.size W' w') := Lib.hid fun W' => dih_yes n W' h1 h30
  have HRA : Hid (∀ W', Calls Tryd.prog 14 #[.int .i64 (n : Int), .int .i64 (-1)] W' fun e w' => ∃ A E, e = .returned (.slice A n E) ∧ TabAt w' A (afT n (n - 1)) ∧ Below W'.heap.size W' w') := Lib.hid fun W' => raff_any n (-1) W' h1 h30 (n - 1) (dih_t n h1).1.symm
  have HEQ : Hid (∀ (m : Nat) (A B : Option Addr) (E G : Nat) W', TabAt W' A (afT n m) → TabAt W' B (afT n m) → Calls Tryd.prog 13 #[.slice A n E, .slice B n G] W' fun e w' => e = .returned (.bool true) ∧ Below W'.heap.size W' w') := Lib.hid fun m A B E G W' ha hb => by
    have hq := equalT_any (afT n m) (afT n m) A B E G W' (by rw [afT_len]; omega) (fun l hl => by
      obtain ⟨i, hi⟩ := List.getElem?_of_mem hl
      have hil := (List.getElem?_eq_some_iff.1 hi).1
      rw [afT_len] at hil
      have h9 := afT_row n m i hil
      rw [List.getD_eq_getElem?_getD, hi] at h9
      have h9 : l = _ := h9
      rw [h9, List.length_map, List.length_range]; omega) ha hb
    rw [afT_len, decide_eq_true rfl] at hq
    refine hq.mono ?_
    rintro e w' ⟨rfl, k, rfl⟩
    exact ⟨rfl, (below_drewNN (Below.refl _ _) k)⟩
  have HVA : Hid (∀ (m : Nat) (A : Option Addr) (E : Nat) W', Qnd (afT n m) → TabAt W' A (afT n m) → Calls Tryd.prog 15 #[.agg #[.slice A n E]] W' fun e w' => e = .returned (.bool true) ∧ Below W'.heap.size W' w') := Lib.hid fun m A E W' hm ht => by
    have hq := qvalid_any (afT n m) A E W' (by rw [afT_len]; omega) (fun l hl => by
      obtain ⟨i, hi⟩ := List.getElem?_of_mem hl
      have hil := (List.getElem?_eq_some_iff.1 hi).1
      rw [afT_len] at hil
      have h9 := afT_row n m i hil
      rw [List.getD_eq_getElem?_getD, hi] at h9
      have h9 : l = _ := h9
      rw [h9, List.length_map, List.length_range]; omega) ht
    rw [okB_yes hm, afT_len] at hq
    exact hq
  have HqD := Lib.hid hqD
  have hn0 : (n : Int) ≠ 0 := by omega
  have hn00 : n ≠ 0 := by omega
  clear hqD
  clear hg hg' htt httn
  go_enter Tryd.func3, Tryd.ntmps3
  go_wp2_with fail
  refine (awake_any w).mono ?_
  rintro e w1 ⟨rfl, hb⟩
  have H1 := Lib.hid ((HH.start w).call hb)
  clear hb
  go_wp2_with fail
  refine (HA.out w1).mono ?_
  rintro e w2 ⟨A1, E1, rfl, hbt, hb⟩
  have H2 := Lib.hid ((H1.out.call hb).alloc #[.slice A1 n E1] 25 rfl rfl)
  have Ht1 := Lib.hid (hbt.at.later ((Below.refl w2.heap.size w2).alloc (Nat.le_refl _) (.cells #[.slice A1 n E1] 25)))
  clear hbt
  clear hb H1 
  obtain ⟨v2, hv⟩ : ∃ x, x = w2.alloc (.cells #[.slice A1 n E1] 25) := ⟨_, rfl⟩
  go_wp2_with fail
  rw [← hv]
  rw [← hv] at H2 Ht1
  generalize w2.heap.size = q1 at *
  clear hv
  refine (HD.out v2).mono ?_
  rintro e w3 ⟨A2, E2, rfl, hbt, hb⟩
  have H3 := Lib.hid ((H2.out.call hb).alloc #[.slice A2 n E2] 25 rfl rfl)
  replace Ht1 := Lib.hid ((Ht1.out.later hb).later ((Below.refl w3.heap.size w3).alloc (Nat.le_refl _) (.cells #[.slice A2 n E2] 25)))
  have Ht2 := Lib.hid (hbt.at.later ((Below.refl w3.heap.size w3).alloc (Nat.le_refl _) (.cells #[.slice A2 n E2] 25)))
  clear hbt
  clear hb H2 HD
  obtain ⟨v3, hv⟩ : ∃ x, x = w3.alloc (.cells #[.slice A2 n E2] 25) := ⟨_, rfl⟩
  go_wp2_with fail
  rw [← hv]
  rw [← hv] at H3 Ht1 Ht2
  generalize w3.heap.size = q2 at *
  clear hv
  have HKS : Hid (∀ W', Below v3.heap.size v3 W' → W'.cell? ⟨q2, 0, none⟩ = some (.slice A2 n E2)) := Lib.hid fun W' h => (H3.out.call h).cell (k := 1) (i := 0) rfl rfl
  have HTD : Hid (∀ W', Below v3.heap.size v3 W' → TabAt W' A2 (afT n (n - 1))) := Lib.hid fun W' h => Ht2.out.later h
  have Hr := Lib.hid ((Below.refl v3.heap.size v3).drew)
  go_region_held3 (fun W' => W'.cell? ⟨q2, 0, none⟩ = some (.slice A2 n E2))
    (first
      | with_reducible exact HKS.out _ Hr.out)
    (first
      | ((with_reducible refine (HRA.out _).mono ?_); rintro e w5 ⟨A5, E5, rfl, hbt, hb⟩; have Ht5 := Lib.hid hbt; replace Hr := Lib.hid (below_of Hr.out hb Hr.out.size); clear hbt hb)
      | ((with_reducible refine (HEQ.out (n - 1) _ _ _ _ _ (HTD.out _ Hr.out) Ht5.out).mono ?_); rintro e w6 ⟨rfl, hb⟩; replace Hr := Lib.hid (below_of Hr.out hb Hr.out.size); clear hb)
      | ((with_reducible refine (HVA.out (n - 1) _ _ _ HqD.out (HTD.out _ Hr.out)).mono ?_); rintro e w7 ⟨rfl, hb⟩; replace Hr := Lib.hid (below_of Hr.out hb Hr.out.size); clear hb))
  have H4 := Lib.hid (H3.out.call Hr.out)
  replace Ht1 := Lib.hid (Ht1.out.later Hr.out)
  clear Ht5 HKS HTD H3 Hr
  go_wp2_with fail
  refine (HCP.out _).mono ?_
  rintro e w8 ⟨rfl, hb⟩
  have H5 := Lib.hid (H4.out.call hb)
  replace Ht1 := Lib.hid (Ht1.out.later hb)
  clear hb H4 HCP
  go_wp2_with fail
  refine (HA2.out _).mono ?_
  rintro e w6 ⟨A9, E9, rfl, hbt, hb⟩
  have H6 := Lib.hid ((H5.out.call hb).alloc #[.slice A9 n E9] 25 rfl rfl)
  replace Ht1 := Lib.hid ((Ht1.out.later hb).later ((Below.refl w6.heap.size w6).alloc (Nat.le_refl _) (.cells #[.slice A9 n E9] 25)))
  have Ht9 := Lib.hid (hbt.at.later ((Below.refl w6.heap.size w6).alloc (Nat.le_refl _) (.cells #[.slice A9 n E9] 25)))
  clear hbt
  clear hb H5 HA2
  obtain ⟨v6, hv⟩ : ∃ x, x = w6.alloc (.cells #[.slice A9 n E9] 25) := ⟨_, rfl⟩
  go_wp2_with fail
  rw [← hv]
  rw [← hv] at H6 Ht1 Ht9
  generalize w6.heap.size = q3 at *
  clear hv
  have HKS : Hid (∀ W', Below v6.heap.size v6 W' → W'.cell? ⟨q1, 0, none⟩ = some (.slice A1 n E1) ∧ W'.cell? ⟨q3, 0, none⟩ = some (.slice A9 n E9)) := Lib.hid fun W' h => ⟨(H6.out.call h).cell (k := 0) (i := 0) rfl rfl, (H6.out.call h).cell (k := 2) (i := 0) rfl rfl⟩
  have HT1 : Hid (∀ W', Below v6.heap.size v6 W' → TabAt W' A1 (afT n tt)) := Lib.hid fun W' h => Ht1.out.later h
  have HT9 : Hid (∀ W', Below v6.heap.size v6 W' → TabAt W' A9 (afT n tt)) := Lib.hid fun W' h => Ht9.out.later h
  have Hr := Lib.hid ((Below.refl v6.heap.size v6).drew)
  have HB6 := Lib.hid H6.out.below
  go_region_held3 (fun W' => W'.cell? ⟨q1, 0, none⟩ = some (.slice A1 n E1) ∧ W'.cell? ⟨q3, 0, none⟩ = some (.slice A9 n E9))
    (first
      | with_reducible exact HKS.out _ Hr.out)
    (first
      | ((with_reducible refine (HRA2.out _).mono ?_); rintro e w11 ⟨A5, E5, rfl, hbt, hb⟩; have Ht5 := Lib.hid hbt; replace Hr := Lib.hid (below_of Hr.out hb Hr.out.size); clear hbt hb)
      | ((with_reducible refine (HEQ.out tt _ _ _ _ _ (HT1.out _ Hr.out) Ht5.out).mono ?_); rintro e w12 ⟨rfl, hb⟩; replace Hr := Lib.hid (below_of Hr.out hb Hr.out.size); clear hb)
      | ((with_reducible refine (HVA.out tt _ _ _ HqA.out (HT1.out _ Hr.out)).mono ?_); rintro e w13 ⟨rfl, hb⟩; replace Hr := Lib.hid (below_of Hr.out hb Hr.out.size); clear hb)
      | ((with_reducible refine (HEQ.out tt _ _ _ _ _ (HT9.out _ Hr.out) (HT1.out _ Hr.out)).mono ?_); rintro e w14 ⟨rfl, hb⟩; replace Hr := Lib.hid (below_of Hr.out hb Hr.out.size); clear hb))
  all_goals
    go_wp2_with fail
    go_ret
    exact ⟨rfl, below_of HB6.out Hr.out HB6.out.size⟩
theorem lfam_any (n t : Int) (w : World) (_ : (Lit.int .i64 n).wf = true) (_ : (Lit.int .i64 t).wf = true) : Calls Tryd.prog 3 #[.int .i64 n, .int .i64 t] w fun e w' => e = .returned (.bool true) ∧ Below w.heap.size w w' := by
  by_cases h : n < 1 ∨ 30 < n
  · exact lfam_r n t w h
  · obtain ⟨m, rfl⟩ : ∃ m : Nat, n = (m : Int) := ⟨n.toNat, by omega⟩
    by_cases hg : 1 < Nat.gcd (t % (m : Int)).toNat m
    · exact lfam_x m t w (by omega) (by omega) hg
    · have hp : 0 < Nat.gcd (t % (m : Int)).toNat m := Nat.gcd_pos_of_pos_right _ (by omega)
      exact lfam_y m t w (by omega) (by omega) (by omega)
end Go.Proofs.YtlgiponfcmeiiaaDoor
