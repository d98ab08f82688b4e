/- The walk of quandle.Affine. -/
import Derived.Test.YtlgiponfcmeiiaaDoorGcdW
namespace Go.Proofs.YtlgiponfcmeiiaaDoor
open Go Go.RowKit
theorem wrap_mid {x : Int} (h0 : -1000000 ≤ x) (h1 : x ≤ 1000000) : wrap64 x = x := by
  unfold wrap64; omega
set_option maxRecDepth 100000 in
set_option maxHeartbeats 4000000 in
theorem aff_range (n t : Int) (w : World) (h : n < 1 ∨ 30 < n) :
    Calls Tryd.prog 11 #[.int .i64 n, .int .i64 t] w fun e w' => e = .returned (.tuple #[.agg #[.slice none 0 0], .int .i64 2]) ∧ Below w.heap.size w w' := by
  obtain ⟨W, hW⟩ : ∃ W, W = w.alloc (.cells #[.slice none 0 0] 25) := ⟨_, rfl⟩
  have h0 : HH w W [(w.heap.size, rowO 25 [.slice none 0 0])] [] := by rw [hW]; exact (HH.start w).alloc #[.slice none 0 0] 25 rfl rfl
  have H0 := Lib.hid h0
  clear h0
  have hc0 := H0.out.cell (k := 0) (i := 0) rfl rfl
  have hf0 := H0.out.frozen (k := 0) rfl 0
  have H9 := H0.out.set (k := 0) rfl 0 (.slice none 0 0)
  have hF0 := H9.cell (k := 0) (i := 0) rfl rfl
  have Hfin := Lib.hid H9.below
  clear H9
  have Hal := Lib.hid H0.out.below
  rw [hW] at hc0 hf0 Hal
  clear hF0 Hfin
  by_cases h1 : n < 1
  · have d1 : decide (n < 1) = true := decide_eq_true h1
    clear h h1 H0 hW
    go_enter Tryd.func11, Tryd.ntmps11
    go_wp2_with fail
    refine bodyPost_ret (v := .tuple #[.agg #[.slice none 0 0], .int .i64 2]) (by simp [results, Tryd.results11, go_sem]) rfl ?_
    exact ⟨rfl, Hal.out⟩
  · have d1 : decide (n < 1) = false := decide_eq_false h1
    have d2 : decide (30 < n) = true := decide_eq_true (by omega)
    clear h h1 H0 hW
    go_enter Tryd.func11, Tryd.ntmps11
    go_wp2_with fail
    refine bodyPost_ret (v := .tuple #[.agg #[.slice none 0 0], .int .i64 2]) (by simp [results, Tryd.results11, go_sem]) rfl ?_
    exact ⟨rfl, Hal.out⟩
/-- The factor, reduced. -/
theorem t_parts (t : Int) (n : Nat) (h1 : 1 ≤ n) (h30 : n ≤ 30) : ∃ (t1 : Int) (t2 : Nat), t.tmod (n : Int) = t1 ∧ wrap64 (t1 + (n : Int)) = (t2 : Int) ∧ ((t2 : Int)).tmod (n : Int) = (((t % (n : Int)).toNat : Nat) : Int) ∧ (t2 : Int) % (n : Int) = (((t % (n : Int)).toNat : Nat) : Int) ∧ (t % (n : Int)).toNat < n := by
  have hb : -(n : Int) < t.tmod n ∧ t.tmod n < n := by
    have h4 : t.natAbs % n < n := Nat.mod_lt _ (by omega)
    have : (t.tmod n).natAbs = t.natAbs % n := by simp
    omega
  have h0 : 0 ≤ t % (n : Int) := Int.emod_nonneg _ (by omega)
  have hlt : t % (n : Int) < n := Int.emod_lt_of_pos _ (by omega)
  have hr := t_red t n h1
  refine ⟨t.tmod n, (t.tmod n + n).toNat, rfl, ?_, ?_, ?_, by omega⟩
  · rw [wrap_mid (by omega) (by omega)]; omega
  · rw [show (((t.tmod n + n).toNat : Nat) : Int) = t.tmod n + n by omega, hr]; omega
  · rw [show (((t.tmod n + n).toNat : Nat) : Int) = t.tmod n + n by omega, ← Int.tmod_eq_emod_of_nonneg (by omega), hr]; omega
set_option maxRecDepth 100000 in
set_option maxHeartbeats 4000000 in
theorem aff_exact (n : Nat) (t : Int) (w : World) (h1 : 1 ≤ n) (h30 : n ≤ 30) (hg : 1 < Nat.gcd (t % (n : Int)).toNat n) :
    Calls Tryd.prog 11 #[.int .i64 (n : Int), .int .i64 t] w fun e w' => e = .returned (.tuple #[.agg #[.slice none 0 0], .int .i64 10]) ∧ Below w.heap.size w w' := by
  obtain ⟨W, hW⟩ : ∃ W, W = w.alloc (.cells #[.slice none 0 0] 25) := ⟨_, rfl⟩
  have h0 : HH w W [(w.heap.size, rowO 25 [.slice none 0 0])] [] := by rw [hW]; exact (HH.start w).alloc #[.slice none 0 0] 25 rfl rfl
  have H0 := Lib.hid h0
  clear h0
  have d1 : decide ((n : Int) < 1) = false := decide_eq_false (by omega)
  have d2 : decide (30 < (n : Int)) = false := decide_eq_false (by omega)
  have d3 : decide (n < 1) = false := decide_eq_false (by omega)
  have d4 : decide (30 < n) = false := decide_eq_false (by omega)
  obtain ⟨t1, t2, e1, e2, e3, e4, e5⟩ := t_parts t n h1 h30
  generalize (t % (n : Int)).toNat = tt at *
  have HC : Hid (∀ W', Calls Tryd.prog 24 #[.int .i64 (tt : Int), .int .i64 (n : Int)] W' fun e w' => e = .returned (.int .i64 (Nat.gcd tt n : Nat)) ∧ Below W'.heap.size W' w') := Lib.hid fun W' => gcd_any tt n W' (by omega) (by omega)
  generalize Nat.gcd tt n = G at *
  have d5 : decide (1 < (G : Int)) = true := decide_eq_true (by omega)
  have d6 : decide (1 < G) = true := decide_eq_true hg
  have hn0 : (n : Int) ≠ 0 := by omega
  go_enter Tryd.func11, Tryd.ntmps11
  go_wp2_with fail
  rw [← hW]
  clear hW
  refine (HC.out W).mono ?_
  rintro e w1 ⟨rfl, hb⟩
  have H1 := Lib.hid (H0.out.call hb)
  clear hb H0
  have hc0 := H1.out.cell (k := 0) (i := 0) rfl rfl
  have hf0 := H1.out.frozen (k := 0) rfl 0
  have H9 := H1.out.set (k := 0) rfl 0 (.slice none 0 0)
  have hF0 := H9.cell (k := 0) (i := 0) rfl rfl
  have Hfin := Lib.hid H9.below
  clear H9
  go_wp2_with fail
  refine bodyPost_ret (v := .tuple #[.agg #[.slice none 0 0], .int .i64 10]) (by simp [results, Tryd.results11, go_sem, hF0]) rfl ?_
  exact ⟨rfl, Hfin.out⟩
end Go.Proofs.YtlgiponfcmeiiaaDoor
