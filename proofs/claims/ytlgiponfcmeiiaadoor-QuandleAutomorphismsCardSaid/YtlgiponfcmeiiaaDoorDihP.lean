/- The dihedral quandles: each element acts as an involution; the number of the orbits. -/
import Derived.Test.YtlgiponfcmeiiaaDoorOrbP
namespace Go.Proofs.YtlgiponfcmeiiaaDoor
open Go Go.RowKit
theorem dih_tbn {n x y : Nat} (hx : x < n) (hy : y < n) : tbn (afT n (n - 1)) x y = afV n (n - 1) x y := by
  unfold tbn; rw [afT_tb n (n - 1) x y hx hy]; rfl
theorem dih_int (n x y : Nat) (h : 1 ≤ n) : ((afV n (n - 1) x y : Nat) : Int) = (2 * (y : Int) - x) % n := by
  rw [afV_int n (n - 1) x y (by omega), show ((n - 1 : Nat) : Int) = (n : Int) - 1 by omega]
  rw [Int.emod_eq_emod_iff_emod_sub_eq_zero]
  apply Int.emod_eq_zero_of_dvd
  exact ⟨(x : Int), by grind⟩
theorem dih_inv (n x y : Nat) (h : 1 ≤ n) (hx : x < n) : afV n (n - 1) (afV n (n - 1) x y) y = x := by
  have key : ((afV n (n - 1) (afV n (n - 1) x y) y : Nat) : Int) = (x : Int) % n := by
    rw [dih_int n _ y h, dih_int n x y h]
    have e1 := Int.emod_def (2 * (y : Int) - x) n
    rw [e1, Int.emod_eq_emod_iff_emod_sub_eq_zero]
    generalize (2 * (y : Int) - x) / n = q
    apply Int.emod_eq_zero_of_dvd
    exact ⟨q, by grind⟩
  rw [Int.emod_eq_of_lt (by omega) (by omega)] at key
  omega
theorem dih_up (n x : Nat) (h2 : 2 ≤ x) (hx : x < n) : tbn (afT n (n - 1)) (x - 2) (x - 1) = x := by
  rw [dih_tbn (by omega) (by omega)]
  have h := dih_int n (x - 2) (x - 1) (by omega)
  rw [show (2 * ((x - 1 : Nat) : Int) - ((x - 2 : Nat) : Int)) = (x : Int) by omega, Int.emod_eq_of_lt (by omega) (by omega)] at h
  omega
theorem dih_odd (n : Nat) (h : n % 2 = 1) (h1 : 1 < n) : tbn (afT n (n - 1)) 0 ((n + 1) / 2) = 1 := by
  rw [dih_tbn (by omega) (by omega)]
  have g := dih_int n 0 ((n + 1) / 2) (by omega)
  rw [show (2 * (((n + 1) / 2 : Nat) : Int) - ((0 : Nat) : Int)) = 1 + (n : Int) by omega, Int.add_emod_right, Int.emod_eq_of_lt (by omega) (by omega)] at g
  omega
theorem dih_par (n x y : Nat) (h : n % 2 = 0) (hx : x < n) (hy : y < n) : tbn (afT n (n - 1)) x y % 2 = x % 2 := by
  rw [dih_tbn hx hy]
  unfold afV
  rw [Nat.mod_mod_of_dvd _ (by omega)]
  obtain ⟨m, rfl⟩ : ∃ m, n = 2 * m + 2 := ⟨n / 2 - 1, by omega⟩
  rw [show 2 * m + 2 - 1 = 2 * m + 1 by omega, show 2 * m + 2 + 1 - (2 * m + 1) = 2 by omega, Nat.add_mul, Nat.mul_assoc]
  generalize m * x = p
  omega
theorem dih_rch {n x v : Nat} (h : n % 2 = 0) (hr : Rch (tbn (afT n (n - 1))) n x v) (hx : x < n) : v % 2 = x % 2 := by
  induction hr with
  | refl => rfl
  | @step x z y hz _ ih =>
    have hlt : tbn (afT n (n - 1)) x z < n := by rw [dih_tbn hx hz]; exact afV_lt _ _ _ _ (by omega)
    rw [ih hlt, dih_par n x z h hx hz]
theorem dih_far {n k : Nat} (h2 : 2 ≤ k) (hk : k < n) : ¬ Ldr (tbn (afT n (n - 1))) n k := fun h => by
  have hr := Rch.one (f := tbn (afT n (n - 1))) (n := n) (x := k - 2) (z := k - 1) (by omega)
  rw [dih_up n k h2 hk] at hr
  exact h (k - 2) (by omega) hr
theorem dih_orbs (n : Nat) (h1 : 1 ≤ n) : (orbT (tbn (afT n (n - 1))) n).length = if n % 2 = 0 then 2 else 1 := by
  have l0 : Ldr (tbn (afT n (n - 1))) n 0 := fun y hy => absurd hy (Nat.not_lt_zero y)
  have o1 : (orbK (tbn (afT n (n - 1))) n 1).length = 1 := by rw [orbK_yes l0]; rfl
  unfold orbT
  rcases Nat.mod_two_eq_zero_or_one n with h | h
  · rw [if_pos h]
    have l1 : Ldr (tbn (afT n (n - 1))) n 1 := fun y hy hr => by
      obtain rfl : y = 0 := by omega
      have := dih_rch h hr (by omega)
      omega
    have o2 : (orbK (tbn (afT n (n - 1))) n 2).length = 2 := by rw [orbK_yes l1, List.length_append, o1]; rfl
    have all : ∀ k, 2 ≤ k → k ≤ n → (orbK (tbn (afT n (n - 1))) n k).length = 2 := fun k => by
      induction k with
      | zero => intro h; omega
      | succ k ih =>
        intro hk hkn
        by_cases e : k = 1
        · subst e; exact o2
        · rw [orbK_no (dih_far (by omega) (by omega))]; exact ih (by omega) (by omega)
    exact all n (by omega) (Nat.le_refl _)
  · rw [if_neg (by omega)]
    have all : ∀ k, 1 ≤ k → k ≤ n → (orbK (tbn (afT n (n - 1))) n k).length = 1 := fun k => by
      induction k with
      | zero => intro h; omega
      | succ k ih =>
        intro hk hkn
        by_cases e : k = 0
        · subst e; exact o1
        · rw [orbK_no ?_]
          · exact ih (by omega) (by omega)
          · by_cases e1 : k = 1
            · subst e1
              intro hl
              have hr := Rch.one (f := tbn (afT n (n - 1))) (n := n) (x := 0) (z := (n + 1) / 2) (by omega)
              rw [dih_odd n h (by omega)] at hr
              exact hl 0 (by omega) hr
            · exact dih_far (by omega) (by omega)
    exact all n h1 (Nat.le_refl _)
end Go.Proofs.YtlgiponfcmeiiaaDoor
