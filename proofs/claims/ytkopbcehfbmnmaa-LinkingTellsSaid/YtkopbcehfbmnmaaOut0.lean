/- Plain words on half-edges. -/
import Derived.Test.YtkopbcehfbmnmaaBase
namespace Go.Proofs.Ytkopbcehfbmnmaa
open Go Go.RowKit
/-- Is the half-edge h an outgoing one? -/
def outB (S : List Int) (h : Nat) : Bool := (h % 4 == 1 && nth S (h / 4) == 1) || h % 4 == 2 || (h % 4 == 3 && nth S (h / 4) == -1)
theorem outB_0 (S : List Int) (h : Nat) (e : h % 4 = 0) : outB S h = false := by simp [outB, e]
theorem outB_1 (S : List Int) (h : Nat) (e : h % 4 = 1) : outB S h = (nth S (h / 4) == 1) := by simp [outB, e]
theorem outB_2 (S : List Int) (h : Nat) (e : h % 4 = 2) : outB S h = true := by simp [outB, e]
theorem outB_3 (S : List Int) (h : Nat) (e : h % 4 = 3) : outB S h = (nth S (h / 4) == -1) := by simp [outB, e]
/-- The half-edge of the same crossing, b slots further. -/
def tn (h : Nat) (b : Int) : Nat := 4 * (h / 4) + (((h % 4 : Nat) : Int) + b + 8).toNat % 4
theorem tn_div (h : Nat) (b : Int) : tn h b / 4 = h / 4 := by unfold tn; omega
theorem tn_mod (h : Nat) (b : Int) : tn h b % 4 = (((h % 4 : Nat) : Int) + b + 8).toNat % 4 := by unfold tn; omega
theorem tn_lt (h n : Nat) (b : Int) (hh : h < 4 * n) : tn h b < 4 * n := by unfold tn; omega
theorem tmod_four (b : Int) (b0 : -8 ≤ b) (b1 : b ≤ 8) : -3 ≤ b.tmod 4 ∧ b.tmod 4 ≤ 3 ∧ (b - b.tmod 4) % 4 = 0 := by
  by_cases h : 0 ≤ b
  · rw [Int.tmod_eq_emod_of_nonneg h]; omega
  · have : b.tmod 4 = -((-b).tmod 4) := by rw [Int.neg_tmod]; omega
    rw [this, Int.tmod_eq_emod_of_nonneg (by omega)]; omega
theorem turn_num (h : Nat) (b t : Int) (b0 : -8 ≤ b) (_t0 : -3 ≤ t) (_t1 : t ≤ 3) (hd : (b - t) % 4 = 0) : (h : Int) - (h : Int) % 4 + ((h : Int) + t) % 4 = ((tn h b : Nat) : Int) := by
  unfold tn; omega
theorem turn_num' (h : Nat) (b t : Int) (b0 : -8 ≤ b) (t0 : -3 ≤ t) (t1 : t ≤ 3) (hd : (b - t) % 4 = 0) : (h : Int) - (h : Int) % 4 + ((((h : Int) % 4 + t).tmod 4) + 4) % 4 = ((tn h b : Nat) : Int) := by
  have : (((h : Int) % 4 + t).tmod 4 + 4) % 4 = ((h : Int) + t) % 4 := by
    have h1 := tmod_four ((h : Int) % 4 + t) (by omega) (by omega)
    omega
  rw [this]; exact turn_num h b t b0 t0 t1 hd
end Go.Proofs.Ytkopbcehfbmnmaa
