/- Plain: finite quandles as tables; the affine ones. No condition; nothing of the program stands here. -/
import Derived.Test.YtlgiponfcmeiiaaDoorHeapB
namespace Go.Proofs.YtlgiponfcmeiiaaDoor
open Go Go.RowKit
/-- The entry at (x, y) of a table. -/
def tb (T : List (List Int)) (x y : Nat) : Int := nth (T.getD x []) y
def tbn (T : List (List Int)) (x y : Nat) : Nat := (tb T x y).toNat
/-- A square table of n rows, entries below n. -/
def Shp (T : List (List Int)) (n : Nat) : Prop := T.length = n ∧ ∀ x, x < n → (T.getD x []).length = n ∧ ∀ y, y < n → 0 ≤ tb T x y ∧ tb T x y < n
def Idm (T : List (List Int)) (n : Nat) : Prop := ∀ x, x < n → tb T x x = x
def Ivt (T : List (List Int)) (n : Nat) : Prop := ∀ y, y < n → ∀ x z, x < n → z < n → tb T x y = tb T z y → x = z
def Dst (T : List (List Int)) (n : Nat) : Prop := ∀ x, x < n → ∀ y, y < n → ∀ z, z < n → tb T (tbn T x y) z = tb T (tbn T x z) (tbn T y z)
def Qnd (T : List (List Int)) : Prop := (1 ≤ T.length ∧ T.length ≤ 30) ∧ Shp T T.length ∧ Idm T T.length ∧ Ivt T T.length ∧ Dst T T.length
/-- The affine table. -/
def afV (n t x y : Nat) : Nat := (t * x + (n + 1 - t) * y) % n
def afT (n t : Nat) : List (List Int) := (List.range n).map fun x => (List.range n).map fun y => ((afV n t x y : Nat) : Int)
theorem afT_len (n t : Nat) : (afT n t).length = n := by simp [afT]
theorem afT_row (n t x : Nat) (hx : x < n) : (afT n t).getD x [] = (List.range n).map fun y => ((afV n t x y : Nat) : Int) := by simp [afT, hx]
theorem afT_tb (n t x y : Nat) (hx : x < n) (hy : y < n) : tb (afT n t) x y = (afV n t x y : Nat) := by unfold tb; rw [afT_row n t x hx]; simp [nth, hy]
theorem afV_lt (n t x y : Nat) (h : 0 < n) : afV n t x y < n := Nat.mod_lt _ h
theorem afV_int (n t x y : Nat) (ht : t < n) : ((afV n t x y : Nat) : Int) = ((t : Int) * x + ((n : Int) + 1 - t) * y) % n := by
  unfold afV
  have h : n + 1 - t + t = n + 1 := by omega
  have h1 : ((n + 1 - t : Nat) : Int) = (n : Int) + 1 - t := by omega
  push_cast
  rw [h1]
theorem afV_idm (n t x : Nat) (ht : t < n) (hx : x < n) : afV n t x x = x := by
  unfold afV
  rw [← Nat.add_mul, show t + (n + 1 - t) = n + 1 from by omega, Nat.add_mul, Nat.one_mul, Nat.mul_add_mod, Nat.mod_eq_of_lt hx]
theorem afV_ivt (n t x z y : Nat) (ht : t < n) (hg : Nat.gcd t n = 1) (hx : x < n) (hz : z < n) (h : afV n t x y = afV n t z y) : x = z := by
  have h1 : ((afV n t x y : Nat) : Int) = ((afV n t z y : Nat) : Int) := by rw [h]
  rw [afV_int n t x y ht, afV_int n t z y ht, Int.emod_eq_emod_iff_emod_sub_eq_zero] at h1
  have h2 : (n : Int) ∣ (t : Int) * ((x : Int) - z) := by
    have := Int.dvd_of_emod_eq_zero h1
    rwa [show (t : Int) * x + ((n : Int) + 1 - t) * y - (t * z + ((n : Int) + 1 - t) * y) = t * ((x : Int) - z) from by grind] at this
  have h3 : n ∣ t * ((x : Int) - z).natAbs := by
    have := Int.natAbs_dvd_natAbs.2 h2
    rwa [Int.natAbs_mul, Int.natAbs_natCast, Int.natAbs_natCast] at this
  have h4 : n ∣ ((x : Int) - z).natAbs := (Nat.Coprime.symm (show Nat.Coprime t n from hg)).dvd_of_dvd_mul_left h3
  rcases Nat.eq_zero_or_pos ((x : Int) - z).natAbs with e | e
  · omega
  · have := Nat.le_of_dvd e h4
    omega
theorem afV_dst (n t x y z : Nat) (ht : t < n) : afV n t (afV n t x y) z = afV n t (afV n t x z) (afV n t y z) := by
  have key : ((afV n t (afV n t x y) z : Nat) : Int) = ((afV n t (afV n t x z) (afV n t y z) : Nat) : Int) := by
    rw [afV_int n t _ z ht, afV_int n t _ (afV n t y z) ht]
    rw [afV_int n t x y ht, afV_int n t x z ht, afV_int n t y z ht]
    have e1 := Int.emod_def ((t : Int) * x + ((n : Int) + 1 - t) * y) n
    have e2 := Int.emod_def ((t : Int) * x + ((n : Int) + 1 - t) * z) n
    have e3 := Int.emod_def ((t : Int) * y + ((n : Int) + 1 - t) * z) n
    rw [e1, e2, e3, Int.emod_eq_emod_iff_emod_sub_eq_zero]
    generalize ((t : Int) * x + ((n : Int) + 1 - t) * y) / n = q1
    generalize ((t : Int) * x + ((n : Int) + 1 - t) * z) / n = q2
    generalize ((t : Int) * y + ((n : Int) + 1 - t) * z) / n = q3
    apply Int.emod_eq_zero_of_dvd
    refine ⟨-(((n : Int) + 1 - t) * z) - t * q1 + t * q2 + ((n : Int) + 1 - t) * q3, ?_⟩
    grind
  omega
theorem afT_qnd (n t : Nat) (h1 : 1 ≤ n) (h2 : n ≤ 30) (ht : t < n) (hg : Nat.gcd t n = 1) : Qnd (afT n t) := by
  have hl := afT_len n t
  have hv : ∀ x y, afV n t x y < n := fun x y => afV_lt n t x y h1
  have htn : ∀ x y, x < n → y < n → tbn (afT n t) x y = afV n t x y := fun x y hx hy => by unfold tbn; rw [afT_tb n t x y hx hy]; rfl
  unfold Qnd
  rw [hl]
  refine ⟨⟨h1, h2⟩, ⟨hl, fun x hx => ⟨by rw [afT_row n t x hx]; simp, fun y hy => ?_⟩⟩, fun x hx => ?_, fun y hy x z hx hz e => ?_, fun x hx y hy z hz => ?_⟩
  · rw [afT_tb n t x y hx hy]; have := hv x y; omega
  · rw [afT_tb n t x x hx hx, afV_idm n t x ht hx]
  · rw [afT_tb n t x y hx hy, afT_tb n t z y hz hy] at e
    exact afV_ivt n t x z y ht hg hx hz (by omega)
  · rw [htn x y hx hy, htn x z hx hz, htn y z hy hz, afT_tb n t _ z (hv x y) hz, afT_tb n t _ _ (hv x z) (hv y z), afV_dst n t x y z ht]
theorem t_red (t : Int) (n : Nat) (hn : 1 ≤ n) : (t.tmod n + n).tmod n = t % n := by
  have h1 := Int.tmod_add_mul_tdiv t n
  have h2 : t.tmod n + n = t + n * (1 - t.tdiv n) := by grind
  have h3 : -(n : Int) < t.tmod n := by
    have := Int.natAbs_tmod t n
    have h4 : t.natAbs % n < n := Nat.mod_lt _ (by omega)
    have : (t.tmod n).natAbs = t.natAbs % n := by simp
    omega
  rw [Int.tmod_eq_emod_of_nonneg (by omega), h2, Int.add_mul_emod_self_left]
theorem t_red2 (t : Int) (n : Nat) : (t.tmod n) % (n : Int) = t % n := by
  have h1 := Int.tmod_add_mul_tdiv t n
  have h2 : t.tmod n = t + n * (- t.tdiv n) := by grind
  rw [h2, Int.add_mul_emod_self_left]
theorem cop_iff (n : Nat) (t : Int) (hn : 1 ≤ n) : (∃ k : Nat, 2 ≤ k ∧ k ≤ n ∧ n % k = 0 ∧ t.tmod k = 0) ↔ 1 < Nat.gcd (t % n).toNat n := by
  have h0 : 0 ≤ t % (n : Int) := Int.emod_nonneg _ (by omega)
  have he : t % (n : Int) = t - n * (t / n) := Int.emod_def _ _
  have hpos : 0 < Nat.gcd (t % n).toNat n := Nat.gcd_pos_of_pos_right _ (by omega)
  constructor
  · rintro ⟨k, h2, hk, h3, h4⟩
    have d1 : k ∣ n := Nat.dvd_of_mod_eq_zero h3
    have d2 : (k : Int) ∣ t := Int.dvd_of_tmod_eq_zero h4
    have d3 : (k : Int) ∣ t % n := by
      rw [he]
      exact Int.dvd_sub d2 (Int.dvd_mul_of_dvd_left (Int.natCast_dvd_natCast.2 d1))
    have d4 : k ∣ (t % (n : Int)).toNat := by
      rw [← Int.toNat_of_nonneg h0] at d3
      exact Int.natCast_dvd_natCast.1 d3
    have := Nat.le_of_dvd hpos (Nat.dvd_gcd d4 d1)
    omega
  · intro h
    have d1 : Nat.gcd (t % n).toNat n ∣ n := Nat.gcd_dvd_right _ _
    have d2 : Nat.gcd (t % n).toNat n ∣ (t % (n : Int)).toNat := Nat.gcd_dvd_left _ _
    refine ⟨_, h, Nat.le_of_dvd (by omega) d1, Nat.mod_eq_zero_of_dvd d1, Int.tmod_eq_zero_of_dvd ?_⟩
    have d3 : ((Nat.gcd (t % n).toNat n : Nat) : Int) ∣ t % n := by
      rw [← Int.toNat_of_nonneg h0]
      exact Int.natCast_dvd_natCast.2 d2
    have d4 := Int.dvd_add d3 (Int.dvd_trans (Int.natCast_dvd_natCast.2 d1) (Int.dvd_mul_right (n : Int) (t / n)))
    rwa [Int.emod_add_mul_ediv] at d4

end Go.Proofs.YtlgiponfcmeiiaaDoor
