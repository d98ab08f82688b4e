/- Plain law: a one-to-one map of the numbers below N into themselves: every number lies on a cycle. -/
import Derived.Test.YtkopbcehfbmnmaaCycles0
namespace Go.Proofs.Ytkopbcehfbmnmaa
open Go Go.RowKit
theorem pigeon : ∀ (N : Nat) (g : Nat → Nat), (∀ i, i ≤ N → g i < N) → ∃ i j, i < j ∧ j ≤ N ∧ g i = g j := by
  intro N
  induction N with
  | zero => intro g h; exact absurd (h 0 (Nat.le_refl _)) (by omega)
  | succ N ih =>
    intro g h
    by_cases hv : ∃ i, i ≤ N ∧ g i = g (N + 1)
    · obtain ⟨i, hi, he⟩ := hv
      exact ⟨i, N + 1, by omega, Nat.le_refl _, he⟩
    · have hv' : ∀ i, i ≤ N → g i ≠ g (N + 1) := fun i hi he => hv ⟨i, hi, he⟩
      have hlast := h (N + 1) (Nat.le_refl _)
      obtain ⟨i, j, hij, hj, he⟩ := ih (fun i => if g i = N then g (N + 1) else g i) (by
        intro i hi
        have h1 := h i (by omega)
        have h2 := hv' i hi
        split <;> omega)
      refine ⟨i, j, hij, by omega, ?_⟩
      have h1 := hv' i (by omega)
      have h2 := hv' j (by omega)
      split at he <;> split at he <;> omega
/-- One-to-one on the numbers below N, which it does not leave. -/
structure Inj (f : Nat → Nat) (N : Nat) : Prop where
  lt : ∀ x, x < N → f x < N
  inj : ∀ x y, x < N → y < N → f x = f y → x = y
theorem iter_cancel {f : Nat → Nat} {N : Nat} (h : Inj f N) (k x y : Nat) (hx : x < N) (hy : y < N) (he : iter f k x = iter f k y) : x = y := by
  induction k with
  | zero => exact he
  | succ k ih => exact ih (h.inj _ _ (iter_lt f N h.lt k x hx) (iter_lt f N h.lt k y hy) he)
theorem exists_per {f : Nat → Nat} {N : Nat} (h : Inj f N) (x : Nat) (hx : x < N) : ∃ p, 0 < p ∧ p ≤ N ∧ iter f p x = x := by
  obtain ⟨i, j, hij, hj, he⟩ := pigeon N (fun k => iter f k x) (fun i _ => iter_lt f N h.lt i x hx)
  refine ⟨j - i, by omega, by omega, ?_⟩
  have : iter f j x = iter f i (iter f (j - i) x) := by rw [← iter_add]; congr 1; omega
  rw [this] at he
  exact (iter_cancel h i _ _ hx (iter_lt f N h.lt _ x hx) he).symm
/-- The length of the cycle of x, by looking. -/
def perOf (f : Nat → Nat) (N x : Nat) : Nat := ((List.range N).find? fun j => iter f (j + 1) x == x).getD 0 + 1
theorem perOf_le (f : Nat → Nat) (N x : Nat) (hN : 0 < N) : perOf f N x ≤ N := by
  unfold perOf
  cases hh : (List.range N).find? fun j => iter f (j + 1) x == x with
  | none => simp; omega
  | some j =>
    have := List.mem_of_find?_eq_some hh
    simp at this ⊢
    omega
theorem find_first {p : Nat → Bool} : ∀ (N j : Nat), (List.range N).find? p = some j → p j = true ∧ j < N ∧ ∀ i, i < j → p i = false := by
  intro N j h
  have h1 := List.find?_some h
  have h2 := List.mem_of_find?_eq_some h
  refine ⟨h1, by simpa using h2, ?_⟩
  rw [List.find?_range_eq_some] at h
  intro i hi
  have := h.2.2 i hi
  simpa using this
theorem perOf_spec {f : Nat → Nat} {N : Nat} (h : Inj f N) (x : Nat) (hx : x < N) : IsPer f x (perOf f N x) := by
  obtain ⟨p, hp, hpN, he⟩ := exists_per h x hx
  unfold perOf
  cases hh : (List.range N).find? fun j => iter f (j + 1) x == x with
  | none =>
    have := (List.find?_eq_none.1 hh) (p - 1) (by simp; omega)
    rw [show p - 1 + 1 = p from by omega] at this
    simp [he] at this
  | some j =>
    obtain ⟨h1, h2, h3⟩ := find_first N j hh
    simp only [Option.getD_some]
    refine ⟨by omega, by simpa using h1, fun i hi hij => ?_⟩
    have := h3 (i - 1) (by omega)
    rw [show i - 1 + 1 = i from by omega] at this
    simpa using this
/-- The iterates repeat with the cycle's length. -/
theorem iter_mul {f : Nat → Nat} {x p : Nat} (h : iter f p x = x) (q : Nat) : iter f (q * p) x = x := by
  induction q with
  | zero => simp [iter]
  | succ q ih => rw [Nat.succ_mul, iter_add, h, ih]
theorem iter_mod {f : Nat → Nat} {x p : Nat} (h : iter f p x = x) (k : Nat) : iter f k x = iter f (k % p) x := by
  have : iter f k x = iter f (k % p + (k / p) * p) x := by congr 1; have := Nat.div_add_mod k p; rw [Nat.mul_comm]; omega
  rw [this, iter_add, iter_mul h]
/-- The cycle of x as a set. -/
def OnOrb (f : Nat → Nat) (x y : Nat) : Prop := ∃ k, iter f k x = y
theorem onOrb_refl (f : Nat → Nat) (x : Nat) : OnOrb f x x := ⟨0, rfl⟩
theorem onOrb_trans {f : Nat → Nat} {x y z : Nat} (h1 : OnOrb f x y) (h2 : OnOrb f y z) : OnOrb f x z := by
  obtain ⟨a, rfl⟩ := h1
  obtain ⟨b, rfl⟩ := h2
  exact ⟨b + a, iter_add f b a x⟩
theorem onOrb_symm {f : Nat → Nat} {N : Nat} (h : Inj f N) {x y : Nat} (hx : x < N) (ho : OnOrb f x y) : OnOrb f y x := by
  obtain ⟨k, rfl⟩ := ho
  obtain ⟨p, hp, _, he⟩ := exists_per h x hx
  refine ⟨p * (k + 1) - k, ?_⟩
  rw [← iter_add]
  have : k ≤ p * (k + 1) := Nat.le_trans (by omega) (Nat.le_mul_of_pos_left _ hp)
  rw [show p * (k + 1) - k + k = (k + 1) * p from by rw [Nat.mul_comm (k + 1) p]; omega]
  exact iter_mul he _
theorem mem_orb {f : Nat → Nat} {x p y : Nat} (h : IsPer f x p) : y ∈ orb f x p ↔ OnOrb f x y := by
  unfold orb OnOrb
  simp only [List.mem_map, List.mem_range]
  constructor
  · rintro ⟨j, _, rfl⟩; exact ⟨j, rfl⟩
  · rintro ⟨k, rfl⟩; exact ⟨k % p, Nat.mod_lt _ h.1, (iter_mod h.2.1 k).symm⟩
theorem onOrb_lt {f : Nat → Nat} {N : Nat} (h : Inj f N) {x y : Nat} (hx : x < N) (ho : OnOrb f x y) : y < N := by
  obtain ⟨k, rfl⟩ := ho; exact iter_lt f N h.lt k x hx
theorem iter_ne {f : Nat → Nat} {N x p : Nat} (h : Inj f N) (hx : x < N) (hp : IsPer f x p) {i j : Nat} (hij : i < j) (hj : j < p) : iter f i x ≠ iter f j x := by
  intro e
  have : iter f j x = iter f i (iter f (j - i) x) := by rw [← iter_add]; congr 1; omega
  rw [this] at e
  exact hp.2.2 (j - i) (by omega) (by omega) (iter_cancel h i _ _ hx (iter_lt f N h.lt _ x hx) e).symm
end Go.Proofs.Ytkopbcehfbmnmaa
