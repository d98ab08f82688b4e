/- Plain law: a greedy forest in a graph of half-edges, and what is even on it. -/
import Derived.Test.YtkopbcehfbmnmaaEven0
namespace Go.Proofs.Ytkopbcehfbmnmaa
open Go Go.RowKit
section
variable (m v : Nat → Nat) (E : Nat → Bool)
/-- The class of a node behind the steps below k. -/
def labn : Nat → Nat → Nat
  | 0, y => y
  | k + 1, y => if E k = true ∧ labn k (v k) ≠ labn k (v (m k)) ∧ labn k y = labn k (v k) then labn k (v (m k)) else labn k y
/-- Step k joins two classes. -/
def isTree (k : Nat) : Bool := E k && decide (labn m v E k (v k) ≠ labn m v E k (v (m k)))
variable {m v : Nat → Nat} {E : Nat → Bool}
theorem labn_succ (k y : Nat) : labn m v E (k + 1) y = if isTree m v E k = true ∧ labn m v E k y = labn m v E k (v k) then labn m v E k (v (m k)) else labn m v E k y := by
  rw [labn]
  unfold isTree
  simp only [Bool.and_eq_true, decide_eq_true_eq, and_assoc]
/-- What is joined stays joined. -/
theorem labn_keep {k y z : Nat} (h : labn m v E k y = labn m v E k z) : ∀ j, labn m v E (k + j) y = labn m v E (k + j) z
  | 0 => h
  | j + 1 => by
    rw [← Nat.add_assoc, labn_succ, labn_succ, labn_keep h j]
theorem labn_mono {k l y z : Nat} (hk : k ≤ l) (h : labn m v E k y = labn m v E k z) : labn m v E l y = labn m v E l z := by
  have := labn_keep h (l - k)
  rwa [show k + (l - k) = l from by omega] at this
/-- Behind its step an allowed edge's ends are joined. -/
theorem labn_joined {k : Nat} (hE : E k = true) : labn m v E (k + 1) (v k) = labn m v E (k + 1) (v (m k)) := by
  rw [labn_succ, labn_succ]
  by_cases ht : isTree m v E k = true
  · rw [if_pos ⟨ht, rfl⟩]
    split <;> rfl
  · rw [if_neg (fun h => ht h.1), if_neg (fun h => ht h.1)]
    unfold isTree at ht
    rw [hE, Bool.true_and, decide_eq_true_eq] at ht
    exact Classical.not_not.1 ht
theorem isTree_E {k : Nat} (h : isTree m v E k = true) : E k = true := by
  unfold isTree at h
  rw [Bool.and_eq_true] at h
  exact h.1
theorem isTree_ne {k : Nat} (h : isTree m v E k = true) : labn m v E k (v k) ≠ labn m v E k (v (m k)) := by
  unfold isTree at h
  rw [Bool.and_eq_true, decide_eq_true_eq] at h
  exact h.2
/-- A set of tree edges that is even at each node is empty. -/
theorem forest_empty {N B : Nat} {Z : Nat → Bool} (hZ : ∀ x, x < N → Z x = true → m x < N ∧ Z (m x) = true ∧ m (m x) = x ∧ m x ≠ x)
    (hT : ∀ x, x < N → Z x = true → isTree m v E x = true ∨ isTree m v E (m x) = true) (hv : ∀ x, x < N → v x < B)
    (hev : ∀ y, y < B → cnt (fun x => decide (v x = y) && Z x) N % 2 = 0) : ∀ x, x < N → Z x = false := by
  have key : ∀ j, j ≤ N → ∀ x, x < N → Z x = true → (isTree m v E x = true ∧ x < N - j) ∨ (isTree m v E (m x) = true ∧ m x < N - j) := by
    intro j
    induction j with
    | zero =>
      intro _ x hx hz
      rcases hT x hx hz with h | h
      · exact .inl ⟨h, by omega⟩
      · exact .inr ⟨h, by have := (hZ x hx hz).1; omega⟩
    | succ j ih =>
      intro hj
      have ih := ih (by omega)
      obtain ⟨k, hk⟩ : ∃ k, N - j = k + 1 := ⟨N - j - 1, by omega⟩
      have hk2 : N - (j + 1) = k := by omega
      rw [hk] at ih
      rw [hk2]
      have hkN : k < N := by omega
      have hno : ¬ (Z k = true ∧ isTree m v E k = true) := by
        rintro ⟨hz, ht⟩
        have hne := isTree_ne ht
        have hS0 : cnt (fun x => decide (labn m v E k (v x) = labn m v E k (v k)) && Z x) N % 2 = 0 :=
          cnt_fibres v (fun y => decide (labn m v E k y = labn m v E k (v k))) B hv (fun y hy _ => hev y hy)
        have hk1 : (decide (labn m v E k (v k) = labn m v E k (v k)) && Z k) = true := by rw [hz]; simp
        have hrm := cnt_remove (p := fun x => decide (labn m v E k (v x) = labn m v E k (v k)) && Z x) hkN hk1
        have hS1 : cnt (fun x => (decide (labn m v E k (v x) = labn m v E k (v k)) && Z x) && decide (x ≠ k)) N % 2 = 0 := by
          refine cnt_even m fun x hx hp => ?_
          simp only [Bool.and_eq_true, decide_eq_true_eq] at hp
          obtain ⟨⟨h1, h2⟩, h3⟩ := hp
          obtain ⟨g1, g2, g3, g4⟩ := hZ x hx h2
          have hmk : m x ≠ k := by
            intro e
            have hmk' : m k = x := by rw [← e]; exact g3
            rw [hmk'] at hne
            exact hne h1.symm
          have hsame : labn m v E k (v x) = labn m v E k (v (m x)) := by
            rcases ih x hx h2 with ⟨t1, t2⟩ | ⟨t1, t2⟩
            · exact labn_mono (k := x + 1) (by omega) (labn_joined (isTree_E t1))
            · have := labn_mono (m := m) (v := v) (E := E) (l := k) (k := m x + 1) (y := v (m x)) (z := v (m (m x))) (by omega) (labn_joined (isTree_E t1))
              rw [g3] at this
              exact this.symm
          refine ⟨g1, ?_, g3, g4⟩
          simp only [Bool.and_eq_true, decide_eq_true_eq]
          exact ⟨⟨by rw [← hsame]; exact h1, g2⟩, hmk⟩
        omega
      intro x hx hz
      rcases ih x hx hz with ⟨t1, t2⟩ | ⟨t1, t2⟩
      · refine .inl ⟨t1, ?_⟩
        have : x ≠ k := fun e => hno (by rw [← e]; exact ⟨hz, t1⟩)
        omega
      · refine .inr ⟨t1, ?_⟩
        have : m x ≠ k := fun e => hno (by rw [← e]; exact ⟨(hZ x hx hz).2.1, t1⟩)
        omega
  intro x hx
  cases hz : Z x
  · rfl
  · rcases key N (Nat.le_refl _) x hx hz with ⟨_, h⟩ | ⟨_, h⟩ <;> omega
theorem labn_idem : ∀ (k y : Nat), labn m v E k (labn m v E k y) = labn m v E k y
  | 0, _ => rfl
  | k + 1, y => by
    have ih := labn_idem k
    by_cases ht : isTree m v E k = true
    · have hne := isTree_ne ht
      rw [labn_succ k y]
      by_cases h : labn m v E k y = labn m v E k (v k)
      · rw [if_pos ⟨ht, h⟩, labn_succ, ih, if_neg (fun h => hne h.2.symm)]
      · rw [if_neg (fun g => h g.2), labn_succ, ih, if_neg (fun g => h g.2)]
    · rw [labn_succ k y, if_neg (fun g => ht g.1), labn_succ, if_neg (fun g => ht g.1), ih]
theorem labn_in {W : Nat → Bool} {N : Nat} (hW : ∀ k, k < N → E k = true → W (v k) = true ∧ W (v (m k)) = true) (y : Nat) (hy : W y = true) : ∀ k, k ≤ N → W (labn m v E k y) = true
  | 0, _ => hy
  | k + 1, hk => by
    have ih : ∀ z, W z = true → W (labn m v E k z) = true := fun z hz => labn_in hW z hz k (by omega)
    rw [labn_succ]
    by_cases h : isTree m v E k = true ∧ labn m v E k y = labn m v E k (v k)
    · rw [if_pos h]
      exact ih _ (hW k (by omega) (isTree_E h.1)).2
    · rw [if_neg h]; exact ih y hy
/-- Each tree step takes one root. -/
theorem roots_count {W : Nat → Bool} {N B : Nat} (hW : ∀ k, k < N → E k = true → W (v k) = true ∧ W (v (m k)) = true) (hB : ∀ y, W y = true → y < B) : ∀ k, k ≤ N → cnt (fun y => W y && decide (labn m v E k y = y)) B + cnt (isTree m v E) k = cnt W B
  | 0, _ => by
    rw [cnt_zero, Nat.add_zero]
    exact cnt_congr fun y _ => by simp [labn]
  | k + 1, hk => by
    have ih := roots_count hW hB k (by omega)
    rw [cnt_succ]
    by_cases ht : isTree m v E k = true
    · rw [if_pos ht]
      have hne := isTree_ne ht
      have hWa : W (labn m v E k (v k)) = true := labn_in hW _ (hW k (by omega) (isTree_E ht)).1 k (by omega)
      have hrm := cnt_remove (p := fun y => W y && decide (labn m v E k y = y)) (hB _ hWa) (by
        simp only [Bool.and_eq_true, decide_eq_true_eq]; exact ⟨hWa, labn_idem k _⟩)
      have e : cnt (fun y => W y && decide (labn m v E (k + 1) y = y)) B = cnt (fun y => (W y && decide (labn m v E k y = y)) && decide (y ≠ labn m v E k (v k))) B := cnt_congr fun y _ => by
        rw [Bool.and_assoc]
        congr 1
        rw [Bool.eq_iff_iff]
        simp only [Bool.and_eq_true, decide_eq_true_eq]
        rw [labn_succ]
        constructor
        · intro h
          by_cases g : labn m v E k y = labn m v E k (v k)
          · rw [if_pos ⟨ht, g⟩] at h
            rw [← h, labn_idem] at g
            exact absurd g.symm hne
          · rw [if_neg (fun h => g h.2)] at h
            exact ⟨h, fun e => g (by rw [h]; exact e)⟩
        · rintro ⟨h1, h2⟩
          rw [if_neg (fun g => h2 (by rw [← g.2]; exact h1.symm))]
          exact h1
      rw [e]; omega
    · rw [if_neg ht]
      have e : cnt (fun y => W y && decide (labn m v E (k + 1) y = y)) B = cnt (fun y => W y && decide (labn m v E k y = y)) B := cnt_congr fun y _ => by
        rw [labn_succ, if_neg (fun g => ht g.1)]
      rw [e]; omega
/-- The nodes can be coloured so that just the tree edges of Z have ends of two colours. -/
theorem colour (Z : Nat → Bool) : ∀ N : Nat, ∃ A : Nat → Bool, ∀ x, x < N → isTree m v E x = true → Z x = (A (v x) ^^ A (v (m x)))
  | 0 => ⟨fun _ => false, fun x hx => by omega⟩
  | k + 1 => by
    obtain ⟨A, hA⟩ := colour Z k
    by_cases h : isTree m v E k = true ∧ Z k ≠ (A (v k) ^^ A (v (m k)))
    · obtain ⟨ht, hz⟩ := h
      have hne := isTree_ne ht
      refine ⟨fun y => if labn m v E k y = labn m v E k (v k) then !A y else A y, fun x hx hx2 => ?_⟩
      rcases Nat.lt_or_ge x k with hlt | hge
      · have h1 := hA x hlt hx2
        have h2 : labn m v E k (v x) = labn m v E k (v (m x)) := labn_mono (k := x + 1) (by omega) (labn_joined (isTree_E hx2))
        simp only
        rw [h1, h2]
        split
        · cases A (v x) <;> cases A (v (m x)) <;> rfl
        · rfl
      · obtain rfl : x = k := by omega
        simp only
        rw [if_pos trivial, if_neg (fun h => hne h.symm)]
        cases hx1 : Z x <;> cases hx3 : A (v x) <;> cases hx4 : A (v (m x)) <;> simp_all
    · refine ⟨A, fun x hx hx2 => ?_⟩
      rcases Nat.lt_or_ge x k with hlt | hge
      · exact hA x hlt hx2
      · obtain rfl : x = k := by omega
        exact Classical.not_not.1 fun g => h ⟨hx2, g⟩
end
end Go.Proofs.Ytkopbcehfbmnmaa
