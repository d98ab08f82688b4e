/- Plain law: counting along involutions and bijections. -/
import Derived.Test.YtkopbcehfbmnmaaSph1
namespace Go.Proofs.Ytkopbcehfbmnmaa
open Go Go.RowKit
/-- How many numbers below N pass. -/
def cnt (p : Nat → Bool) (N : Nat) : Nat := (List.range N).countP p
theorem cnt_zero (p : Nat → Bool) : cnt p 0 = 0 := rfl
theorem cnt_succ (p : Nat → Bool) (N : Nat) : cnt p (N + 1) = cnt p N + if p N = true then 1 else 0 := by
  unfold cnt
  rw [List.range_succ, List.countP_append, List.countP_singleton]
theorem cnt_congr {p q : Nat → Bool} {N : Nat} (h : ∀ x, x < N → p x = q x) : cnt p N = cnt q N := by
  induction N with
  | zero => rfl
  | succ N ih => rw [cnt_succ, cnt_succ, ih fun x hx => h x (by omega), h N (by omega)]
theorem cnt_le (p : Nat → Bool) (N : Nat) : cnt p N ≤ N := by
  induction N with
  | zero => exact Nat.le_refl _
  | succ N ih => rw [cnt_succ]; split <;> omega
theorem cnt_remove {p : Nat → Bool} {N y : Nat} (hy : y < N) (hp : p y = true) : cnt (fun x => p x && decide (x ≠ y)) N + 1 = cnt p N := by
  induction N with
  | zero => omega
  | succ N ih =>
    rw [cnt_succ, cnt_succ]
    by_cases e : y = N
    · subst e
      have h1 : cnt (fun x => p x && decide (x ≠ y)) y = cnt p y := cnt_congr fun x hx => by
        have : decide (x ≠ y) = true := decide_eq_true (by omega)
        rw [this, Bool.and_true]
      rw [h1, hp]; simp
    · have := ih (by omega)
      have h2 : (p N && decide (N ≠ y)) = p N := by
        have : decide (N ≠ y) = true := decide_eq_true (by omega)
        rw [this, Bool.and_true]
      rw [h2]; omega
/-- A one-to-one way into another set. -/
theorem cnt_inj {p : Nat → Bool} {N : Nat} (f : Nat → Nat) : ∀ {M : Nat} {q : Nat → Bool}, (∀ x, x < N → p x = true → f x < M ∧ q (f x) = true) → (∀ x y, x < N → y < N → p x = true → p y = true → f x = f y → x = y) → cnt p N ≤ cnt q M := by
  induction N with
  | zero => intro M q _ _; rw [cnt_zero]; omega
  | succ N ih =>
    intro M q h hi
    rw [cnt_succ]
    by_cases hp : p N = true
    · rw [if_pos hp]
      obtain ⟨h1, h2⟩ := h N (by omega) hp
      have h3 := ih (M := M) (q := fun x => q x && decide (x ≠ f N)) (fun x hx hpx => by
        obtain ⟨k1, k2⟩ := h x (by omega) hpx
        refine ⟨k1, ?_⟩
        rw [k2, Bool.true_and]
        exact decide_eq_true fun e => by have := hi x N (by omega) (by omega) hpx hp e; omega) (fun x y hx hy => hi x y (by omega) (by omega))
      have h4 := cnt_remove h1 h2
      omega
    · rw [if_neg hp]
      exact ih (fun x hx => h x (by omega)) (fun x y hx hy => hi x y (by omega) (by omega))
theorem cnt_split (p q : Nat → Bool) (N : Nat) : cnt p N = cnt (fun x => p x && q x) N + cnt (fun x => p x && !q x) N := by
  induction N with
  | zero => rfl
  | succ N ih =>
    rw [cnt_succ, cnt_succ, cnt_succ, ih]
    cases p N <;> cases q N <;> simp <;> omega
/-- A set closed under an involution without a fixed point is even. -/
theorem cnt_even {p : Nat → Bool} {N : Nat} (m : Nat → Nat) (h : ∀ x, x < N → p x = true → m x < N ∧ p (m x) = true ∧ m (m x) = x ∧ m x ≠ x) : cnt p N % 2 = 0 := by
  rw [cnt_split p (fun x => decide (x < m x))]
  have e1 : cnt (fun x => p x && decide (x < m x)) N ≤ cnt (fun x => p x && !decide (x < m x)) N := by
    refine cnt_inj m (fun x hx hpx => ?_) (fun x y hx hy hpx hpy he => ?_)
    · simp only [Bool.and_eq_true, decide_eq_true_eq] at hpx
      obtain ⟨h1, h2, h3, h4⟩ := h x hx hpx.1
      refine ⟨h1, ?_⟩
      rw [h2, h3, Bool.true_and, Bool.not_eq_true']
      exact decide_eq_false (by omega)
    · simp only [Bool.and_eq_true] at hpx hpy
      have h1 := (h x hx hpx.1).2.2.1
      have h2 := (h y hy hpy.1).2.2.1
      rw [← h1, ← h2, he]
  have e2 : cnt (fun x => p x && !decide (x < m x)) N ≤ cnt (fun x => p x && decide (x < m x)) N := by
    refine cnt_inj m (fun x hx hpx => ?_) (fun x y hx hy hpx hpy he => ?_)
    · simp only [Bool.and_eq_true, Bool.not_eq_true', decide_eq_false_iff_not] at hpx
      obtain ⟨h1, h2, h3, h4⟩ := h x hx hpx.1
      refine ⟨h1, ?_⟩
      rw [h2, h3, Bool.true_and]
      exact decide_eq_true (by omega)
    · simp only [Bool.and_eq_true] at hpx hpy
      have h1 := (h x hx hpx.1).2.2.1
      have h2 := (h y hy hpy.1).2.2.1
      rw [← h1, ← h2, he]
  omega
/-- A union of even fibres is even. -/
theorem cnt_fibres {Z : Nat → Bool} {N : Nat} (v : Nat → Nat) (P : Nat → Bool) (B : Nat) (hv : ∀ x, x < N → v x < B) (h : ∀ y, y < B → P y = true → cnt (fun x => decide (v x = y) && Z x) N % 2 = 0) : cnt (fun x => P (v x) && Z x) N % 2 = 0 := by
  have key : ∀ b, b ≤ B → cnt (fun x => decide (v x < b) && P (v x) && Z x) N % 2 = 0 := by
    intro b
    induction b with
    | zero =>
      intro _
      have : cnt (fun x => decide (v x < 0) && P (v x) && Z x) N = cnt (fun _ => false) N := cnt_congr fun x _ => by simp
      rw [this]
      have h0 : ∀ n, cnt (fun _ => false) n = 0 := by
        intro n
        induction n with
        | zero => rfl
        | succ n ih => rw [cnt_succ, ih]; simp
      rw [h0]
    | succ b ih =>
      intro hb
      have ih := ih (by omega)
      have hs := cnt_split (fun x => decide (v x < b + 1) && P (v x) && Z x) (fun x => decide (v x < b)) N
      have e1 : cnt (fun x => (decide (v x < b + 1) && P (v x) && Z x) && decide (v x < b)) N = cnt (fun x => decide (v x < b) && P (v x) && Z x) N := cnt_congr fun x _ => by
        by_cases e : v x < b
        · have : v x < b + 1 := by omega
          simp [e, this]
        · simp [e]
      have e2 : cnt (fun x => (decide (v x < b + 1) && P (v x) && Z x) && !decide (v x < b)) N % 2 = 0 := by
        by_cases hP : P b = true
        · have : cnt (fun x => (decide (v x < b + 1) && P (v x) && Z x) && !decide (v x < b)) N = cnt (fun x => decide (v x = b) && Z x) N := cnt_congr fun x _ => by
            by_cases e : v x = b
            · simp [e, hP]
            · by_cases g : v x < b
              · simp [g, e]
              · have : ¬ v x < b + 1 := by omega
                simp [this, e]
          rw [this]
          exact h b (by omega) hP
        · have : cnt (fun x => (decide (v x < b + 1) && P (v x) && Z x) && !decide (v x < b)) N = cnt (fun _ => false) N := cnt_congr fun x _ => by
            by_cases e : v x = b
            · have hP' : P b = false := by simpa using hP
              simp [e, hP']
            · by_cases g : v x < b
              · simp [g]
              · have : ¬ v x < b + 1 := by omega
                simp [this]
          rw [this]
          have h0 : ∀ n, cnt (fun _ => false) n = 0 := by
            intro n
            induction n with
            | zero => rfl
            | succ n ih => rw [cnt_succ, ih]; simp
          rw [h0]
      rw [hs, e1]; omega
  have := key B (Nat.le_refl _)
  have e : cnt (fun x => decide (v x < B) && P (v x) && Z x) N = cnt (fun x => P (v x) && Z x) N := cnt_congr fun x hx => by
    simp [hv x hx]
  rw [e] at this
  exact this
end Go.Proofs.Ytkopbcehfbmnmaa
