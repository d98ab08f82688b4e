/- Plain law: on a sphere each even set of edges bounds: the theorem. -/
import Derived.Test.YtkopbcehfbmnmaaPlanar0
namespace Go.Proofs.Ytkopbcehfbmnmaa
open Go Go.RowKit
/-- The mate. -/
def mt (M : List Int) (x : Nat) : Nat := (nth M x).toNat
/-- The face to the left of x, by its least half-edge. -/
def lf (M : List Int) (n x : Nat) : Nat := fl (fc M) (perOf (fc M) (4 * n)) x
theorem cnt_mono {p q : Nat → Bool} {N : Nat} (h : ∀ x, x < N → p x = true → q x = true) : cnt p N ≤ cnt q N :=
  cnt_inj id (fun x hx hp => ⟨hx, h x hx hp⟩) (fun _ _ _ _ _ _ he => he)
theorem cnt_or {p q : Nat → Bool} {N : Nat} (h : ∀ x, x < N → ¬ (p x = true ∧ q x = true)) : cnt (fun x => p x || q x) N = cnt p N + cnt q N := by
  induction N with
  | zero => rfl
  | succ N ih =>
    have ih := ih fun x hx => h x (by omega)
    have := h N (by omega)
    rw [cnt_succ, cnt_succ, cnt_succ, ih]
    cases hp : p N <;> cases hq : q N <;> simp_all <;> omega
theorem cnt_none {p : Nat → Bool} {N : Nat} (h : ∀ x, x < N → p x = false) : cnt p N = 0 := by
  induction N with
  | zero => rfl
  | succ N ih => rw [cnt_succ, ih fun x hx => h x (by omega), h N (by omega)]; rfl
theorem cnt_one {p : Nat → Bool} {N : Nat} (h : ∀ x y, x < N → y < N → p x = true → p y = true → x = y) : cnt p N ≤ 1 := by
  have := cnt_inj (p := p) (N := N) (fun _ => 0) (M := 1) (q := fun _ => true) (fun x hx hp => ⟨by omega, rfl⟩) (fun x y hx hy hp hq _ => h x y hx hy hp hq)
  have h2 := cnt_le (fun _ => true) 1
  omega
/-- Each crossing has four half-edges. -/
theorem cnt_four (Q : Nat → Bool) (n : Nat) : cnt (fun x => Q (x / 4)) (4 * n) = 4 * cnt Q n := by
  induction n with
  | zero => rfl
  | succ n ih =>
    rw [show 4 * (n + 1) = 4 * n + 1 + 1 + 1 + 1 from by omega, cnt_succ, cnt_succ, cnt_succ, cnt_succ, ih, cnt_succ]
    have h1 : (4 * n) / 4 = n := by omega
    have h2 : (4 * n + 1) / 4 = n := by omega
    have h3 : (4 * n + 1 + 1) / 4 = n := by omega
    have h4 : (4 * n + 1 + 1 + 1) / 4 = n := by omega
    rw [h1, h2, h3, h4]
    split <;> omega
theorem tn_back (x : Nat) : tn (tn x (-1)) 1 = x := by
  have h1 := tn_div x (-1)
  have h2 := tn_mod x (-1)
  unfold tn at *
  omega
theorem tn_back' (x : Nat) : tn (tn x 1) (-1) = x := by
  have h1 := tn_div x 1
  have h2 := tn_mod x 1
  unfold tn at *
  omega
/-- Around a crossing a colour turns evenly often. -/
theorem cross_even (B : Nat → Bool) (n c : Nat) : cnt (fun x => decide (x / 4 = c) && (B x ^^ B (tn x (-1)))) (4 * n) % 2 = 0 := by
  have h1 : cnt (fun x => decide (x / 4 = c) && B (tn x (-1))) (4 * n) = cnt (fun x => decide (x / 4 = c) && B x) (4 * n) := by
    refine Nat.le_antisymm ?_ ?_
    · refine cnt_inj (fun x => tn x (-1)) (fun x hx hp => ?_) (fun x y _ _ _ _ he => ?_)
      · simp only [Bool.and_eq_true, decide_eq_true_eq] at hp ⊢
        exact ⟨tn_lt _ _ _ hx, by rw [tn_div]; exact hp.1, hp.2⟩
      · rw [← tn_back x, he, tn_back y]
    · refine cnt_inj (fun x => tn x 1) (fun x hx hp => ?_) (fun x y _ _ _ _ he => ?_)
      · simp only [Bool.and_eq_true, decide_eq_true_eq] at hp ⊢
        exact ⟨tn_lt _ _ _ hx, by rw [tn_div]; exact hp.1, by rw [tn_back']; exact hp.2⟩
      · rw [← tn_back' x, he, tn_back' y]
  have h2 := cnt_xor (fun x => decide (x / 4 = c)) B (fun x => B (tn x (-1))) (4 * n)
  omega
end Go.Proofs.Ytkopbcehfbmnmaa
