/- Plain law: on a sphere each even set of edges bounds. -/
import Derived.Test.YtkopbcehfbmnmaaForest0
namespace Go.Proofs.Ytkopbcehfbmnmaa
open Go Go.RowKit
theorem foldl_min_spec : ∀ (l : List Nat) (x : Nat), l.foldl min x ≤ x ∧ (∀ y ∈ l, l.foldl min x ≤ y) ∧ (l.foldl min x = x ∨ l.foldl min x ∈ l)
  | [], x => ⟨Nat.le_refl _, fun y hy => by simp at hy, .inl rfl⟩
  | a :: l, x => by
    obtain ⟨h1, h2, h3⟩ := foldl_min_spec l (min x a)
    rw [List.foldl_cons]
    refine ⟨by omega, fun y hy => ?_, ?_⟩
    · rw [List.mem_cons] at hy
      rcases hy with rfl | hy
      · omega
      · exact h2 y hy
    · rcases h3 with h | h
      · rcases Nat.le_total x a with g | g
        · left; rw [h]; omega
        · right; rw [h, Nat.min_eq_right g]; exact List.mem_cons_self
      · right; exact List.mem_cons_of_mem _ h
theorem cnt_xor (p a b : Nat → Bool) (N : Nat) : cnt (fun x => p x && (a x ^^ b x)) N + 2 * cnt (fun x => p x && a x && b x) N = cnt (fun x => p x && a x) N + cnt (fun x => p x && b x) N := by
  induction N with
  | zero => rfl
  | succ N ih =>
    rw [cnt_succ, cnt_succ, cnt_succ, cnt_succ]
    cases p N <;> cases a N <;> cases b N <;> simp <;> omega
/-- The least of the orbit of x. -/
def fl (f per : Nat → Nat) (x : Nat) : Nat := (orb f x (per x)).foldl min x
section
variable {f per : Nat → Nat} {N : Nat} (hf : Inj f N) (hp : ∀ x, x < N → IsPer f x (per x))
include hf hp
omit hf in
theorem fl_spec {x : Nat} (hx : x < N) : OnOrb f x (fl f per x) ∧ ∀ y, OnOrb f x y → fl f per x ≤ y := by
  obtain ⟨h1, h2, h3⟩ := foldl_min_spec (orb f x (per x)) x
  refine ⟨?_, fun y hy => h2 y ((mem_orb (hp x hx)).2 hy)⟩
  rcases h3 with h | h
  · unfold fl; rw [h]; exact onOrb_refl f x
  · exact (mem_orb (hp x hx)).1 h
theorem fl_lt {x : Nat} (hx : x < N) : fl f per x < N := onOrb_lt hf hx (fl_spec hp hx).1
theorem fl_eq {x y : Nat} (hx : x < N) (ho : OnOrb f x y) : fl f per y = fl f per x := by
  have hy := onOrb_lt hf hx ho
  obtain ⟨h1, h2⟩ := fl_spec hp hx
  obtain ⟨k1, k2⟩ := fl_spec hp hy
  have a := h2 _ (onOrb_trans ho k1)
  have b := k2 _ (onOrb_trans (onOrb_symm hf hx ho) h1)
  omega
theorem fl_idem {x : Nat} (hx : x < N) : fl f per (fl f per x) = fl f per x := fl_eq hf hp hx (fl_spec hp hx).1
theorem fl_step {x : Nat} (hx : x < N) : fl f per (f x) = fl f per x := fl_eq hf hp hx ⟨1, rfl⟩
theorem fl_least {x : Nat} (hx : x < N) : leastB f per x = true ↔ fl f per x = x := by
  rw [leastB_iff hf hp hx]
  obtain ⟨h1, h2⟩ := fl_spec hp hx
  constructor
  · intro h
    have h3 := h2 x (onOrb_refl f x)
    rcases Nat.lt_or_ge (fl f per x) x with g | g
    · exact absurd (onOrb_symm hf hx h1) (h _ g)
    · omega
  · intro h y hy ho
    have hyN : y < N := by omega
    have := h2 y (onOrb_symm hf hyN ho)
    omega
/-- An orbit's steps in and out of a set are as many. -/
theorem orbit_even {x : Nat} (Q : Nat → Bool) : cnt (fun y => decide (fl f per y = x) && (Q y ^^ Q (f y))) N % 2 = 0 := by
  have h1 : cnt (fun y => decide (fl f per y = x) && Q (f y)) N = cnt (fun y => decide (fl f per y = x) && Q y) N := by
    refine Nat.le_antisymm ?_ ?_
    · refine cnt_inj f (fun y hy hpy => ?_) (fun a b ha hb _ _ he => hf.inj a b ha hb he)
      simp only [Bool.and_eq_true, decide_eq_true_eq] at hpy ⊢
      exact ⟨hf.lt y hy, by rw [fl_step hf hp hy]; exact hpy.1, hpy.2⟩
    · refine cnt_inj (fun y => iter f (per y - 1) y) (fun y hy hpy => ?_) (fun a b ha hb' _ _ he => ?_)
      · simp only [Bool.and_eq_true, decide_eq_true_eq] at hpy ⊢
        have hpp := hp y hy
        have hb : f (iter f (per y - 1) y) = y := by
          have := hpp.2.1
          rw [show per y = (per y - 1) + 1 from by have := hpp.1; omega, iter_succ] at this
          exact this
        exact ⟨iter_lt f N hf.lt _ _ hy, by rw [fl_eq hf hp hy ⟨_, rfl⟩]; exact hpy.1, by rw [hb]; exact hpy.2⟩
      · have hb : ∀ y, y < N → f (iter f (per y - 1) y) = y := fun y hy => by
          have hpp := hp y hy
          have := hpp.2.1
          rw [show per y = (per y - 1) + 1 from by have := hpp.1; omega, iter_succ] at this
          exact this
        rw [← hb a ha, he, hb b hb']
  have h2 := cnt_xor (fun y => decide (fl f per y = x)) Q (fun y => Q (f y)) N
  omega
end
end Go.Proofs.Ytkopbcehfbmnmaa
