/- Plain law: the total linking number out of the matrix. -/
import Derived.Test.YtkopbcehfbmnmaaEven1
import Derived.Test.YtkopbcehfbmnmaaNumberW
namespace Go.Proofs.Ytkopbcehfbmnmaa
open Go Go.RowKit
/-- The sum of a row's first m. -/
def rowTo (g : Nat → Nat → Int) (a : Nat) : Nat → Int
  | 0 => 0
  | m + 1 => rowTo g a m + g a m
/-- The sum below the diagonal. -/
def triTo (g : Nat → Nat → Int) : Nat → Int
  | 0 => 0
  | a + 1 => triTo g a + rowTo g a a
theorem rowTo_congr {g h : Nat → Nat → Int} {a : Nat} {m : Nat} (e : ∀ b, b < m → g a b = h a b) : rowTo g a m = rowTo h a m := by
  induction m with
  | zero => rfl
  | succ m ih => rw [rowTo, rowTo, ih fun b hb => e b (by omega), e m (by omega)]
theorem triTo_congr {g h : Nat → Nat → Int} {N : Nat} (e : ∀ a b, b < a → a < N → g a b = h a b) : triTo g N = triTo h N := by
  induction N with
  | zero => rfl
  | succ N ih => rw [triTo, triTo, ih fun a b h1 h2 => e a b h1 (by omega), rowTo_congr fun b hb => e N b hb (by omega)]
theorem rowTo_add (g h : Nat → Nat → Int) (a m : Nat) : rowTo (fun a b => g a b + h a b) a m = rowTo g a m + rowTo h a m := by
  induction m with
  | zero => rfl
  | succ m ih => rw [rowTo, rowTo, rowTo, ih]; omega
theorem triTo_add (g h : Nat → Nat → Int) (N : Nat) : triTo (fun a b => g a b + h a b) N = triTo g N + triTo h N := by
  induction N with
  | zero => rfl
  | succ N ih => rw [triTo, triTo, triTo, ih, rowTo_add]; omega
theorem rowTo_mul (g : Nat → Nat → Int) (a m : Nat) : rowTo (fun a b => 2 * g a b) a m = 2 * rowTo g a m := by
  induction m with
  | zero => rfl
  | succ m ih => rw [rowTo, rowTo, ih]; omega
theorem triTo_mul (g : Nat → Nat → Int) (N : Nat) : triTo (fun a b => 2 * g a b) N = 2 * triTo g N := by
  induction N with
  | zero => rfl
  | succ N ih => rw [triTo, triTo, ih, rowTo_mul]; omega
theorem isPair_iff (a b u o : Nat) : isPair (a : Int) b u o = true ↔ (u = a ∧ o = b) ∨ (u = b ∧ o = a) := by
  unfold isPair
  simp only [Bool.or_eq_true, Bool.and_eq_true, beq_iff_eq]
  omega
theorem isPair_comm (i k u o : Int) : isPair i k u o = isPair k i u o := by
  unfold isPair
  rw [Bool.or_comm]
theorem rowTo_one (u o : Nat) (s : Int) (a : Nat) : ∀ m, m ≤ a → rowTo (fun a b => if isPair (a : Int) b u o = true then s else 0) a m = if u ≠ o ∧ a = max u o ∧ min u o < m then s else 0
  | 0, _ => by rw [rowTo, if_neg (by omega)]
  | m + 1, h => by
    rw [rowTo, rowTo_one u o s a m (by omega)]
    by_cases h1 : u ≠ o ∧ a = max u o ∧ min u o = m
    · have h2 : isPair (a : Int) m u o = true := (isPair_iff a m u o).2 (by omega)
      rw [if_neg (by omega), if_pos h2, if_pos (by omega)]; omega
    · have h2 : ¬ isPair (a : Int) m u o = true := fun e => h1 (by have := (isPair_iff a m u o).1 e; omega)
      rw [if_neg h2]
      by_cases h3 : u ≠ o ∧ a = max u o ∧ min u o < m
      · rw [if_pos h3, if_pos (by omega)]; omega
      · rw [if_neg h3, if_neg (by omega)]; omega
theorem triTo_one (u o : Nat) (s : Int) : ∀ N, triTo (fun a b => if isPair (a : Int) b u o = true then s else 0) N = if u ≠ o ∧ max u o < N then s else 0
  | 0 => by rw [triTo, if_neg (by omega)]
  | N + 1 => by
    rw [triTo, triTo_one u o s N, rowTo_one u o s N N (Nat.le_refl _)]
    by_cases h1 : u ≠ o ∧ max u o < N
    · rw [if_pos h1, if_neg (by omega), if_pos (by omega)]; omega
    · rw [if_neg h1]
      by_cases h2 : u ≠ o ∧ N = max u o ∧ min u o < N
      · rw [if_pos h2, if_pos (by omega)]; omega
      · rw [if_neg h2, if_neg (by omega)]; omega
/-- The crossings of two strands, by pairs. -/
theorem sum_tri (S : List Int) (f : Nat → Int × Int) (N : Nat) : ∀ k, (∀ c, c < k → ∃ u o : Nat, f c = ((u : Int), (o : Int)) ∧ u < N ∧ o < N) → sumTo S f (fun u o => u != o) k = triTo (fun a b => sumTo S f (isPair a b) k) N
  | 0, _ => by
    have : ∀ n, triTo (fun _ _ => (0 : Int)) n = 0 := by
      have h0 : ∀ a m, rowTo (fun _ _ => (0 : Int)) a m = 0 := fun a m => by
        induction m with
        | zero => rfl
        | succ m ih => rw [rowTo, ih]; rfl
      intro n
      induction n with
      | zero => rfl
      | succ n ih => rw [triTo, ih, h0]; rfl
    exact (this N).symm
  | k + 1, h => by
    obtain ⟨u, o, hf, hu, ho⟩ := h k (by omega)
    have ih := sum_tri S f N k fun c hc => h c (by omega)
    have e : ∀ a b, b < a → a < N → sumTo S f (isPair (a : Int) b) (k + 1) = sumTo S f (isPair (a : Int) b) k + if isPair (a : Int) b u o = true then nth S k else 0 := fun a b _ _ => by
      rw [sumTo, hf]
      show (if isPair (a : Int) b u o = true then _ else _) = _
      split <;> omega
    rw [triTo_congr e, triTo_add (fun a b => sumTo S f (isPair (a : Int) b) k) (fun a b => if isPair (a : Int) b u o = true then nth S k else 0), triTo_one, ← ih, sumTo, hf]
    show (if ((u : Int) != (o : Int)) = true then _ else _) = _
    by_cases g : u = o
    · have : ((u : Int) != (o : Int)) = false := by rw [bne_eq_false_iff_eq, g]
      rw [this, if_neg (by decide), if_neg (by omega)]; omega
    · have : ((u : Int) != (o : Int)) = true := by rw [bne_iff_ne]; omega
      rw [this, if_pos rfl, if_pos (by omega)]
/-- A sum of signs is as even as their number. -/
theorem sum_parity (S : List Int) (f : Nat → Int × Int) (keep : Int → Int → Bool) : ∀ k, (∀ c, c < k → nth S c = 1 ∨ nth S c = -1) → (sumTo S f keep k - (cnt (fun c => keep (f c).1 (f c).2) k : Nat)) % 2 = 0
  | 0, _ => rfl
  | k + 1, h => by
    have ih := sum_parity S f keep k fun c hc => h c (by omega)
    have := h k (by omega)
    rw [sumTo, cnt_succ]
    by_cases g : keep (f k).1 (f k).2 = true
    · rw [if_pos g, if_pos g]; omega
    · rw [if_neg g, if_neg g]; omega
/-- .. of two strands: even. -/
theorem pair_sum_even {S M : List Int} {L : Int} (hv : vldB S M L = true) (a b : Nat) (hab : a ≠ b) : sumTo S (ownF (strandsL S M L)) (isPair a b) S.length % 2 = 0 := by
  have hs := vldB_shape hv
  have h1 := sum_parity S (ownF (strandsL S M L)) (isPair a b) S.length fun c hc => hs.sign c hc
  by_cases hlt : a < (leasts S M).length ∧ b < (leasts S M).length
  · obtain ⟨p, hp⟩ : ∃ p, (leasts S M)[a]? = some p := ⟨_, List.getElem?_eq_getElem hlt.1⟩
    obtain ⟨q, hq⟩ : ∃ q, (leasts S M)[b]? = some q := ⟨_, List.getElem?_eq_getElem hlt.2⟩
    have hpq : p ≠ q := by
      intro e
      rw [← e] at hq
      exact hab ((List.getElem?_inj hlt.1 (leasts_nodup S M)).1 (hp.trans hq.symm))
    have h2 := pair_even hv p q hpq
    have h3 : cnt (fun c => isPair a b (ownF (strandsL S M L) c).1 (ownF (strandsL S M L) c).2) S.length = cnt (fun c => decide ((st S M (4 * c + 2) = p ∧ st S M (4 * c + 1) = q) ∨ (st S M (4 * c + 2) = q ∧ st S M (4 * c + 1) = p))) S.length := cnt_congr fun c hc => by
      rw [ownF_eq hv c hc]
      have i1 := fun k => ix_iff hs (x := 4 * c + 2) (k := k) (by omega)
      have i2 := fun k => ix_iff hs (x := 4 * c + 1) (k := k) (by omega)
      have e1 : ix S M (4 * c + 2) = a ↔ st S M (4 * c + 2) = p := by rw [i1, hp]; simp [eq_comm]
      have e2 : ix S M (4 * c + 2) = b ↔ st S M (4 * c + 2) = q := by rw [i1, hq]; simp [eq_comm]
      have e3 : ix S M (4 * c + 1) = a ↔ st S M (4 * c + 1) = p := by rw [i2, hp]; simp [eq_comm]
      have e4 : ix S M (4 * c + 1) = b ↔ st S M (4 * c + 1) = q := by rw [i2, hq]; simp [eq_comm]
      rw [Bool.eq_iff_iff, isPair_iff, decide_eq_true_eq, e1, e2, e3, e4]
    omega
  · have h3 : cnt (fun c => isPair a b (ownF (strandsL S M L) c).1 (ownF (strandsL S M L) c).2) S.length = 0 := cnt_none fun c hc => by
      rw [ownF_eq hv c hc, ← Bool.not_eq_true]
      intro h
      have h := (isPair_iff _ _ _ _).1 h
      have a1 := ix_lt hs (x := 4 * c + 2) (by omega)
      have a2 := ix_lt hs (x := 4 * c + 1) (by omega)
      omega
    omega
/-- THE TOTAL LINKING NUMBER IS THE SUM OF THE MATRIX BELOW THE DIAGONAL. -/
theorem total_tri {S M : List Int} {L : Int} (hv : vldB S M L = true) (N : Nat) (hN : (strandsL S M L).length ≤ N) : (sumTo S (ownF (strandsL S M L)) (fun u o => u != o) S.length).tdiv 2 = triTo (fun a b => (sumTo S (ownF (strandsL S M L)) (isPair a b) S.length).tdiv 2) N := by
  have hs := vldB_shape hv
  have hlen : (strandsL S M L).length = (leasts S M).length := by rw [strandsL_leasts hv, List.length_map]
  have h1 := sum_tri S (ownF (strandsL S M L)) N S.length fun c hc => ⟨_, _, ownF_eq hv c hc, by have := ix_lt hs (x := 4 * c + 2) (by omega); omega, by have := ix_lt hs (x := 4 * c + 1) (by omega); omega⟩
  have h2 : triTo (fun a b => sumTo S (ownF (strandsL S M L)) (isPair a b) S.length) N = triTo (fun a b => 2 * (sumTo S (ownF (strandsL S M L)) (isPair a b) S.length).tdiv 2) N := triTo_congr fun a b hb _ => by
    have := pair_sum_even hv a b (by omega)
    generalize sumTo S (ownF (strandsL S M L)) (isPair a b) S.length = t at *
    rw [Int.mul_comm, Int.tdiv_mul_cancel (Int.dvd_of_emod_eq_zero this)]
  rw [h1, h2, triTo_mul (fun a b => (sumTo S (ownF (strandsL S M L)) (isPair a b) S.length).tdiv 2)]
  generalize triTo _ N = t
  exact Int.mul_tdiv_cancel_left t (by omega)
end Go.Proofs.Ytkopbcehfbmnmaa
