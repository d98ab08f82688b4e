/- Plain: how many sums vanish: the nullity. -/
import Derived.Test.YtlgiponfcmeiiaaSpanW
namespace Go.Proofs.Ytlgiponfcmeiiaa
open Go Go.RowKit
theorem cnt_add (p : Nat → Bool) (M N : Nat) : cnt p (M + N) = cnt p M + cnt (fun x => p (M + x)) N := by
  induction N with
  | zero => rfl
  | succ N ih => rw [← Nat.add_assoc, cnt_succ, cnt_succ, ih, Nat.add_assoc]
theorem pow_xor {C b : Nat} (h : b < 2 ^ C) : 2 ^ C + b = 2 ^ C ^^^ b := by
  refine Nat.eq_of_testBit_eq fun i => ?_
  rw [Nat.testBit_xor, Nat.testBit_two_pow]
  rcases Nat.lt_trichotomy i C with g | g | g
  · rw [Nat.testBit_two_pow_add_gt g, decide_eq_false (by omega), Bool.false_xor]
  · subst g
    rw [Nat.testBit_two_pow_add_eq, decide_eq_true rfl, Bool.true_xor]
  · have h1 : 2 ^ C + b < 2 ^ i := by
      have : 2 ^ (C + 1) ≤ 2 ^ i := Nat.pow_le_pow_right (by omega) g
      rw [Nat.pow_succ] at this; omega
    have h2 : b < 2 ^ i := by omega
    rw [Nat.testBit_lt_two_pow h1, Nat.testBit_lt_two_pow h2, decide_eq_false (by omega)]; rfl
theorem lin_high (f : Nat → Nat) {C k : Nat} (h : C ≤ k) : lin f C (2 ^ k) = 0 := by
  induction C with
  | zero => rfl
  | succ C ih => rw [lin, ih (by omega), Nat.testBit_two_pow, if_neg (by simp; omega), Nat.xor_self]
theorem lin_low (f : Nat → Nat) {C b : Nat} (h : b < 2 ^ C) : lin f (C + 1) b = lin f C b := by
  rw [lin, Nat.testBit_lt_two_pow h, if_neg (by decide), Nat.xor_zero]
/-- How many sums vanish. -/
def nul (f : Nat → Nat) (C : Nat) : Nat := cnt (fun b => lin f C b == 0) (2 ^ C)
theorem xor_eq_zero {a b : Nat} : a ^^^ b = 0 ↔ a = b := ⟨fun h => by rw [← xor_back a b, h, Nat.zero_xor], fun h => by rw [h, Nat.xor_self]⟩
theorem nul_span (f : Nat → Nat) (C : Nat) : nul f C * 2 ^ rk ((List.range C).map f) = 2 ^ C := by
  induction C with
  | zero => rfl
  | succ C ih =>
    have hrk : rk ((List.range (C + 1)).map f) = rk (f C :: (List.range C).map f) := by
      rw [List.range_succ, List.map_append]
      exact rk_perm (List.perm_append_comm)
    have hsp : ∀ x, spanB ((List.range C).map f) x = true ↔ ∃ b, b < 2 ^ C ∧ x = lin f C b := fun x => by
      have h := lin_sums (xs := (List.range C).map f) (x := x)
      rw [List.length_map, List.length_range] at h
      rw [h]
      have e : ∀ b, mulN ((List.range C).map f) C b = lin f C b := fun b => lin_congr (fun k hk => by simp [hk]) b
      exact ⟨fun ⟨b, h1, h2⟩ => ⟨b, h1, h2.trans (e b)⟩, fun ⟨b, h1, h2⟩ => ⟨b, h1, h2.trans (e b).symm⟩⟩
    have hn : nul f (C + 1) = nul f C + cnt (fun b => lin f C b == f C) (2 ^ C) := by
      unfold nul
      rw [Nat.pow_succ, Nat.mul_two, cnt_add]
      congr 1
      · exact cnt_congr fun b hb => by rw [lin_low f hb]
      · refine cnt_congr fun b hb => ?_
        rw [pow_xor hb, lin_xor, lin_one f (C + 1) C (by omega), lin_low f hb, Bool.eq_iff_iff, beq_iff_eq, beq_iff_eq, xor_eq_zero]
        exact ⟨Eq.symm, Eq.symm⟩
    rw [hrk, hn]
    by_cases hs : spanB ((List.range C).map f) (f C) = true
    · obtain ⟨b0, hb0, he⟩ := (hsp _).1 hs
      have h2 : cnt (fun b => lin f C b == f C) (2 ^ C) = nul f C := by
        unfold nul
        refine Nat.le_antisymm ?_ ?_
        · refine cnt_inj (fun b => b ^^^ b0) (fun b hb hp => ⟨Nat.xor_lt_two_pow hb hb0, ?_⟩) (fun x y _ _ _ _ e => by
            have e : x ^^^ b0 = y ^^^ b0 := e
            rw [← xor_back x b0, e, xor_back])
          have hp := beq_iff_eq.1 hp
          show (lin f C (b ^^^ b0) == 0) = true
          rw [lin_xor, hp, ← he, Nat.xor_self]; rfl
        · refine cnt_inj (fun b => b ^^^ b0) (fun b hb hp => ⟨Nat.xor_lt_two_pow hb hb0, ?_⟩) (fun x y _ _ _ _ e => by
            have e : x ^^^ b0 = y ^^^ b0 := e
            rw [← xor_back x b0, e, xor_back])
          have hp := beq_iff_eq.1 hp
          show (lin f C (b ^^^ b0) == f C) = true
          rw [lin_xor, hp, ← he, Nat.zero_xor, beq_self_eq_true]
      rw [h2, rk_append_in hs, ← Nat.two_mul, Nat.mul_assoc, ih, Nat.pow_succ, Nat.mul_comm]
    · have h2 : cnt (fun b => lin f C b == f C) (2 ^ C) = 0 := cnt_none fun b hb => by
        rw [beq_eq_false_iff_ne]
        intro e
        exact hs ((hsp _).2 ⟨b, hb, e.symm⟩)
      rw [h2, Nat.add_zero, rk_append_out (by simpa using hs), Nat.pow_succ, ← Nat.mul_assoc, ih, Nat.pow_succ]
theorem range_getD (ys : List Nat) : (List.range ys.length).map (fun j => ys.getD j 0) = ys := by
  apply List.ext_getElem
  · simp
  · intro i h1 h2
    simp [h2]
theorem nul_rank (ys : List Nat) : cnt (fun b => mulN ys ys.length b == 0) (2 ^ ys.length) * 2 ^ rk ys = 2 ^ ys.length := by
  have h := nul_span (fun j => ys.getD j 0) ys.length
  rw [range_getD] at h
  exact h
/-- The rows of in lie among those that out takes to nothing: the dimension is not negative. -/
theorem rk_ker_le {xs ys : List Nat} {C : Nat} (hC : C = ys.length) (hx : ∀ x ∈ xs, x < 2 ^ C) (hz : ∀ x ∈ xs, mulN ys C x = 0) : rk xs + rk ys ≤ C := by
  subst hC
  have h1 : 2 ^ rk xs ≤ cnt (fun b => mulN ys ys.length b == 0) (2 ^ ys.length) := by
    rw [← sz_rk hx]
    refine cnt_inj id (fun b hb hp => ⟨hb, ?_⟩) (fun _ _ _ _ _ _ e => e)
    refine beq_iff_eq.2 (span_ind (Q := fun b => mulN ys ys.length b = 0) (lin_zero _ _) ?_ hz hp)
    intro a b ha hb
    show lin _ _ _ = 0
    rw [lin_xor]
    have ha : lin _ _ _ = 0 := ha
    have hb : lin _ _ _ = 0 := hb
    rw [ha, hb]; rfl
  have h2 := nul_rank ys
  have h3 : 2 ^ (rk xs + rk ys) ≤ 2 ^ ys.length := by
    rw [Nat.pow_add, ← h2]
    exact Nat.mul_le_mul_right _ h1
  exact (Nat.pow_le_pow_iff_right (by omega)).1 h3
/-- .. and 0 if they are all of these. -/
theorem rk_ker_eq {xs ys : List Nat} (hz : ∀ x, x ∈ xs ↔ x < 2 ^ ys.length ∧ mulN ys ys.length x = 0) : rk xs + rk ys = ys.length := by
  have hx : ∀ x ∈ xs, x < 2 ^ ys.length := fun x h => ((hz x).1 h).1
  have h1 : 2 ^ rk xs = cnt (fun b => mulN ys ys.length b == 0) (2 ^ ys.length) := by
    rw [← sz_rk hx]
    refine cnt_congr fun b hb => ?_
    rw [Bool.eq_iff_iff, beq_iff_eq]
    constructor
    · intro h
      refine span_ind (Q := fun b => mulN ys ys.length b = 0) (lin_zero _ _) ?_ (fun x h => ((hz x).1 h).2) h
      intro a b ha hb
      show lin _ _ _ = 0
      rw [lin_xor]
      have ha : lin _ _ _ = 0 := ha
      have hb : lin _ _ _ = 0 := hb
      rw [ha, hb]; rfl
    · intro h
      exact span_mem ((hz b).2 ⟨hb, h⟩)
  have h2 := nul_rank ys
  rw [← h1, ← Nat.pow_add] at h2
  exact Nat.le_antisymm ((Nat.pow_le_pow_iff_right (by omega)).1 (Nat.le_of_eq h2)) ((Nat.pow_le_pow_iff_right (by omega)).1 (Nat.le_of_eq h2.symm))
end Go.Proofs.Ytlgiponfcmeiiaa
