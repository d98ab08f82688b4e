/- Plain law: what mirror.move computes. -/
import Derived.Test.YtkopbcehfbmnmaaIso0
namespace Go.Proofs.Ytkopbcehfbmnmaa
open Go Go.RowKit
/-- The mates, moved: the first k. -/
def mvTo (τ : Nat → Nat) (M : List Int) : Nat → List Int
  | 0 => List.replicate M.length 0
  | k + 1 => (mvTo τ M k).set (τ k) ((τ (mt M k) : Nat) : Int)
/-- .. all. -/
def mvL (τ : Nat → Nat) (M : List Int) : List Int := mvTo τ M M.length
theorem mvTo_len (τ : Nat → Nat) (M : List Int) (k : Nat) : (mvTo τ M k).length = M.length := by
  induction k with
  | zero => simp [mvTo]
  | succ k ih => simp [mvTo, ih]
theorem mvL_len (τ : Nat → Nat) (M : List Int) : (mvL τ M).length = M.length := mvTo_len τ M _
theorem nth_mvTo {τ : Nat → Nat} {M : List Int} {N : Nat} (hN : M.length = N) (hτ : Inj τ N) (k : Nat) (hk : k ≤ N) (x : Nat) (hx : x < k) : nth (mvTo τ M k) (τ x) = ((τ (mt M x) : Nat) : Int) := by
  induction k with
  | zero => omega
  | succ k ih =>
    rw [mvTo, nth_set _ _ _ _ (by rw [mvTo_len, hN]; exact hτ.lt k (by omega))]
    by_cases e : τ k = τ x
    · have := hτ.inj k x (by omega) (by omega) e
      rw [if_pos e, this]
    · rw [if_neg e]
      refine ih (by omega) ?_
      rcases Nat.lt_or_ge x k with h | h
      · exact h
      · obtain rfl : x = k := by omega
        exact absurd rfl e
theorem nth_mvL {τ : Nat → Nat} {M : List Int} {N : Nat} (hN : M.length = N) (hτ : Inj τ N) (x : Nat) (hx : x < N) : nth (mvL τ M) (τ x) = ((τ (mt M x) : Nat) : Int) := nth_mvTo hN hτ _ (by omega) x (by omega)
/-- Same places, same list. -/
theorem mvTo_congr {τ σ : Nat → Nat} {M : List Int} {N : Nat} (hM : ∀ x, x < N → mt M x < N) (h : ∀ x, x < N → τ x = σ x) (k : Nat) (hk : k ≤ N) : mvTo τ M k = mvTo σ M k := by
  induction k with
  | zero => rfl
  | succ k ih => rw [mvTo, mvTo, ih (by omega), h k (by omega), h _ (hM k (by omega))]
theorem mvL_congr {τ σ : Nat → Nat} {M : List Int} {N : Nat} (hN : M.length = N) (hM : ∀ x, x < N → mt M x < N) (h : ∀ x, x < N → τ x = σ x) : mvL τ M = mvL σ M := mvTo_congr hM h _ (by omega)
/-- The slots turned, at each crossing by its own number. -/
def trn (b : Nat → Int) (x : Nat) : Nat := tn x (b (x / 4))
theorem trn_div (b : Nat → Int) (x : Nat) : trn b x / 4 = x / 4 := tn_div _ _
theorem tn_inj {x y : Nat} {a : Int} (ha : -4 ≤ a) (h : tn x a = tn y a) : x = y := by unfold tn at h; omega
theorem trn_inj (b : Nat → Int) (hb : ∀ c, -4 ≤ b c) (n : Nat) : Inj (trn b) (4 * n) := by
  refine ⟨fun x hx => tn_lt _ _ _ hx, fun x y hx hy he => ?_⟩
  have h1 := trn_div b x
  rw [he, trn_div] at h1
  unfold trn at he
  rw [h1] at he
  exact tn_inj (hb _) he
/-- A turning of the slots is a renaming. -/
theorem trn_iso {M : List Int} {n : Nat} (hM : M.length = 4 * n) (b : Nat → Int) (hb : ∀ c, -4 ≤ b c) : Iso M (mvL (trn b) M) n (trn b) 1 := by
  refine ⟨trn_inj b hb n, fun x hx => nth_mvL hM (trn_inj b hb n) x hx, fun x hx => ?_, .inl rfl⟩
  unfold trn
  rw [tn_div, tn_tn _ _ _ (by omega) (hb _) (by have := hb (x / 4); omega), tn_tn _ _ _ (hb _) (by omega) (by have := hb (x / 4); omega), Int.add_comm]
/-- The slots 1 and 3 exchanged. -/
def rfl4 (x : Nat) : Nat := tn x (4 - 2 * ((x % 4 : Nat) : Int))
theorem rfl4_val (x : Nat) : rfl4 x = 4 * (x / 4) + (4 - x % 4) % 4 := by unfold rfl4 tn; omega
theorem rfl4_inj (n : Nat) : Inj rfl4 (4 * n) := by
  refine ⟨fun x hx => tn_lt _ _ _ hx, fun x y hx hy he => ?_⟩
  rw [rfl4_val, rfl4_val] at he
  omega
theorem rfl4_iso {M : List Int} {n : Nat} (hM : M.length = 4 * n) : Iso M (mvL rfl4 M) n rfl4 (-1) := by
  refine ⟨rfl4_inj n, fun x hx => nth_mvL hM (rfl4_inj n) x hx, fun x hx => ?_, .inr rfl⟩
  rw [rfl4_val, rfl4_val]
  have h1 := tn_div x 1
  have h2 := tn_mod x 1
  have h3 : tn (4 * (x / 4) + (4 - x % 4) % 4) (-1) = 4 * (x / 4) + ((4 - x % 4) % 4 + 3) % 4 := by unfold tn; omega
  rw [h3]
  omega
/-- The signs, each multiplied. -/
def mulS (S : List Int) (g : Nat → Int) : List Int := (List.range S.length).map fun c => nth S c * g c
theorem mulS_len (S : List Int) (g : Nat → Int) : (mulS S g).length = S.length := by simp [mulS]
theorem nth_mulS (S : List Int) (g : Nat → Int) (c : Nat) (hc : c < S.length) : nth (mulS S g) c = nth S c * g c := by simp [nth, mulS, hc]
end Go.Proofs.Ytkopbcehfbmnmaa
