/- Plain: what leaves the rank of a list of rows alone, and what adds one to it. No condition. -/
import Derived.Test.YtlgiponfcmeiiaaMulP
namespace Go.Proofs.Ytlgiponfcmeiiaa
open Go Go.RowKit
theorem rk_snoc (xs : List Nat) (v : Nat) : rk (xs ++ [v]) = rk (v :: xs) := rk_perm (List.perm_append_comm (l₁ := xs) (l₂ := [v]))
theorem rk_twice {xs : List Nat} {i : Nat} (h : i < xs.length) : rk (xs ++ [xs.getD i 0]) = rk xs := by
  rw [rk_snoc, rk_append_in (span_mem (getD_mem h))]
theorem rk_fresh {C y : Nat} {xs : List Nat} (hx : ∀ x ∈ xs, x < 2 ^ C) (hy : y < 2 ^ C) : rk (xs ++ [2 ^ C ^^^ y]) = rk xs + 1 := by
  rw [rk_snoc, rk_append_out]
  rw [← Bool.not_eq_true]
  intro h
  have h1 := Nat.testBit_lt_two_pow (span_lt hx h)
  rw [Nat.testBit_xor, Nat.testBit_lt_two_pow hy] at h1
  simp at h1
theorem getD_set' (xs : List Nat) {i j : Nat} (x : Nat) (h : i < xs.length) : (xs.set i x).getD j 0 = if i = j then x else xs.getD j 0 := getD_set xs i j x h
theorem mem_set_or {xs : List Nat} {i x v : Nat} (h : v ∈ xs.set i x) : v = x ∨ v ∈ xs := by
  rcases List.mem_or_eq_of_mem_set h with e | e
  · exact .inr e
  · exact .inl e
theorem rk_sum {xs : List Nat} {i k : Nat} (hi : i < xs.length) (hk : k < xs.length) (hne : i ≠ k) : rk (xs.set i (xs.getD i 0 ^^^ xs.getD k 0)) = rk xs := by
  refine rk_eq (fun v hv => ?_) (fun v hv => ?_)
  · rcases mem_set_or hv with e | e
    · rw [e]; exact span_xor (span_mem (getD_mem hi)) (span_mem (getD_mem hk))
    · exact span_mem e
  · obtain ⟨j, hj, rfl⟩ := mem_getD hv
    have hget : ∀ t, t < xs.length → spanB (xs.set i (xs.getD i 0 ^^^ xs.getD k 0)) ((xs.set i (xs.getD i 0 ^^^ xs.getD k 0)).getD t 0) = true := fun t ht => span_mem (getD_mem (by rw [List.length_set]; exact ht))
    by_cases e : i = j
    · subst e
      have h1 := hget i hi
      have h2 := hget k hk
      rw [getD_set _ _ _ _ hi, if_pos rfl] at h1
      rw [getD_set _ _ _ _ hi, if_neg hne] at h2
      have := span_xor h1 h2
      rwa [xor_back] at this
    · have h1 := hget j hj
      rwa [getD_set _ _ _ _ hi, if_neg e] at h1
theorem rk_swap {xs : List Nat} {i k : Nat} (hi : i < xs.length) (hk : k < xs.length) : rk ((xs.set i (xs.getD k 0)).set k (xs.getD i 0)) = rk xs := by
  have hk' : k < (xs.set i (xs.getD k 0)).length := by rw [List.length_set]; exact hk
  refine rk_eq (fun v hv => ?_) (fun v hv => ?_)
  · rcases mem_set_or hv with e | e
    · rw [e]; exact span_mem (getD_mem hi)
    · rcases mem_set_or e with g | g
      · rw [g]; exact span_mem (getD_mem hk)
      · exact span_mem g
  · obtain ⟨j, hj, rfl⟩ := mem_getD hv
    have hget : ∀ t, t < xs.length → spanB ((xs.set i (xs.getD k 0)).set k (xs.getD i 0)) (((xs.set i (xs.getD k 0)).set k (xs.getD i 0)).getD t 0) = true := fun t ht => span_mem (getD_mem (by rw [List.length_set, List.length_set]; exact ht))
    by_cases e : k = j
    · subst e
      have h1 := hget i hi
      rw [getD_set _ _ _ _ hk', getD_set _ _ _ _ hi, if_pos rfl] at h1
      by_cases g : k = i
      · subst g; rwa [if_pos rfl] at h1
      · rwa [if_neg g] at h1
    · by_cases g : i = j
      · subst g
        have h1 := hget k hk
        rwa [getD_set _ _ _ _ hk', if_pos rfl] at h1
      · have h1 := hget j hj
        rwa [getD_set _ _ _ _ hk', if_neg e, getD_set _ _ _ _ hi, if_neg g] at h1
/-- A column more changes no row. -/
theorem rowOf_more {C x : Nat} (h : x < 2 ^ C) : rowOf (C + 1) x = rowOf C x := by
  refine (asc_eq (C := ((C + 1 : Nat) : Int)) (rowOf_asc (C + 1) x) ?_ ?_)
  · have := rowOf_asc C x
    exact ⟨this.1, fun y hy => by have := this.2 y hy; omega⟩
  · rw [bit_rowOf h, bit_rowOf (Nat.lt_of_lt_of_le h (Nat.pow_le_pow_right (by omega) (by omega)))]
theorem tabN_more {C : Nat} {xs : List Nat} (h : ∀ x ∈ xs, x < 2 ^ C) : tabN (C + 1) xs = tabN C xs := List.map_congr_left fun x hx => rowOf_more (h x hx)
theorem rowOf_fresh {C y : Nat} (h : y < 2 ^ C) : rowOf (C + 1) (2 ^ C ^^^ y) = rowOf C y ++ [(C : Int)] := by
  have hlt : 2 ^ C ^^^ y < 2 ^ (C + 1) := Nat.xor_lt_two_pow (Nat.pow_lt_pow_right (by omega) (by omega)) (Nat.lt_of_lt_of_le h (Nat.pow_le_pow_right (by omega) (by omega)))
  refine asc_ext (C := ((C + 1 : Nat) : Int)) (rowOf_asc (C + 1) _) ?_ fun c => ?_
  · have := rowOf_asc C y
    refine ⟨?_, fun z hz => ?_⟩
    · rw [List.pairwise_append]
      refine ⟨this.1, List.pairwise_singleton _ _, fun a ha b hb => ?_⟩
      obtain rfl := List.mem_singleton.1 hb
      exact (this.2 a ha).2
    · rcases List.mem_append.1 hz with e | e
      · have := this.2 z e; omega
      · obtain rfl := List.mem_singleton.1 e
        omega
  · rw [mem_rowOf, List.mem_append, mem_rowOf, List.mem_singleton, Nat.testBit_xor, Nat.testBit_two_pow]
    constructor
    · rintro ⟨h0, h1, h2⟩
      by_cases e : c = (C : Int)
      · exact .inr e
      · left
        refine ⟨h0, by omega, ?_⟩
        rw [decide_eq_false (by omega), Bool.false_xor] at h2
        exact h2
    · rintro (⟨h0, h1, h2⟩ | rfl)
      · refine ⟨h0, by omega, ?_⟩
        rw [decide_eq_false (by omega), Bool.false_xor]
        exact h2
      · refine ⟨by omega, by omega, ?_⟩
        rw [Int.toNat_natCast, decide_eq_true rfl, Nat.testBit_lt_two_pow h]
        rfl
end Go.Proofs.Ytlgiponfcmeiiaa
