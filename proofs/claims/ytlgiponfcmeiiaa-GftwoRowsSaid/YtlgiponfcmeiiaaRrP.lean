/- Plain: elimination, column by column. -/
import Derived.Test.YtlgiponfcmeiiaaDenW
namespace Go.Proofs.Ytlgiponfcmeiiaa
open Go Go.RowKit
theorem getD_get {xs : List Nat} {i : Nat} (h : i < xs.length) : xs[i]? = some (xs.getD i 0) := by simp [h]
theorem getD_mem {xs : List Nat} {i : Nat} (h : i < xs.length) : xs.getD i 0 ∈ xs := List.mem_of_getElem? (getD_get h)
theorem mem_getD {xs : List Nat} {x : Nat} (h : x ∈ xs) : ∃ i, i < xs.length ∧ xs.getD i 0 = x := by
  obtain ⟨i, hi, rfl⟩ := List.getElem_of_mem h
  exact ⟨i, hi, by simp [hi]⟩
theorem getD_set (xs : List Nat) (i j x : Nat) (h : i < xs.length) : (xs.set i x).getD j 0 = if i = j then x else xs.getD j 0 := by
  rw [List.getD_eq_getElem?_getD, List.getD_eq_getElem?_getD, List.getElem?_set]
  by_cases e : i = j
  · subst e; simp [h]
  · simp [e]
/-- r rows have their first bits before column c, each another one; the others have none there. -/
structure Ech (C : Nat) (xs0 xs : List Nat) (r c : Nat) : Prop where
  len : xs.length = xs0.length
  rle : r ≤ xs.length
  lt : ∀ x ∈ xs, x < 2 ^ C
  sp1 : ∀ x ∈ xs, spanB xs0 x = true
  sp2 : ∀ x ∈ xs0, spanB xs x = true
  ld : ∃ p : Nat → Nat, (∀ i, i < r → Lead (xs.getD i 0) (p i) ∧ p i < c) ∧ ∀ i j, i < j → j < r → p i ≠ p j
  zr : ∀ i, r ≤ i → i < xs.length → ∀ k, k < c → (xs.getD i 0).testBit k = false
theorem Ech.zero {C : Nat} {xs : List Nat} (h : ∀ x ∈ xs, x < 2 ^ C) : Ech C xs xs 0 0 :=
  ⟨rfl, Nat.zero_le _, h, fun _ => span_mem, fun _ => span_mem, ⟨fun _ => 0, fun i hi => absurd hi (Nat.not_lt_zero i), fun _ j _ hj => absurd hj (Nat.not_lt_zero j)⟩, fun _ _ _ k hk => absurd hk (Nat.not_lt_zero k)⟩
theorem Ech.skip {C : Nat} {xs0 xs : List Nat} {r c : Nat} (h : Ech C xs0 xs r c) (hz : ∀ i, r ≤ i → i < xs.length → (xs.getD i 0).testBit c = false) : Ech C xs0 xs r (c + 1) := by
  obtain ⟨p, h1, h2⟩ := h.ld
  refine ⟨h.len, h.rle, h.lt, h.sp1, h.sp2, ⟨p, fun i hi => ⟨(h1 i hi).1, by have := (h1 i hi).2; omega⟩, h2⟩, fun i h3 h4 k hk => ?_⟩
  by_cases e : k = c
  · rw [e]; exact hz i h3 h4
  · exact h.zr i h3 h4 k (by omega)
theorem Ech.swap {C : Nat} {xs0 xs : List Nat} {r c p : Nat} (h : Ech C xs0 xs r c) (hr : r ≤ p) (hp : p < xs.length) : Ech C xs0 ((xs.set p (xs.getD r 0)).set r (xs.getD p 0)) r c := by
  have hrl : r < xs.length := by omega
  have hg : ∀ j, ((xs.set p (xs.getD r 0)).set r (xs.getD p 0)).getD j 0 = if r = j then xs.getD p 0 else if p = j then xs.getD r 0 else xs.getD j 0 := fun j => by
    rw [getD_set _ _ _ _ (by rw [List.length_set]; exact hrl), getD_set _ _ _ _ hp]
  have hm : ∀ x, x ∈ ((xs.set p (xs.getD r 0)).set r (xs.getD p 0)) → x ∈ xs := fun x hx => by
    obtain ⟨j, hj, rfl⟩ := mem_getD hx
    rw [List.length_set, List.length_set] at hj
    rw [hg]
    split
    · exact getD_mem hp
    · split
      · exact getD_mem hrl
      · exact getD_mem hj
  have hm2 : ∀ x, x ∈ xs → x ∈ ((xs.set p (xs.getD r 0)).set r (xs.getD p 0)) := fun x hx => by
    obtain ⟨j, hj, rfl⟩ := mem_getD hx
    have key : ∀ i, i < xs.length → ((xs.set p (xs.getD r 0)).set r (xs.getD p 0)).getD i 0 ∈ ((xs.set p (xs.getD r 0)).set r (xs.getD p 0)) := fun i hi => getD_mem (by rw [List.length_set, List.length_set]; exact hi)
    generalize (xs.set p (xs.getD r 0)).set r (xs.getD p 0) = S at hg key ⊢
    by_cases e1 : j = r
    · have := key p hp
      rw [hg] at this
      by_cases e2 : r = p
      · rw [if_pos e2] at this; rw [e1, e2]; exact this
      · rw [if_neg e2, if_pos rfl] at this; rw [e1]; exact this
    · by_cases e2 : j = p
      · have := key r hrl
        rw [hg, if_pos rfl] at this
        rw [e2]; exact this
      · have := key j hj
        rw [hg, if_neg (fun e => e1 e.symm), if_neg (fun e => e2 e.symm)] at this
        exact this
  obtain ⟨q, h1, h2⟩ := h.ld
  refine ⟨by rw [List.length_set, List.length_set]; exact h.len, by rw [List.length_set, List.length_set]; exact h.rle, fun x hx => h.lt x (hm x hx), fun x hx => h.sp1 x (hm x hx), fun x hx => ?_, ⟨q, fun i hi => ?_, h2⟩, fun i h3 h4 k hk => ?_⟩
  · exact span_le (fun v hv => span_mem (hm2 v hv)) (h.sp2 x hx)
  · rw [hg, if_neg (by omega), if_neg (by omega)]; exact h1 i hi
  · rw [List.length_set, List.length_set] at h4
    rw [hg]
    split
    · exact h.zr p hr hp k hk
    · split
      · exact h.zr r (Nat.le_refl _) hrl k hk
      · exact h.zr i h3 h4 k hk
/-- The elimination under way: the rows behind r, before i, have no bit in column c. -/
structure Mid (C : Nat) (xs0 xs : List Nat) (r c i : Nat) : Prop where
  ech : Ech C xs0 xs r c
  rlt : r < xs.length
  bit : (xs.getD r 0).testBit c = true
  zer : ∀ j, r < j → j < i → j < xs.length → (xs.getD j 0).testBit c = false
theorem Mid.keep {C : Nat} {xs0 xs : List Nat} {r c i : Nat} (h : Mid C xs0 xs r c i) (hi : (xs.getD i 0).testBit c = false) : Mid C xs0 xs r c (i + 1) :=
  ⟨h.ech, h.rlt, h.bit, fun j h1 h2 h3 => by
    by_cases e : j = i
    · rw [e]; exact hi
    · exact h.zer j h1 (by omega) h3⟩
theorem Mid.add {C : Nat} {xs0 xs : List Nat} {r c i : Nat} (h : Mid C xs0 xs r c i) (hri : r < i) (hil : i < xs.length) (hi : (xs.getD i 0).testBit c = true) : Mid C xs0 (xs.set i (xs.getD i 0 ^^^ xs.getD r 0)) r c (i + 1) := by
  have hg := fun j => getD_set xs i j (xs.getD i 0 ^^^ xs.getD r 0) hil
  obtain ⟨q, h1, h2⟩ := h.ech.ld
  have hm : ∀ x, x ∈ xs.set i (xs.getD i 0 ^^^ xs.getD r 0) → x = xs.getD i 0 ^^^ xs.getD r 0 ∨ x ∈ xs := fun x hx => by
    obtain ⟨j, hj, rfl⟩ := mem_getD hx
    rw [List.length_set] at hj
    rw [hg]
    split
    · exact .inl rfl
    · exact .inr (getD_mem hj)
  have hk : ∀ j, j ≠ i → j < xs.length → xs.getD j 0 ∈ xs.set i (xs.getD i 0 ^^^ xs.getD r 0) := fun j hj hjl => by
    have := getD_mem (xs := xs.set i (xs.getD i 0 ^^^ xs.getD r 0)) (i := j) (by rw [List.length_set]; exact hjl)
    rw [hg, if_neg (fun e => hj e.symm)] at this
    exact this
  have hs2 : ∀ x, x ∈ xs → spanB (xs.set i (xs.getD i 0 ^^^ xs.getD r 0)) x = true := fun x hx => by
    obtain ⟨j, hj, rfl⟩ := mem_getD hx
    by_cases e : j = i
    · have a1 : spanB (xs.set i (xs.getD i 0 ^^^ xs.getD r 0)) (xs.getD i 0 ^^^ xs.getD r 0) = true := span_mem (by
        have := getD_mem (xs := xs.set i (xs.getD i 0 ^^^ xs.getD r 0)) (i := i) (by rw [List.length_set]; exact hil)
        rwa [hg, if_pos rfl] at this)
      have a2 : spanB (xs.set i (xs.getD i 0 ^^^ xs.getD r 0)) (xs.getD r 0) = true := span_mem (hk r (by omega) h.rlt)
      have := span_xor a1 a2
      rw [xor_back] at this
      rw [e]; exact this
    · exact span_mem (hk j e hj)
  refine ⟨⟨by rw [List.length_set]; exact h.ech.len, by rw [List.length_set]; exact h.ech.rle, fun x hx => ?_, fun x hx => ?_, fun x hx => span_le (fun v hv => hs2 v hv) (h.ech.sp2 x hx), ⟨q, fun j hj => ?_, h2⟩, fun j h3 h4 k hk' => ?_⟩, by rw [List.length_set]; exact h.rlt, ?_, fun j h3 h4 h5 => ?_⟩
  · rcases hm x hx with e | e
    · rw [e]; exact Nat.xor_lt_two_pow (h.ech.lt _ (getD_mem hil)) (h.ech.lt _ (getD_mem h.rlt))
    · exact h.ech.lt x e
  · rcases hm x hx with e | e
    · rw [e]; exact span_xor (h.ech.sp1 _ (getD_mem hil)) (h.ech.sp1 _ (getD_mem h.rlt))
    · exact h.ech.sp1 x e
  · rw [hg, if_neg (by omega)]; exact h1 j hj
  · rw [List.length_set] at h4
    rw [hg]
    split
    · rw [Nat.testBit_xor, h.ech.zr i (by omega) hil k hk', h.ech.zr r (Nat.le_refl _) h.rlt k hk']; rfl
    · exact h.ech.zr j h3 h4 k hk'
  · rw [hg, if_neg (by omega)]; exact h.bit
  · rw [List.length_set] at h5
    rw [hg]
    split
    · rw [Nat.testBit_xor, hi, h.bit]; rfl
    · exact h.zer j h3 (by omega) h5
theorem Mid.done {C : Nat} {xs0 xs : List Nat} {r c i : Nat} (h : Mid C xs0 xs r c i) (hi : xs.length ≤ i) : Ech C xs0 xs (r + 1) (c + 1) := by
  obtain ⟨q, h1, h2⟩ := h.ech.ld
  have hz := h.ech.zr r (Nat.le_refl _) h.rlt
  refine ⟨h.ech.len, h.rlt, h.ech.lt, h.ech.sp1, h.ech.sp2, ⟨fun j => if j = r then c else q j, fun j hj => ?_, fun j k hjk hk => ?_⟩, fun j h3 h4 k hk => ?_⟩
  · show Lead _ (if j = r then c else q j) ∧ (if j = r then c else q j) < c + 1
    by_cases e : j = r
    · rw [if_pos e, e]; exact ⟨⟨h.bit, fun k hk => hz k hk⟩, by omega⟩
    · rw [if_neg e]
      have := h1 j (by omega)
      exact ⟨this.1, by omega⟩
  · show (if j = r then c else q j) ≠ if k = r then c else q k
    rw [if_neg (by omega)]
    by_cases e : k = r
    · rw [if_pos e]; have := (h1 j (by omega)).2; omega
    · rw [if_neg e]; exact h2 j k hjk (by omega)
  · by_cases e : k = c
    · rw [e]; exact h.zer j (by omega) (by omega) h4
    · exact h.ech.zr j (by omega) h4 k (by omega)
open Classical in
theorem Ech.rank {C : Nat} {xs0 xs : List Nat} {r : Nat} (h : Ech C xs0 xs r C) : rk xs0 = r := by
  obtain ⟨p, h1, h2⟩ := h.ld
  have hrk : rk xs0 = rk xs := rk_eq h.sp2 h.sp1
  have htk : rk xs = rk (xs.take r) := rk_eq (fun v hv => by
    obtain ⟨i, hi, rfl⟩ := mem_getD hv
    rcases Nat.lt_or_ge i r with g | g
    · refine span_mem (List.mem_of_getElem? (i := i) ?_)
      rw [List.getElem?_take_of_lt g]; exact getD_get hi
    · have : xs.getD i 0 = 0 := Nat.eq_of_testBit_eq fun k => by
        rw [Nat.zero_testBit]
        rcases Nat.lt_or_ge k C with q | q
        · exact h.zr i g hi k q
        · exact Nat.testBit_lt_two_pow (Nat.lt_of_lt_of_le (h.lt _ (getD_mem hi)) (Nat.pow_le_pow_right (by omega) q))
      rw [this]; exact span_zero _) (fun v hv => span_mem (List.mem_of_mem_take hv))
  have hl : (xs.take r).length = r := by rw [List.length_take]; have := h.rle; omega
  have hget : ∀ i (hi : i < (xs.take r).length), (xs.take r)[i] = xs.getD i 0 := fun i hi => by
    have : i < xs.length := by rw [List.length_take] at hi; omega
    simp [this]
  have hld : rk (xs.take r) = (xs.take r).length := by
    refine rk_lead (ld := fun v => if hv : ∃ c, Lead v c then Classical.choose hv else 0) (fun v hv => ?_) ?_
    · obtain ⟨i, hi, rfl⟩ := List.getElem_of_mem hv
      rw [hget i hi]
      have hv : ∃ c, Lead (xs.getD i 0) c := ⟨_, (h1 i (by omega)).1⟩
      show Lead _ (if hv : ∃ c, Lead (xs.getD i 0) c then Classical.choose hv else 0)
      rw [dif_pos hv]
      exact Classical.choose_spec hv
    · rw [List.pairwise_iff_getElem]
      intro i j hi hj hij
      rw [hget i hi, hget j hj]
      have hvi : ∃ c, Lead (xs.getD i 0) c := ⟨_, (h1 i (by omega)).1⟩
      have hvj : ∃ c, Lead (xs.getD j 0) c := ⟨_, (h1 j (by omega)).1⟩
      show (if hv : ∃ c, Lead (xs.getD i 0) c then Classical.choose hv else 0) ≠ if hv : ∃ c, Lead (xs.getD j 0) c then Classical.choose hv else 0
      rw [dif_pos hvi, dif_pos hvj, (Classical.choose_spec hvi).eq (h1 i (by omega)).1, (Classical.choose_spec hvj).eq (h1 j (by omega)).1]
      exact h2 i j hij (by omega)
  rw [hrk, htk, hld, hl]
end Go.Proofs.Ytlgiponfcmeiiaa
