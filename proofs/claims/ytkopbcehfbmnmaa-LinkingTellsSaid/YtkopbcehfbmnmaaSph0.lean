/- Plain law: what diagram.spherical computes. -/
import Derived.Test.YtkopbcehfbmnmaaPerm0
import Derived.Test.YtkopbcehfbmnmaaOut0
import Derived.Test.YtkopbcehfbmnmaaLabel0
namespace Go.Proofs.Ytkopbcehfbmnmaa
open Go Go.RowKit
/-- The half-edge behind h around the face to its left. -/
def fc (M : List Int) (h : Nat) : Nat := tn (nth M h).toNat (-1)
/-- The first k crossings are taken off. -/
def exDec (part : List Int) : Nat → List Int → List Int
  | 0, ex => ex
  | k + 1, ex => (exDec part k ex).set (nth part k).toNat (nth (exDec part k ex) (nth part k).toNat - 1)
theorem exDec_len (part : List Int) (k : Nat) (ex : List Int) : (exDec part k ex).length = ex.length := by
  induction k with
  | zero => rfl
  | succ k ih => rw [exDec]; simpa using ih
theorem nth_replicate (n i : Nat) (x : Int) (h : i < n) : nth (List.replicate n x) i = x := by simp [nth, h]
theorem nth_rep0 (n i : Nat) : nth (List.replicate n 0) i = 0 := by
  rcases Nat.lt_or_ge i n with h | h
  · exact nth_replicate n i 0 h
  · exact nth_out _ _ (by simpa using h)
theorem exDec_bd (part : List Int) (m k : Nat) (i : Nat) : -(k : Int) ≤ nth (exDec part k (List.replicate m 0)) i ∧ nth (exDec part k (List.replicate m 0)) i ≤ 0 := by
  induction k with
  | zero => rw [exDec, nth_rep0]; omega
  | succ k ih =>
    rw [exDec]
    rcases Nat.lt_or_ge (nth part k).toNat (exDec part k (List.replicate m 0)).length with h | h
    · rw [nth_set _ _ _ _ h]
      by_cases e : (nth part k).toNat = i
      · rw [if_pos e, e]; omega
      · rw [if_neg e]; omega
    · rw [List.set_eq_of_length_le h]; omega
/-- One round: at the half-edge h. -/
def sfRound (f per : Nat → Nat) (part : List Int) (h : Nat) (st : List Bool × List Int) : List Bool × List Int :=
  if bth st.1 h = true then st else (markL (orb f h (per h)) st.1, st.2.set (nth part (h / 4)).toNat (nth st.2 (nth part (h / 4)).toNat + 1))
/-- The first k rounds. -/
def sfTo (f per : Nat → Nat) (part : List Int) (N : Nat) (ex : List Int) : Nat → List Bool × List Int
  | 0 => (List.replicate N false, ex)
  | k + 1 => sfRound f per part k (sfTo f per part N ex k)
theorem sfTo_len (f per : Nat → Nat) (part : List Int) (N : Nat) (ex : List Int) (k : Nat) : (sfTo f per part N ex k).1.length = N ∧ (sfTo f per part N ex k).2.length = ex.length := by
  induction k with
  | zero => simp [sfTo]
  | succ k ih =>
    rw [sfTo, sfRound]
    split
    · exact ih
    · simpa [markL_length] using ih
theorem sfTo_bd (f per : Nat → Nat) (part : List Int) (N : Nat) (ex : List Int) (lo : Int) (hex : ∀ i, lo ≤ nth ex i ∧ nth ex i ≤ 0) (k i : Nat) : lo ≤ nth (sfTo f per part N ex k).2 i ∧ nth (sfTo f per part N ex k).2 i ≤ k := by
  induction k with
  | zero => rw [sfTo]; have := hex i; simp only; omega
  | succ k ih =>
    rw [sfTo, sfRound]
    split
    · omega
    · simp only
      rcases Nat.lt_or_ge (nth part (k / 4)).toNat (sfTo f per part N ex k).2.length with h | h
      · rw [nth_set _ _ _ _ h]
        by_cases e : (nth part (k / 4)).toNat = i
        · rw [if_pos e, e]; omega
        · rw [if_neg e]; omega
      · rw [List.set_eq_of_length_le h]; omega
theorem bth_rep (N i : Nat) : bth (List.replicate N false) i = false := by
  rcases Nat.lt_or_ge i N with h | h <;> simp [bth, h]
/-- What is marked is made of whole cycles. -/
theorem sfTo_closed {f per : Nat → Nat} {N : Nat} (hf : Inj f N) (hp : ∀ x, x < N → IsPer f x (per x)) (part : List Int) (ex : List Int) (k : Nat) (hk : k ≤ N) :
    ∀ x y, x < N → OnOrb f x y → bth (sfTo f per part N ex k).1 y = bth (sfTo f per part N ex k).1 x := by
  induction k with
  | zero => intro x y _ _; rw [sfTo]; simp only; rw [bth_rep, bth_rep]
  | succ k ih =>
    intro x y hx ho
    have ih' := ih (by omega)
    have hl := (sfTo_len f per part N ex k).1
    have hy := onOrb_lt hf hx ho
    rw [sfTo, sfRound]
    split
    · exact ih' x y hx ho
    · simp only
      rw [bth_markL _ _ _ (by rw [hl]; exact hy), bth_markL _ _ _ (by rw [hl]; exact hx), ih' x y hx ho]
      congr 1
      have : (y ∈ orb f k (per k)) ↔ (x ∈ orb f k (per k)) := by
        rw [mem_orb (hp k (by omega)), mem_orb (hp k (by omega))]
        exact ⟨fun h => onOrb_trans h (onOrb_symm hf hx ho), fun h => onOrb_trans h ho⟩
      rw [Bool.eq_iff_iff]
      simpa using this
/-- Marking along the cycle of an unmarked half-edge: the next one is unmarked till the cycle closes. -/
theorem mark_along {f per : Nat → Nat} {N : Nat} (hf : Inj f N) (hp : ∀ x, x < N → IsPer f x (per x)) (part : List Int) (ex : List Int) (k : Nat) (hk : k < N) (hun : bth (sfTo f per part N ex k).1 k = false) (j : Nat) (hj : j ≤ per k) :
    bth (markL (orb f k j) (sfTo f per part N ex k).1) (iter f j k) = decide (j = per k) := by
  have hl := (sfTo_len f per part N ex k).1
  have hx := iter_lt f N hf.lt j k hk
  rw [bth_markL _ _ _ (by rw [hl]; exact hx), sfTo_closed hf hp part ex k (by omega) k _ hk ⟨j, rfl⟩, hun, Bool.false_or]
  by_cases e : j = per k
  · subst e
    have h0 := hp k hk
    rw [decide_eq_true rfl, h0.2.1]
    have : k ∈ orb f k (per k) := (mem_orb h0).2 (onOrb_refl f k)
    simpa using this
  · rw [decide_eq_false e]
    have : ¬ iter f j k ∈ orb f k j := by
      intro hm
      unfold orb at hm
      simp only [List.mem_map, List.mem_range] at hm
      obtain ⟨i, hi, he⟩ := hm
      exact iter_ne hf hk (hp k hk) hi (by omega) he
    simpa using this
/-- Does every number on the list read 2? -/
def allTwo (l : List Int) : Bool := l.all (· == 2)
/-- spherical's answer, the labels at hand. -/
def sphL (M : List Int) (n : Nat) (part : List Int) (parts : Nat) : Bool :=
  allTwo (sfTo (fc M) (perOf (fc M) (4 * n)) part (4 * n) (exDec part n (List.replicate parts 0)) (4 * n)).2
/-- .. and with the labels. -/
def sphB (M : List Int) (n : Nat) : Bool :=
  match lbOuter M 1000000 n 0 (List.replicate n (-1), 0) with
  | none => false
  | some (part, parts) => sphL M n part parts.toNat
end Go.Proofs.Ytkopbcehfbmnmaa
