/- Plain law: what diagram.label computes, as functions on lists. -/
import Derived.Test.YtkopbcehfbmnmaaBase
namespace Go.Proofs.Ytkopbcehfbmnmaa
open Go Go.RowKit
/-- One slot of a crossing that is taken off the queue: the crossing to which it leads gets the number, and is queued, unless it has one. -/
def lbVisit (M : List Int) (parts : Int) (x : Int) (s : Nat) (st : List Int × List Int) : List Int × List Int :=
  if nth st.1 (nth M (4 * x.toNat + s) / 4).toNat < 0 then (st.1.set (nth M (4 * x.toNat + s) / 4).toNat parts, st.2 ++ [nth M (4 * x.toNat + s) / 4]) else st
/-- The first k slots. -/
def lbSlots (M : List Int) (parts : Int) (x : Int) : Nat → List Int × List Int → List Int × List Int
  | 0, st => st
  | k + 1, st => lbVisit M parts x k (lbSlots M parts x k st)
/-- The queue is worked off, in at most g rounds. -/
def lbQueue (M : List Int) (parts : Int) : Nat → List Int × List Int → Option (List Int)
  | _, (part, []) => some part
  | 0, (_, _ :: _) => none
  | g + 1, (part, x :: q) => lbQueue M parts g (lbSlots M parts x 4 (part, q))
/-- One round of the outer loop, at crossing c. -/
def lbRound (M : List Int) (fuel : Nat) (c : Nat) (st : List Int × Int) : Option (List Int × Int) :=
  if 0 ≤ nth st.1 c then some st else (lbQueue M st.2 fuel (st.1.set c st.2, [(c : Int)])).map fun part => (part, st.2 + 1)
/-- The outer loop, k rounds from crossing c on. -/
def lbOuter (M : List Int) (fuel : Nat) : Nat → Nat → List Int × Int → Option (List Int × Int)
  | 0, _, st => some st
  | k + 1, c, st => (lbRound M fuel c st).bind (lbOuter M fuel k (c + 1))
theorem lbVisit_len1 (M : List Int) (ps x : Int) (s : Nat) (st : List Int × List Int) : (lbVisit M ps x s st).1.length = st.1.length := by
  unfold lbVisit; split <;> simp
theorem lbSlots_len1 (M : List Int) (ps x : Int) (k : Nat) (st : List Int × List Int) : (lbSlots M ps x k st).1.length = st.1.length := by
  induction k with
  | zero => rfl
  | succ k ih => rw [lbSlots, lbVisit_len1, ih]
theorem lbVisit_len2 (M : List Int) (ps x : Int) (s : Nat) (st : List Int × List Int) : st.2.length ≤ (lbVisit M ps x s st).2.length ∧ (lbVisit M ps x s st).2.length ≤ st.2.length + 1 := by
  unfold lbVisit; split <;> simp
theorem lbSlots_len2 (M : List Int) (ps x : Int) (k : Nat) (st : List Int × List Int) : st.2.length ≤ (lbSlots M ps x k st).2.length ∧ (lbSlots M ps x k st).2.length ≤ st.2.length + k := by
  induction k with
  | zero => simp [lbSlots]
  | succ k ih => rw [lbSlots]; have := lbVisit_len2 M ps x k (lbSlots M ps x k st); omega
theorem lbQueue_fuel (M : List Int) (ps : Int) : ∀ (g : Nat) (st : List Int × List Int) (r : List Int), lbQueue M ps g st = some r → st.2.length ≤ g ∧ r.length = st.1.length
  | g, (part, []), r, h => by
    cases g <;> (simp only [lbQueue, Option.some.injEq] at h; subst h; simp)
  | 0, (part, x :: q), r, h => by simp [lbQueue] at h
  | g + 1, (part, x :: q), r, h => by
    rw [lbQueue] at h
    obtain ⟨h1, h2⟩ := lbQueue_fuel M ps g _ r h
    have := lbSlots_len2 M ps x 4 (part, q)
    have h3 := lbSlots_len1 M ps x 4 (part, q)
    simp only [List.length_cons] at *
    exact ⟨by omega, by omega⟩
theorem lbVisit_range (M : List Int) (ps x : Int) (s : Nat) (st : List Int × List Int) (n : Nat) (hr : ∀ i, i < 4 * n → 0 ≤ nth M i ∧ nth M i < 4 * (n : Int)) (hx : x.toNat < n) (hs : s < 4) (h : ∀ y ∈ st.2, 0 ≤ y ∧ y < (n : Int)) : ∀ y ∈ (lbVisit M ps x s st).2, 0 ≤ y ∧ y < (n : Int) := by
  unfold lbVisit
  split
  · intro y hy
    simp only [List.mem_append, List.mem_singleton] at hy
    rcases hy with hy | rfl
    · exact h y hy
    · have := hr (4 * x.toNat + s) (by omega); omega
  · exact h
theorem lbSlots_range (M : List Int) (ps x : Int) (k : Nat) (st : List Int × List Int) (n : Nat) (hr : ∀ i, i < 4 * n → 0 ≤ nth M i ∧ nth M i < 4 * (n : Int)) (hx : x.toNat < n) (hk : k ≤ 4) (h : ∀ y ∈ st.2, 0 ≤ y ∧ y < (n : Int)) : ∀ y ∈ (lbSlots M ps x k st).2, 0 ≤ y ∧ y < (n : Int) := by
  induction k with
  | zero => exact h
  | succ k ih => exact lbVisit_range M ps x k _ n hr hx (by omega) (ih (by omega))
end Go.Proofs.Ytkopbcehfbmnmaa
