/- Plain law: what diagram.cycles computes. -/
import Derived.Test.YtkopbcehfbmnmaaIter0
namespace Go.Proofs.Ytkopbcehfbmnmaa
open Go Go.RowKit
/-- The places on a list are marked. -/
def markL (l : List Nat) (s : List Bool) : List Bool := l.foldl (fun s x => s.set x true) s
theorem markL_snoc (l : List Nat) (x : Nat) (s : List Bool) : markL (l ++ [x]) s = (markL l s).set x true := by simp [markL]
theorem markL_length (l : List Nat) (s : List Bool) : (markL l s).length = s.length := by
  induction l generalizing s with
  | nil => rfl
  | cons x l ih => rw [markL, List.foldl_cons]; exact (ih _).trans (by simp)
theorem bth_markL (l : List Nat) (s : List Bool) (i : Nat) (hi : i < s.length) : bth (markL l s) i = (bth s i || l.contains i) := by
  induction l generalizing s with
  | nil => simp [markL]
  | cons x l ih =>
    have := ih (s.set x true) (by simpa using hi)
    rw [show markL (x :: l) s = markL l (s.set x true) from rfl, this, List.contains_cons]
    by_cases e : x = i
    · subst e
      rw [bth_set _ _ _ _ hi, if_pos rfl]; simp
    · have : bth (s.set x true) i = bth s i := by
        unfold bth; rw [List.getD_eq_getElem?_getD, List.getD_eq_getElem?_getD, List.getElem?_set_ne e]
      rw [this]
      have e2 : (i == x) = false := by simpa using fun h => e h.symm
      rw [e2]; simp
/-- One round: at h. -/
def cyRound (f per : Nat → Nat) (wb : Nat → Bool) (h : Nat) (st : List Bool × List (List Nat)) : List Bool × List (List Nat) :=
  if bth st.1 h = true then st else if wb h = true then (markL (orb f h (per h)) st.1, st.2 ++ [orb f h (per h)]) else st
/-- The first k rounds. -/
def cyTo (f per : Nat → Nat) (wb : Nat → Bool) (N : Nat) : Nat → List Bool × List (List Nat)
  | 0 => (List.replicate N false, [])
  | k + 1 => cyRound f per wb k (cyTo f per wb N k)
/-- The lists. -/
def cycs (f per : Nat → Nat) (wb : Nat → Bool) (N : Nat) : List (List Nat) := (cyTo f per wb N N).2
theorem cyTo_len1 (f per : Nat → Nat) (wb : Nat → Bool) (N k : Nat) : (cyTo f per wb N k).1.length = N := by
  induction k with
  | zero => simp [cyTo]
  | succ k ih =>
    rw [cyTo, cyRound]
    split
    · exact ih
    · split
      · simpa [markL_length] using ih
      · exact ih
theorem cyTo_len2 (f per : Nat → Nat) (wb : Nat → Bool) (N k : Nat) : (cyTo f per wb N k).2.length ≤ k := by
  induction k with
  | zero => simp [cyTo]
  | succ k ih =>
    rw [cyTo, cyRound]
    split
    · omega
    · split
      · simp; omega
      · omega
end Go.Proofs.Ytkopbcehfbmnmaa
