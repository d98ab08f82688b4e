/- Plain law: iterating a map on numbers; the cyclic list from a start. -/
import Derived.Test.YtkopbcehfbmnmaaBase
namespace Go.Proofs.Ytkopbcehfbmnmaa
open Go Go.RowKit
/-- f, k times. -/
def iter (f : Nat → Nat) : Nat → Nat → Nat
  | 0, x => x
  | k + 1, x => f (iter f k x)
theorem iter_succ (f : Nat → Nat) (k x : Nat) : iter f (k + 1) x = f (iter f k x) := rfl
theorem iter_add (f : Nat → Nat) (a b x : Nat) : iter f (a + b) x = iter f a (iter f b x) := by
  induction a with
  | zero => simp [iter]
  | succ a ih => rw [Nat.add_right_comm, iter_succ, iter_succ, ih]
theorem iter_lt (f : Nat → Nat) (N : Nat) (hf : ∀ x, x < N → f x < N) (k x : Nat) (hx : x < N) : iter f k x < N := by
  induction k with
  | zero => exact hx
  | succ k ih => exact hf _ ih
/-- The first p iterates from s on. -/
def orb (f : Nat → Nat) (s p : Nat) : List Nat := (List.range p).map fun j => iter f j s
/-- Natural numbers as numbers. -/
def nats (l : List Nat) : List Int := l.map Int.ofNat
theorem nats_length (l : List Nat) : (nats l).length = l.length := by simp [nats]
theorem nats_snoc (l : List Nat) (x : Nat) : nats l ++ [(x : Int)] = nats (l ++ [x]) := by simp [nats]
theorem nth_nats (l : List Nat) (i : Nat) (h : i < l.length) : nth (nats l) i = ((l.getD i 0 : Nat) : Int) := by simp [nth, nats, h]
theorem orb_length (f : Nat → Nat) (s p : Nat) : (orb f s p).length = p := by simp [orb]
theorem orb_succ (f : Nat → Nat) (s p : Nat) : orb f s (p + 1) = orb f s p ++ [iter f p s] := by simp [orb, List.range_succ]
theorem orb_getD (f : Nat → Nat) (s p i : Nat) (h : i < p) : (orb f s p).getD i 0 = iter f i s := by simp [orb, h]
/-- p is the length of the cycle of s. -/
def IsPer (f : Nat → Nat) (s p : Nat) : Prop := 0 < p ∧ iter f p s = s ∧ ∀ j, 0 < j → j < p → iter f j s ≠ s
end Go.Proofs.Ytkopbcehfbmnmaa
