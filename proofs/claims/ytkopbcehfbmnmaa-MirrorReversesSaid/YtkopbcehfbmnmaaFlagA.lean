/- The flags that ReverseOne sets along a strand. -/
import Derived.Test.YtkopbcehfbmnmaaStrandA
namespace Go.Proofs.Ytkopbcehfbmnmaa
open Go Go.RowKit
def setF (p : Nat) (bs : List Bool) (h : Nat) : List Bool := if h % 2 = p then bs.set (h / 4) true else bs
theorem setF_len (p : Nat) (bs : List Bool) (h : Nat) : (setF p bs h).length = bs.length := by unfold setF; split <;> simp
theorem foldF_len (p : Nat) : ∀ (l : List Nat) (bs : List Bool), (l.foldl (setF p) bs).length = bs.length := by
  intro l
  induction l with
  | nil => intro bs; rfl
  | cons h l ih => intro bs; rw [List.foldl_cons, ih, setF_len]
theorem setF_at (p : Nat) (bs : List Bool) (h c : Nat) (hc : c < bs.length) : bth (setF p bs h) c = (bth bs c || decide (h / 4 = c ∧ h % 2 = p)) := by
  unfold setF
  by_cases g : h % 2 = p
  · rw [if_pos g]
    by_cases e : h / 4 = c
    · subst e
      rw [decide_eq_true ⟨rfl, g⟩, Bool.or_true]
      simp [bth, hc]
    · rw [decide_eq_false (fun k => e k.1), Bool.or_false]
      simp [bth, e]
  · rw [if_neg g, decide_eq_false (fun k => g k.2), Bool.or_false]
theorem foldF_at (p c : Nat) : ∀ (l : List Nat) (bs : List Bool), c < bs.length → bth (l.foldl (setF p) bs) c = (bth bs c || l.any fun h => decide (h / 4 = c ∧ h % 2 = p)) := by
  intro l
  induction l with
  | nil => intro bs _; simp
  | cons h l ih =>
    intro bs hc
    rw [List.foldl_cons, ih _ (by rw [setF_len]; exact hc), setF_at p bs h c hc, List.any_cons, Bool.or_assoc]
end Go.Proofs.Ytkopbcehfbmnmaa
