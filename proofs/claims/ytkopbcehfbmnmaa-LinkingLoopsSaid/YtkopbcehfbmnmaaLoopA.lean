/- Plain laws: a diagram with more loops. -/
import Derived.Test.YtkopbcehfbmnmaaStrandA
import Derived.Test.YtkopbcehfbmnmaaLinkPlainA
import Derived.Test.YtkopbcehfbmnmaaRefMatW
namespace Go.Proofs.Ytkopbcehfbmnmaa
open Go Go.RowKit
theorem loops_valid {S M : List Int} {L L' : Int} (hv : vldB S M L = true) (h0 : 0 ≤ L') (h1 : L' ≤ 64) : vldB S M L' = true := by
  rw [vldB_iff] at hv ⊢
  obtain ⟨⟨a, b, _, _, e, f⟩, h⟩ := hv
  exact ⟨⟨a, b, h0, h1, e, f⟩, h⟩
theorem loops_strands {S M : List Int} {L L' : Int} (hv : vldB S M L = true) (hv' : vldB S M L' = true) : strandsL S M L' = strandsL S M L := by
  unfold strandsL
  rw [if_pos hv, if_pos hv']
theorem matE_none {S M : List Int} {L : Int} (hv : vldB S M L = true) (i k : Nat) (h : (strandsL S M L).length ≤ i ∨ (strandsL S M L).length ≤ k) : matE S (ownF (strandsL S M L)) i k = 0 := by
  unfold matE
  rw [pr_none hv i k h]
  split <;> rfl
end Go.Proofs.Ytkopbcehfbmnmaa
