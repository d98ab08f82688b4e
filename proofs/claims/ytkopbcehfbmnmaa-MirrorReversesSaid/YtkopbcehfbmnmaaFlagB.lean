/- The flags of strand i. -/
import Derived.Test.YtkopbcehfbmnmaaFlagA
import Derived.Test.YtkopbcehfbmnmaaRevA
namespace Go.Proofs.Ytkopbcehfbmnmaa
open Go Go.RowKit
section
variable {S M : List Int} {L : Int} (hv : vldB S M L = true) {i : Nat} {l : List Nat} (hl : (strandsL S M L)[i]? = some l)
include hv hl
theorem flag_any {p c : Nat} (hp : p = 0 ∨ p = 1) (hc : c < S.length) : bth (l.foldl (setF p) (List.replicate S.length false)) c = decide (ix S M (4 * c + 2 - p) = i) := by
  have hs := vldB_shape hv
  rw [foldF_at p c l _ (by simpa using hc)]
  have h0 : bth (List.replicate S.length false) c = false := by simp [bth, hc]
  rw [h0, Bool.false_or]
  rw [strandsL_leasts hv, List.getElem?_map] at hl
  obtain ⟨r, hr, rfl⟩ := Option.map_eq_some_iff.1 hl
  have hm : r ∈ leasts S M := List.mem_of_getElem? hr
  have h1 := any_pass hs hc hm hp
  have h2 := ix_iff hs (x := 4 * c + 2 - p) (k := i) (by omega)
  rw [hr] at h2
  by_cases g : ix S M (4 * c + 2 - p) = i
  · rw [decide_eq_true g]
    have := h2.1 g
    simp only [Option.some.injEq] at this
    exact h1.2 this.symm
  · rw [decide_eq_false g, Bool.eq_false_iff]
    exact fun e => g (h2.2 (by rw [h1.1 e]))
theorem flag_u {c : Nat} (hc : c < S.length) : bth (l.foldl (setF 0) (List.replicate S.length false)) c = uB S M i c := flag_any hv hl (.inl rfl) hc
theorem flag_o {c : Nat} (hc : c < S.length) : bth (l.foldl (setF 1) (List.replicate S.length false)) c = oB S M i c := flag_any hv hl (.inr rfl) hc
end
end Go.Proofs.Ytkopbcehfbmnmaa
