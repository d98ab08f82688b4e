/- Plain law: a knot smoothed. -/
import Derived.Test.YtkopbcehfbmnmaaSmoothB
import Derived.Test.YtkopbcehfbmnmaaRefMatW
namespace Go.Proofs.Ytkopbcehfbmnmaa
open Go Go.RowKit
theorem leasts_pos {S M : List Int} {L : Int} (hs : Shape S M L) (hn : 0 < S.length) : 0 < (leasts S M).length := by
  have := ix_lt hs (x := 0) (by omega)
  omega
theorem strands_leasts {S M : List Int} {L : Int} (hv : vldB S M L = true) : (strandsL S M L).length = (leasts S M).length := by rw [strandsL_leasts hv, List.length_map]
/-- The components behind a smoothing. -/
theorem sm_comps {S M : List Int} {L : Int} (hv : vldB S M L = true) {c : Nat} (hc : c < S.length) (L' : Int) (h0 : 0 ≤ L') (h1 : L' ≤ 64) :
    ((strandsL (smS S c) (smM S M c) L').length : Int) + (newL M (pS S c) c : Nat) = ((strandsL S M L).length : Int) + (if st S M (4 * c + 2) = st S M (4 * c + 1) then 1 else -1) := by
  have hs := vldB_shape hv
  have hv' := sm_valid hs hc hv L' h0 h1
  have hct := sm_count hs hc (vldB_shape (sm_valid hs hc hv L hs.lo hs.hi))
  have hp := leasts_pos hs (by omega)
  rw [strands_leasts hv, strands_leasts hv']
  by_cases e : st S M (4 * c + 2) = st S M (4 * c + 1)
  · rw [if_pos e] at hct ⊢; omega
  · rw [if_neg e] at hct ⊢; omega
theorem knot_smooth {S M : List Int} {L : Int} (hv : vldB S M L = true) {c : Nat} (hc : c < S.length) (h1 : compsN S M L = 1) :
    vldB (smS S c) (smM S M c) (L + (newL M (pS S c) c : Nat)) = true ∧ compsN (smS S c) (smM S M c) (L + (newL M (pS S c) c : Nat)) = 2 ∧ L + (newL M (pS S c) c : Nat) ≤ 64 ∧
    matE (smS S c) (ownF (strandsL (smS S c) (smM S M c) (L + (newL M (pS S c) c : Nat)))) 0 0 + matE (smS S c) (ownF (strandsL (smS S c) (smM S M c) (L + (newL M (pS S c) c : Nat)))) 1 1 + 2 * matE (smS S c) (ownF (strandsL (smS S c) (smM S M c) (L + (newL M (pS S c) c : Nat)))) 0 1 = wr S - nth S c := by
  have hs := vldB_shape hv
  have hp := leasts_pos hs (by omega)
  have hl := hs.lo
  rw [compsN, if_pos hv, strands_leasts hv] at h1
  have hnl := newL_le M (pS S c) c
  have hL : L = 0 := by omega
  have hle : (leasts S M).length = 1 := by omega
  have hst : st S M (4 * c + 2) = st S M (4 * c + 1) := by
    have a := ix_lt hs (x := 4 * c + 2) (by omega)
    have b := ix_lt hs (x := 4 * c + 1) (by omega)
    exact (ix_eq hs (by omega) (by omega)).1 (by omega)
  have hv' := sm_valid hs hc hv (L + (newL M (pS S c) c : Nat)) (by omega) (by omega)
  have hcm := sm_comps hv hc (L + (newL M (pS S c) c : Nat)) (by omega) (by omega)
  rw [if_pos hst, strands_leasts hv] at hcm
  have hc2 : ((strandsL (smS S c) (smM S M c) (L + (newL M (pS S c) c : Nat))).length : Int) + (L + (newL M (pS S c) c : Nat)) = 2 := by omega
  refine ⟨hv', by rw [compsN, if_pos hv']; exact hc2, by omega, ?_⟩
  have hw := writhe_sq hv' 2 (by omega)
  rw [writhe_wr, smS_wr S c hc] at hw
  rw [hw]
  generalize strandsL (smS S c) (smM S M c) (L + (newL M (pS S c) c : Nat)) = ls
  have hcom := matE_comm (smS S c) (ownF ls) 1 0
  simp only [sqTo, rowTo]
  omega
end Go.Proofs.Ytkopbcehfbmnmaa
