/- What MirrorUndoes counts. -/
import Derived.Test.YtkopbcehfbmnmaaFaceN
import Derived.Test.YtkopbcehfbmnmaaRevB
import Derived.Test.YtkopbcehfbmnmaaLinkFW
namespace Go.Proofs.Ytkopbcehfbmnmaa
open Go Go.RowKit
section
variable {S M : List Int} {L : Int} (hv : vldB S M L = true)
include hv
theorem strands_many : (strandsL S M L).length = (leasts S M).length := by rw [strandsL_leasts hv, List.length_map]
theorem comps_nat : ∃ N : Nat, compsN S M L = (N : Int) ∧ N ≤ 1000 ∧ (strandsL S M L).length ≤ N := by
  have hs := vldB_shape hv
  have h1 := (strandsL_lists hv).few
  have h2 := hs.few
  have h3 := hs.lo
  have h4 := hs.hi
  have h5 : compsN S M L = ((strandsL S M L).length : Int) + L := if_pos hv
  exact ⟨(strandsL S M L).length + L.toNat, by omega, by omega, by omega⟩
theorem op_iso (kind q : Nat) : ∃ e, Iso M (mvL (opT S kind q) M) S.length (opT S kind q) e := by
  have hl := (vldB_shape hv).len
  unfold opT
  split
  · exact ⟨1, trn_iso hl _ fun c => (swB_bd S _ c).1⟩
  · split
    · exact ⟨-1, rfl4_iso hl⟩
    · split
      · exact ⟨1, trn_iso hl _ fun c => by omega⟩
      · exact ⟨1, trn_iso hl _ fun c => (swB_bd S _ c).1⟩
theorem comps_op (kind q : Nat) : compsN (mulS S (opG kind q)) (mvL (opT S kind q) M) L = compsN S M L := by
  have hv' := op_valid hv kind q
  obtain ⟨e, hi⟩ := op_iso hv kind q
  have := Iso.leasts_eq (vldB_shape hv) (vldB_shape hv') (mulS_len _ _) hi
  rw [compsN, compsN, if_pos hv, if_pos hv', strands_many hv, strands_many hv', this]
theorem comps_rone (i : Nat) : compsN (mulS S (r1S S M i)) (mvL (trn (r1B S M i)) M) L = compsN S M L := by
  have hv' := r1_valid hv i
  have := Iso.leasts_eq (vldB_shape hv) (vldB_shape hv') (mulS_len _ _) (r1_iso hv i)
  rw [compsN, compsN, if_pos hv, if_pos hv', strands_many hv, strands_many hv', this]
end
end Go.Proofs.Ytkopbcehfbmnmaa
