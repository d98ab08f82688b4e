/- Plain law: the example of the chapter. -/
import Derived.Test.YtmjoijfafachhaaPrmP
import Derived.Test.YtmjoijfafachhaaNugP
namespace Go.Proofs.Ytmjoijfafachhaa
open Go Go.RowKit
def kS : List Int := [1]
def kM : List Int := [1, 0, 3, 2]
def tS : List Int := [1, 1]
def tM : List Int := [5, 4, 3, 2, 1, 0, 7, 6]
theorem kink_valid : vldB kS kM 0 = true := by decide +kernel
theorem two_valid : vldB tS tM 0 = true := by decide +kernel
theorem kink_out : outB kS 1 = true := by decide +kernel
theorem two_is : crossL (uniM kM kM) 1 (kM.length + 1) = tM := by decide +kernel
theorem two_cuts : cutsL tS tM = [(1, 5)] := by decide +kernel
theorem kink_cuts : cutsL kS kM = [] := by decide +kernel
theorem back_is : crossL tM 1 5 = [1, 0, 3, 2, 5, 4, 7, 6] := by decide +kernel
theorem grp_two : grpOf tM tS.length = [[0, 1]] := by
  rw [← rgroups_eq (vldB_shape two_valid).mates]
  decide +kernel
theorem back_valid : vldB tS [1, 0, 3, 2, 5, 4, 7, 6] 0 = true := by decide +kernel
theorem grp_back : grpOf [1, 0, 3, 2, 5, 4, 7, 6] tS.length = [[0], [1]] := by
  rw [← rgroups_eq (vldB_shape back_valid).mates]
  decide +kernel
theorem cls_back (c : Nat) (hc : c < tS.length) : clsN [1, 0, 3, 2, 5, 4, 7, 6] tS.length c = [c] := by
  have h := grp_has (vldB_shape back_valid).mates c hc
  rw [grp_back] at h
  have hs : c ∈ clsN [1, 0, 3, 2, 5, 4, 7, 6] tS.length c := cls_self hc
  have hc2 : c < 2 := hc
  simp only [List.mem_cons, List.not_mem_nil, or_false] at h
  rcases h with h | h
  · rw [h] at hs ⊢
    have : c = 0 := List.mem_singleton.1 hs
    rw [this]
  · rw [h] at hs ⊢
    have : c = 1 := List.mem_singleton.1 hs
    rw [this]
theorem facA_two : facA tS tM 1 5 = (kS, kM, 0) := by
  unfold facA ptD
  rw [back_is, show 1 / 4 = 0 from rfl, cls_back 0 (by decide)]
  decide +kernel
theorem facB_two : facB tS tM 1 5 = (kS, kM, 0) := by
  unfold facB ptD
  rw [back_is, show 5 / 4 = 1 from rfl, cls_back 1 (by decide)]
  decide +kernel
theorem split_two : splitL tS tM 0 = [(tS, tM, 0)] := by
  unfold splitL
  rw [grp_two]
  decide +kernel
theorem factors_two : factorsL tS tM 0 = [(kS, kM, 0), (kS, kM, 0)] := by
  unfold factorsL primesL
  rw [split_two]
  show primeL tS tM 0 ++ [] = _
  rw [primeL_cons two_valid two_cuts, facA_two, facB_two, List.append_nil]
  show primeL kS kM 0 ++ primeL kS kM 0 = _
  rw [primeL_none kink_cuts]; rfl
theorem nug_kink : nugL kS kM = [0] := by
  have h : nugB (leftL kM kS.length) 0 = true := by
    rw [nugB_iff]
    decide +kernel
  show nugTo (leftL kM kS.length) (0 + 1) = [0]
  rw [nugTo_yes h]; rfl
end Go.Proofs.Ytmjoijfafachhaa
