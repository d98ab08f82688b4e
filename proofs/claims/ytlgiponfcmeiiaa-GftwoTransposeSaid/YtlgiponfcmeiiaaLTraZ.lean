/- The walk of the law GftwoTranspose: all ways. -/
import Derived.Test.YtlgiponfcmeiiaaLTraE
import Derived.Test.YtlgiponfcmeiiaaLTra3
import Derived.Test.YtlgiponfcmeiiaaLTra4
namespace Go.Proofs.Ytlgiponfcmeiiaa
open Go Go.RowKit
theorem ltra_any (C : Int) (T : List (List Int)) (a : Option Addr) (c : Nat) (D : Int) (U : List (List Int)) (b : Option Addr) (d : Nat) (w : World) (hC : (Lit.int .i64 C).wf = true) (hT : TabAt w a T) (hD : (Lit.int .i64 D).wf = true) (hU : TabAt w b U) :
    Calls Try.prog 9 #[.int .i64 C, .slice a T.length c, .int .i64 D, .slice b U.length d] w fun e w' => e = .returned (.bool true) ∧ Below w.heap.size w w' := by
  by_cases hs : smallB C T = true
  · by_cases hs2 : smallB D U = true
    · by_cases h3 : 30 < C ∧ C ≤ 65536
      · exact ltra_s3 C T a c D U b d w hs hs2 h3 hT hU
      · have hl := (smallB_iff.1 hs).1.1
        have hr := (smallB_iff.1 hs).2
        have hl2 := (smallB_iff.1 hs2).1.1
        have hr2 := (smallB_iff.1 hs2).2
        by_cases hv : vldM C T = true
        · have hc4 := (vldM_iff.1 hv).1
          obtain ⟨n, xs, h1, h2, hn6, _, hxl⟩ := vld_tab hv
          have hxs : T.length = xs.length := by rw [h2, tabN_len]
          by_cases hv2 : vldM D U = true
          · obtain ⟨m, ys, k1, k2, hm6, _, hyl⟩ := vld_tab hv2
            have hys : U.length = ys.length := by rw [k2, tabN_len]
            by_cases heq : n = ys.length
            · by_cases hM : 30 < m
              · exact ltra_3 C T a c D U b d w hs hs2 n xs h1 h2 hxl (by omega) m ys k1 k2 hyl hm6 heq hM hT hU
              · exact ltra_4 C T a c D U b d w hs hs2 n xs h1 h2 hxl (by omega) m ys k1 k2 hyl hm6 heq (by omega) hT hU
            · refine ltra_e C T a c D U b d w hs hs2 n xs h1 h2 hxl (by omega) 2 (by decide) (fun W' h => ?_) hT hU
              have hT' : TabAt W' a (tabN n xs) := by rw [← h2]; exact hT.later h
              have hU' : TabAt W' b (tabN m ys) := by rw [← k2]; exact hU.later h
              rw [hxs, hys, h1, k1]
              exact mul_no n m xs ys hn6 hm6 (by omega) (by omega) a b c d W' hT' hU' heq
          · exact ltra_e C T a c D U b d w hs hs2 n xs h1 h2 hxl (by omega) 1 (by decide) (fun W' h => mul_bad C D T U a b c d W' (by omega) (fun l hl => by have := hr l hl; omega) (by omega) (fun l hl => by have := hr2 l hl; omega) (wf_lo hC) (wf_lo hD) (hT.later h) (hU.later h) (fun e => hv2 e.2)) hT hU
        · have hv := Bool.eq_false_iff.2 hv
          rcases Int.lt_or_le 65536 C with g | g
          · exact ltra_b2 C T a c D U b d w hs hs2 hC hD hv g hT hU
          · exact ltra_b1 C T a c D U b d w hs hs2 hC hD hv (by omega) hT hU
    · exact ltra_s2 C T a c D U b d w hs (Bool.eq_false_iff.2 hs2) hT hU
  · exact ltra_s1 C T a c D U b d w (Bool.eq_false_iff.2 hs) hT hU
end Go.Proofs.Ytlgiponfcmeiiaa
