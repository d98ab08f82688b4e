/- The walk of the law GftwoMul: all ways. -/
import Derived.Test.YtlgiponfcmeiiaaLMulY
namespace Go.Proofs.Ytlgiponfcmeiiaa
open Go Go.RowKit
theorem lmul_any (C : Int) (T : List (List Int)) (a : Option Addr) (c : Nat) (D : Int) (U : List (List Int)) (b : Option Addr) (d : Nat) (w : World) (hC : (Lit.int .i64 C).wf = true) (hT : TabAt w a T) (hD : (Lit.int .i64 D).wf = true) (hU : TabAt w b U) :
    Calls Try.prog 8 #[.int .i64 C, .slice a T.length c, .int .i64 D, .slice b U.length d] w fun e w' => e = .returned (.bool true) ∧ Below w.heap.size w w' := by
  by_cases hs : smallB C T = true
  · by_cases hs2 : smallB D U = true
    · by_cases hv : vldM C T = true
      · by_cases hv2 : vldM D U = true
        · obtain ⟨n, xs, h1, h2, _, _, h3⟩ := vld_tab hv
          obtain ⟨m, ys, k1, k2, _, _, k3⟩ := vld_tab hv2
          by_cases heq : n = ys.length
          · exact lmul_y C T a c D U b d w hs hs2 hC hD hv hv2 n m xs ys h1 h2 h3 k1 k2 k3 heq hT hU
          · exact lmul_n C T a c D U b d w hs hs2 hC hD hv hv2 n m xs ys h1 h2 h3 k1 k2 k3 heq hT hU
        · exact lmul_b2 C T a c D U b d w hs hs2 hC hD hv (Bool.eq_false_iff.2 hv2) hT hU
      · exact lmul_b1 C T a c D U b d w hs hs2 hC hD (Bool.eq_false_iff.2 hv) hT hU
    · exact lmul_s2 C T a c D U b d w hs (Bool.eq_false_iff.2 hs2) hT hU
  · exact lmul_s1 C T a c D U b d w (Bool.eq_false_iff.2 hs) hT hU
end Go.Proofs.Ytlgiponfcmeiiaa
