/- The walk of the law GftwoRows: all ways. -/
import Derived.Test.YtlgiponfcmeiiaaLRowY
namespace Go.Proofs.Ytlgiponfcmeiiaa
open Go Go.RowKit
theorem wf_u8 {k : Int} (h : (Lit.int .u8 k).wf = true) : 0 ≤ k ∧ k ≤ 255 := by
  simp only [Lit.wf, Bool.and_eq_true, decide_eq_true_eq] at h
  have h1 : IntKind.u8.min = 0 := rfl
  have h2 : IntKind.u8.max = 255 := rfl
  rw [h1, h2] at h; exact h
theorem lrow_any (C : Int) (T : List (List Int)) (a : Option Addr) (c : Nat) (p q : Int) (w : World) (hC : (Lit.int .i64 C).wf = true) (hT : TabAt w a T) (hp : (Lit.int .u8 p).wf = true) (hq : (Lit.int .u8 q).wf = true) :
    Calls Try.prog 4 #[.int .i64 C, .slice a T.length c, .int .u8 p, .int .u8 q] w fun e w' => e = .returned (.bool true) ∧ Below w.heap.size w w' := by
  by_cases hs : smallB C T = true
  · by_cases hn : T.length < 2
    · exact lrow_n C T a c p q w hs hn hT
    · by_cases hv : vldM C T = true
      · by_cases h9 : 39 < C
        · exact lrow_c C T a c p q w hs hn hC hv h9 hT
        · have hl := (smallB_iff.1 hs).1.1
          obtain ⟨n, xs, h1, h2, _, _, hxl⟩ := vld_tab hv
          have hp := wf_u8 hp
          have hq := wf_u8 hq
          obtain ⟨p', rfl⟩ : ∃ p' : Nat, p = (p' : Int) := ⟨p.toNat, by omega⟩
          obtain ⟨q', rfl⟩ : ∃ q' : Nat, q = (q' : Int) := ⟨q.toNat, by omega⟩
          subst h1
          subst h2
          rw [tabN_len] at *
          exact lrow_y n xs a c p' q' w (by omega) (by omega) hs (by omega) hl (by omega) hxl hT
      · exact lrow_v C T a c p q w hs hn hC (Bool.eq_false_iff.2 hv) hT
  · exact lrow_s C T a c p q w (Bool.eq_false_iff.2 hs) hT
end Go.Proofs.Ytlgiponfcmeiiaa
