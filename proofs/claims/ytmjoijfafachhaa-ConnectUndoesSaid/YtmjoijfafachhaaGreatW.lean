/- law07's great: is a diagram beyond the limits of the statements? -/
import Derived.Test.YtmjoijfafachhaaSumC
namespace Go.Proofs.Ytmjoijfafachhaa
open Go Go.RowKit
def greatB (S M : List Int) (L : Int) : Bool := decide (14 < S.length) || (decide (60 < M.length) || (decide (10 < L) && decide (L ≤ 64)))
theorem greatB_no {S M : List Int} {L : Int} (h : greatB S M L = false) : S.length ≤ 14 ∧ M.length ≤ 60 := by
  unfold greatB at h
  simp only [Bool.or_eq_false_iff, decide_eq_false_iff_not] at h
  omega
set_option maxRecDepth 100000 in
set_option maxHeartbeats 2000000 in
theorem great_any (S M : List Int) (L : Int) (aS aM : Option Addr) (cS cM : Nat) (w : World) :
    Calls Try.prog 13 #[.agg #[.slice aS S.length cS, .slice aM M.length cM, .int .i64 L]] w fun e w' => e = .returned (.bool (greatB S M L)) ∧ Below w.heap.size w w' := by
  have H0 := Lib.hid ((HH.start w).alloc #[.slice aS S.length cS, .slice aM M.length cM, .int .i64 L] 24 rfl rfl)
  have HG : Hid (greatB S M L = (decide (14 < S.length) || (decide (60 < M.length) || (decide (10 < L) && decide (L ≤ 64))))) := Lib.hid rfl
  rw [HG.out]
  clear HG
  generalize S.length = n at *
  generalize M.length = m at *
  go_enter Try.func13, Try.ntmps13
  by_cases h1 : 14 < n
  · have d1 : decide ((14 : Int) < (n : Int)) = true := decide_eq_true (by omega)
    have d2 : decide (14 < n) = true := decide_eq_true h1
    rw [d2]
    go_wp2_with fail
    go_ret
    exact ⟨rfl, H0.out.below⟩
  · have d1 : decide ((14 : Int) < (n : Int)) = false := decide_eq_false (by omega)
    have d2 : decide (14 < n) = false := decide_eq_false h1
    rw [d2]
    by_cases h2 : 60 < m
    · have d3 : decide ((60 : Int) < (m : Int)) = true := decide_eq_true (by omega)
      have d4 : decide (60 < m) = true := decide_eq_true h2
      rw [d4]
      go_wp2_with fail
      go_ret
      exact ⟨rfl, H0.out.below⟩
    · have d3 : decide ((60 : Int) < (m : Int)) = false := decide_eq_false (by omega)
      have d4 : decide (60 < m) = false := decide_eq_false h2
      rw [d4]
      by_cases h3 : 10 < L
      · have d5 : decide (10 < L) = true := decide_eq_true h3
        rw [d5]
        go_wp2_with fail
        go_ret
        exact ⟨rfl, H0.out.below⟩
      · have d5 : decide (10 < L) = false := decide_eq_false h3
        rw [d5]
        go_wp2_with fail
        go_ret
        exact ⟨rfl, H0.out.below⟩
end Go.Proofs.Ytmjoijfafachhaa
