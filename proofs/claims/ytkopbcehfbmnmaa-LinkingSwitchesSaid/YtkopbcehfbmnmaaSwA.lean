/- Plain laws of one switched crossing. -/
import Derived.Test.YtkopbcehfbmnmaaMirA
namespace Go.Proofs.Ytkopbcehfbmnmaa
open Go Go.RowKit
theorem sw_one (g : Nat → Int) (k n : Nat) (hk : k < n) : wsum (fun c => g c * swS (fun c => decide (c = k)) c) n = wsum g n - 2 * g k := by
  have h1 := wsum_add g (fun c => if c = k then -2 * g k else 0) n
  rw [wsum_one, if_pos hk] at h1
  rw [wsum_congr (h := fun c => g c + if c = k then -2 * g k else 0), h1]
  · omega
  · intro c _
    show g c * swS (fun c => decide (c = k)) c = _
    unfold swS
    by_cases e : c = k
    · subst e; simp; omega
    · simp [e]
theorem sw_wr (S : List Int) (k : Nat) (hk : k < S.length) : wr (mulS S (swS fun c => decide (c = k))) = wr S - 2 * nth S k := by
  rw [wr_mul, sw_one (nth S) k _ hk]; rfl
theorem sw_tl {S M : List Int} {L : Int} (hv : vldB S M L = true) (k : Nat) (hk : k < S.length) :
    (tl (mulS S (swS fun c => decide (c = k))) (mvL (trn (swB S fun c => decide (c = k))) M)).tdiv 2 = (tl S M).tdiv 2 - (if lkB S M k = true then nth S k else 0) := by
  rw [tl_mul hv (ex_valid hv _) (trn_iso (vldB_shape hv).len _ fun c => (swB_bd S _ c).1) (trn_div _)]
  have he := tl_even hv
  rw [wsum_congr (h := fun c => (fun c => if lkB S M c = true then nth S c else 0) c * swS (fun c => decide (c = k)) c), sw_one _ k _ hk]
  · change (tl S M - 2 * _).tdiv 2 = _
    generalize tl S M = t at *
    generalize (if lkB S M k = true then nth S k else 0) = s
    obtain ⟨q, rfl⟩ : ∃ q, t = 2 * q := ⟨t / 2, by omega⟩
    rw [show 2 * q - 2 * s = 2 * (q - s) from by omega, Int.mul_tdiv_cancel_left _ (by decide), Int.mul_tdiv_cancel_left _ (by decide)]
  · intro c _
    show (if lkB S M c = true then _ else 0) = (if lkB S M c = true then nth S c else 0) * _
    split
    · rfl
    · rw [Int.zero_mul]
theorem own_lk {S M : List Int} {L : Int} (hv : vldB S M L = true) (k : Nat) (hk : k < S.length) : lkB S M k = decide ((ownF (strandsL S M L) k).1 ≠ (ownF (strandsL S M L) k).2) := by
  rw [ownF_eq hv k hk]
  unfold lkB
  have h := ix_eq (vldB_shape hv) (x := 4 * k + 2) (y := 4 * k + 1) (by omega) (by omega)
  by_cases g : ix S M (4 * k + 2) = ix S M (4 * k + 1)
  · have g2 := h.1 g
    rw [decide_eq_false (by simp [g2]), decide_eq_false (by simp [g])]
  · have g2 : ¬ st S M (4 * k + 2) = st S M (4 * k + 1) := fun e => g (h.2 e)
    rw [decide_eq_true (by simpa using g2), decide_eq_true (by
      show ¬ ((ix S M (4 * k + 2) : Int) = (ix S M (4 * k + 1) : Int))
      omega)]
end Go.Proofs.Ytkopbcehfbmnmaa
