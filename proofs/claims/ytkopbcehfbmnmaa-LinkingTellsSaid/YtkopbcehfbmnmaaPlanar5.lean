/- Plain law: on a sphere each even set of edges bounds: the theorem. -/
import Derived.Test.YtkopbcehfbmnmaaPlanar4
namespace Go.Proofs.Ytkopbcehfbmnmaa
open Go Go.RowKit
section
variable {M : List Int} {n c0 : Nat} (hm : Mates M n)
include hm
open Classical in
/-- The primal forest has at least as many edges as there are crossings, less one. -/
theorem primal_count (hc0 : c0 < n) : VC M n c0 ≤ cnt (isTree (mt M) (fun x => x / 4) (EE M n c0)) (4 * n) + 1 := by
  have hU : ∀ k, EE M n c0 k = true → UU M c0 k = true := fun k h => by
    unfold EE at h; rw [Bool.and_eq_true] at h; exact h.1
  have hr := roots_count (m := mt M) (v := fun x => x / 4) (E := EE M n c0) (W := fun c => decide (c < n) && decide (Conn M c0 c)) (N := 4 * n) (B := n) (fun k hk hE => by
    have hu := UU_iff.1 (hU k hE)
    have hlt := hm.lt hk
    simp only [Bool.and_eq_true, decide_eq_true_eq]
    exact ⟨⟨by omega, hu⟩, ⟨by omega, (hm.conn hk).1 hu⟩⟩) (fun y hy => by
    simp only [Bool.and_eq_true, decide_eq_true_eq] at hy; exact hy.1) (4 * n) (Nat.le_refl _)
  have hV : cnt (fun c => decide (c < n) && decide (Conn M c0 c)) n = VC M n c0 := by
    show _ = cnt _ _
    refine cnt_congr fun y hy => ?_
    rw [decide_eq_true hy, Bool.true_and]
  have hconst := part_const hm hc0 (fun x => labn (mt M) (fun x => x / 4) (EE M n c0) (4 * n) (x / 4)) (fun x hx hu => primal_joined hm x hx hu) (fun x hx hu => by rw [tn_div])
  have h1 := cnt_one (N := n) (p := fun c => (decide (c < n) && decide (Conn M c0 c)) && decide (labn (mt M) (fun x => x / 4) (EE M n c0) (4 * n) c = c)) (fun x y hx hy hp hq => by
    simp only [Bool.and_eq_true, decide_eq_true_eq] at hp hq
    have a := hconst (4 * x) (by omega) (UU_iff.2 (by rw [show 4 * x / 4 = x from by omega]; exact hp.1.2))
    have b := hconst (4 * y) (by omega) (UU_iff.2 (by rw [show 4 * y / 4 = y from by omega]; exact hq.1.2))
    rw [show 4 * x / 4 = x from by omega, hp.2] at a
    rw [show 4 * y / 4 = y from by omega, hq.2] at b
    rw [a, b])
  omega
end
end Go.Proofs.Ytkopbcehfbmnmaa
