/- The walk of quandle.gcd. -/
import Derived.Test.YtlgiponfcmeiiaaDoorGrd
namespace Go.Proofs.YtlgiponfcmeiiaaDoor
open Go Go.RowKit
set_option maxRecDepth 100000 in
set_option maxHeartbeats 4000000 in
theorem gcd_any (x y : Nat) (w : World) (hx : x ≤ 1000) (hy : y ≤ 1000) :
    Calls Tryd.prog 24 #[.int .i64 (x : Int), .int .i64 (y : Int)] w fun e w' => e = .returned (.int .i64 (Nat.gcd x y : Nat)) ∧ Below w.heap.size w w' := by
  obtain ⟨G, hG⟩ : ∃ G, G = Nat.gcd x y := ⟨_, rfl⟩
  rw [← hG]
  have HG := Lib.hid hG
  clear hG
  go_enter Tryd.func24, Tryd.ntmps24
  go_wp2_with fail
  go_loopg [0, 1] y (fun g s0 s1 wr => ∃ (p q : Nat), p ≤ 1000 ∧ q ≤ 1000 ∧ q = g ∧ s0 = .int .i64 (p : Int) ∧ s1 = .int .i64 (q : Int) ∧ Nat.gcd p q = G ∧ Below w.heap.size w wr)
  case atStart => exact ⟨x, y, hx, hy, rfl, rfl, rfl, HG.out.symm, Below.refl _ _⟩
  case round =>
    obtain ⟨p, q, hp, hq, rfl, rfl, rfl, hg, hb⟩ := hrel
    have Hb := Lib.hid hb
    clear hb
    have Hg := Lib.hid hg
    clear hg
    by_cases h0 : q = 0
    · subst h0
      obtain rfl : p = G := by rw [← Hg.out, Nat.gcd_zero_right]
      go_wp2_with fail
      go_ret
      exact ⟨rfl, Hb.out⟩
    · have d1 : ((q : Int) != 0) = true := by rw [bne_iff_ne]; omega
      have d2 : (q != 0) = true := by rw [bne_iff_ne]; exact h0
      have hq0 : (q : Int) ≠ 0 := by omega
      have Hg2 : Hid (Nat.gcd q (p % q) = G) := Lib.hid (by rw [← Hg.out, Nat.gcd_comm p q, Nat.gcd_rec q p, Nat.gcd_comm])
      have hlt : p % q < q := Nat.mod_lt _ (by omega)
      obtain ⟨r, hr⟩ : ∃ r, r = p % q := ⟨_, rfl⟩
      rw [← hr] at Hg2 hlt
      have e1 : (p : Int) % (q : Int) = (r : Int) := by rw [hr]; exact (Int.natCast_emod _ _).symm
      have e2 : (p : Int).tmod (q : Int) = (r : Int) := by rw [Int.tmod_eq_emod_of_nonneg (by omega)]; exact e1
      clear hr
      go_wp2_with fail
      go_quiet (fail)
      go_wp2_with fail
      go_roundg r
      case measure => omega
      case rel => exact ⟨q, r, hq, by omega, rfl, rfl, rfl, Hg2.out, below_drewNN Hb.out _⟩
end Go.Proofs.YtlgiponfcmeiiaaDoor
