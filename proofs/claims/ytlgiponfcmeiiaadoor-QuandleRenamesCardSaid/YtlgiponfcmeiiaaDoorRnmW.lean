/- The walk of the renaming within the law QuandleRenames. -/
import Derived.Test.YtlgiponfcmeiiaaDoorRnmQ
import Derived.Test.YtlgiponfcmeiiaaDoorRAffW
namespace Go.Proofs.YtlgiponfcmeiiaaDoor
open Go Go.RowKit
theorem nm_num (n k t x : Nat) (hk : k ≤ 30) (ht : t ≤ 255) (hx : x < 30) : ∃ A V : Nat, wrap64 ((k : Int) * x) = (A : Int) ∧ wrap64 ((A : Int) + t) = (V : Int) ∧ wrap64 ((k : Int) * x + t) = (V : Int) ∧ (V : Int).tmod n = ((nmV n k t x : Nat) : Int) ∧ (V : Int) % n = ((nmV n k t x : Nat) : Int) := by
  have h1 : k * x ≤ 30 * 30 := Nat.mul_le_mul (by omega) (by omega)
  have h0 : (k : Int) * x = ((k * x : Nat) : Int) := (Int.natCast_mul k x).symm
  refine ⟨k * x, k * x + t, ?_, ?_, ?_, ?_, ?_⟩
  · rw [h0, wrap_mid (by omega) (by omega)]
  · rw [wrap_mid (by omega) (by omega)]; exact (Int.natCast_add _ _).symm
  · rw [h0, wrap_mid (by omega) (by omega)]; exact (Int.natCast_add _ _).symm
  · rw [Int.tmod_eq_emod_of_nonneg (by omega)]; exact (Int.natCast_emod _ _).symm
  · exact (Int.natCast_emod _ _).symm
set_option maxRecDepth 100000 in
set_option maxHeartbeats 4000000 in
theorem name_any (bk bb bn n k t x : Nat) (w : World) (hn : 1 ≤ n) (hk : k ≤ 30) (ht : t ≤ 255) (hx : x < 30) (h1 : w.cell? ⟨bk, 0, none⟩ = some (.int .i64 (k : Int))) (h2 : w.cell? ⟨bb, 0, none⟩ = some (.int .u8 (t : Int))) (h3 : w.cell? ⟨bn, 0, none⟩ = some (.int .i64 (n : Int))) :
    Calls Tryd.prog 22 #[.int .i64 (x : Int), .pointer (some ⟨bk, 0, none⟩), .pointer (some ⟨bb, 0, none⟩), .pointer (some ⟨bn, 0, none⟩)] w fun e w' => e = .returned (.int .i64 (nmV n k t x : Nat)) ∧ w' = w := by
  obtain ⟨A, V, g1, g2, g3, g4, g5⟩ := nm_num n k t x hk ht hx
  have hn0 : (n : Int) ≠ 0 := by omega
  have hn00 : n ≠ 0 := by omega
  generalize nmV n k t x = r at *
  go_enter Tryd.func22, Tryd.ntmps22
  go_wp2_with fail
  go_ret
  exact ⟨rfl, rfl⟩
end Go.Proofs.YtlgiponfcmeiiaaDoor
