/- 'make([]bool, n)'. -/
import Derived.Test.YtkopbcehfbmnmaaMoveW
namespace Go.Proofs.Ytkopbcehfbmnmaa
open Go Go.RowKit
theorem run_mkB (n : Nat) (hn : n ≤ 1000000) (W : World) : (Instr.makeSlice 87 (.int .i64 (n : Int)) (.int .i64 (n : Int))).run Try.prog W = .ok (.slice (some ⟨W.heap.size, 0, none⟩) n n) (W.alloc (.cells (Array.replicate n (.bool false)) 4)) := by
  obtain ⟨i0, hi0, hz0, hz1, hz2⟩ := info_parts Try.info4
  have hr := run_make (P := Try.prog) W 87 4 i0 (.bool false) Try.underlying87 hi0 hz0 .i64 .i64 n n (by omega) (Int.le_refl _) (by rw [hz2]; omega) (by omega)
  simp only [Int.toNat_natCast, hz1, Nat.mul_one] at hr
  have hm : madeCells (Value.bool false).cells n = Array.replicate n (.bool false) := by
    apply Array.ext'
    show (madeCells #[Value.bool false] n).toList = _
    rw [toList_madeCells_one, Array.toList_replicate]
  rw [hm] at hr
  exact hr
theorem falses_bools (n : Nat) : (Array.replicate n (Value.bool false)).toList = bools (List.replicate n false) := by simp [bools]
end Go.Proofs.Ytkopbcehfbmnmaa
