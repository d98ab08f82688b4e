/- Plain: a matrix at the greatest number of columns. No condition. -/
import Derived.Test.YtlgiponfcmeiiaaRowP
import Derived.Test.YtlgiponfcmeiiaaRankW
namespace Go.Proofs.Ytlgiponfcmeiiaa
open Go Go.RowKit
theorem big_rk {K : Nat} (hK : 1 ≤ K) : rk [2 ^ K, 1, 1] = 2 := by
  have h1 : rk [1, 1] = 1 := by decide +kernel
  rw [rk_append_out, h1]
  rw [← Bool.not_eq_true]
  intro h
  have := span_lt (C := 1) (fun v hv => by
    simp only [List.mem_cons, List.not_mem_nil, or_false, or_self] at hv
    rw [hv]; decide) h
  have h2 := (Nat.pow_lt_pow_iff_right (a := 2) (by omega)).1 this
  omega
theorem big_lt {K : Nat} : ∀ x ∈ [2 ^ K, 1, 1], x < 2 ^ (K + 1) := fun x hx => by
  simp only [List.mem_cons, List.not_mem_nil, or_false, or_self] at hx
  rcases hx with e | e
  · rw [e]; exact Nat.pow_lt_pow_right (by omega) (by omega)
  · rw [e]; exact Nat.one_lt_two_pow (by omega)
theorem big_tab (K : Nat) : tabN (K + 1) [2 ^ K, 1, 1] = [[(K : Int)], [0], [0]] := by
  have h1 : rowOf (K + 1) (2 ^ K) = [(K : Int)] := by
    have := rowOf_fresh (C := K) (y := 0) (Nat.two_pow_pos K)
    rwa [Nat.xor_zero, rowOf_zero, List.nil_append] at this
  have h2 : rowOf (K + 1) 1 = [0] := by
    refine asc_eq (C := ((K + 1 : Nat) : Int)) (rowOf_asc (K + 1) 1) ⟨List.pairwise_singleton _ _, fun x hx => ?_⟩ ?_
    · obtain rfl := List.mem_singleton.1 hx
      omega
    · rw [bit_rowOf (Nat.one_lt_two_pow (by omega))]
      rfl
  show [rowOf (K + 1) (2 ^ K), rowOf (K + 1) 1, rowOf (K + 1) 1] = _
  rw [h1, h2]
theorem big_rank_gen (K : Nat) (h1 : 1 ≤ K) (h2 : K + 1 ≤ 65536) (A : Option Addr) (E : Nat) (W : World) (hT : TabAt W A [[(K : Int)], [0], [0]]) :
    Calls Try.prog 14 #[.agg #[.int .i64 ((K + 1 : Nat) : Int), .slice A 3 E]] W fun e w' => e = .returned (.tuple #[.int .i64 2, .int .i64 0]) ∧ Below W.heap.size W w' := by
  have h := rank_yes (K + 1) [2 ^ K, 1, 1] big_lt h2 (by simp) A E W (by rw [big_tab]; exact hT)
  rw [big_rk h1] at h
  exact h
theorem big_rank (A : Option Addr) (E : Nat) (W : World) (hT : TabAt W A [[65535], [0], [0]]) :
    Calls Try.prog 14 #[.agg #[.int .i64 65536, .slice A 3 E]] W fun e w' => e = .returned (.tuple #[.int .i64 2, .int .i64 0]) ∧ Below W.heap.size W w' :=
  big_rank_gen 65535 (by omega) (by omega) A E W hT
theorem over_rank (W : World) :
    Calls Try.prog 14 #[.agg #[.int .i64 65537, .slice none 0 0]] W fun e w' => e = .returned (.tuple #[.int .i64 0, .int .i64 1]) ∧ Below W.heap.size W w' :=
  rank_no 65537 [] none 0 W (by simp) (fun l h => by cases h) (by omega) (TabAt.nil _ _) (vldM_no (by omega))
end Go.Proofs.Ytlgiponfcmeiiaa
