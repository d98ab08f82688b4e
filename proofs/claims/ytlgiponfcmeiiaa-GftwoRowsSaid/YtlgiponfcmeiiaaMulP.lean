/- Plain: the rank of a product. -/
import Derived.Test.YtlgiponfcmeiiaaMulY
namespace Go.Proofs.Ytlgiponfcmeiiaa
open Go Go.RowKit
theorem rk_mul_left (xs ys : List Nat) (C : Nat) : rk (xs.map (mulN ys C)) ≤ rk xs := rk_map_le (φ := mulN ys C) (lin_zero _ _) (fun x y => lin_xor _ _ x y) xs
theorem rk_mul_right (xs ys : List Nat) {C : Nat} (hC : C = ys.length) : rk (xs.map (mulN ys C)) ≤ rk ys := rk_mono fun v hv => by
  obtain ⟨x, _, rfl⟩ := List.mem_map.1 hv
  exact lin_span (fun k hk => span_mem (getD_mem (by omega))) x
end Go.Proofs.Ytlgiponfcmeiiaa
