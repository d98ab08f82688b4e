/- Diagrams in boxes; contracts for the law MirrorCrosses. -/
import Derived.Test.YtkopbcehfbmnmaaMCmW
import Derived.Test.YtkopbcehfbmnmaaSmoW
import Derived.Test.YtkopbcehfbmnmaaCrossB
import Derived.Test.YtkopbcehfbmnmaaTauA
namespace Go.Proofs.Ytkopbcehfbmnmaa
open Go Go.RowKit
/-- The slice holds these numbers, in a row of their own type, or nothing. -/
def BxAt (w : World) (a : Option Addr) (xs : List Int) : Prop := xs = [] ∨ ∃ B c, Own w B 3 a c (ints xs)
theorem BxAt.of {w : World} {B c : Nat} {a : Option Addr} {xs : List Int} (h : Own w B 3 a c (ints xs)) : BxAt w a xs := .inr ⟨B, c, h⟩
theorem RowAt.bx {w : World} {a : Option Addr} {xs : List Int} (h : RowAt w a xs) : BxAt w a xs := by
  rcases h with h | ⟨b, rfl, h⟩
  · exact .inl h
  · exact .inr ⟨0, _, h.own (Nat.zero_le _)⟩
theorem BxAt.at {w : World} {a : Option Addr} {xs : List Int} (h : BxAt w a xs) : IntsAt w a xs := by
  rcases h with rfl | ⟨B, c, h⟩
  · exact IntsAt.nil _ _
  · exact h.ints
theorem BxAt.later {w w' : World} {a : Option Addr} {xs : List Int} (h : BxAt w a xs) (hb : Below w.heap.size w w') : BxAt w' a xs := by
  rcases h with rfl | ⟨B, c, h⟩
  · exact .inl rfl
  · exact .inr ⟨B, c, h.later hb (Nat.le_refl _)⟩
theorem BxAt.alloc {w : World} {a : Option Addr} {xs : List Int} (h : BxAt w a xs) (o : Obj) : BxAt (w.alloc o) a xs := h.later ((Below.refl _ _).alloc (Nat.le_refl _) _)
theorem BxAt.drew {w : World} {a : Option Addr} {xs : List Int} (h : BxAt w a xs) : BxAt w.drew a xs := h.later (Below.refl _ _).drew
theorem BxAt.box {w : World} {a : Option Addr} {xs : List Int} (h : BxAt w a xs) {q : Nat} {x0 x1 x2 : Value} (hq : Row w q 24 [x0, x1, x2]) (u0 u1 u2 : Value) : BxAt (((w.setCell ⟨q, 0, none⟩ u0).setCell ⟨q, 1, none⟩ u1).setCell ⟨q, 2, none⟩ u2) a xs := by
  rcases h with rfl | ⟨B, c, h⟩
  · exact .inl rfl
  · exact .inr ⟨B, c, ((h.setOther hq (by decide) 0 u0).setOther (hq.set 0 u0) (by decide) 1 u1).setOther ((hq.set 0 u0).set 1 u1) (by decide) 2 u2⟩
set_option maxRecDepth 100000 in
set_option maxHeartbeats 4000000 in
theorem after_any (x y : Nat) (w : World) (hy : y ≤ 1000) : Calls Try.prog 70 #[.int .i64 (x : Int), .int .i64 (y : Int)] w fun e w' => e = .returned (.int .i64 ((bk x y : Nat) : Int)) ∧ w' = w := by
  by_cases h : x < y
  · have e : ((bk x y : Nat) : Int) = (y : Int) - 1 := by unfold bk; rw [if_pos h]; omega
    have h2 : decide (x < y) = true := decide_eq_true h
    rw [e]
    go_enter Try.func70, Try.ntmps70
    go_wp2_with fail
    go_ret
    exact ⟨rfl, rfl⟩
  · have e : ((bk x y : Nat) : Int) = (y : Int) := by unfold bk; rw [if_neg h]
    have h2 : decide (x < y) = false := decide_eq_false h
    rw [e]
    go_enter Try.func70, Try.ntmps70
    go_wp2_with fail
    go_ret
    exact ⟨rfl, rfl⟩
theorem smooth_at (S M : List Int) (L : Int) (q : Nat) (hv : vldB S M L = true) (hq : q < S.length) (hle : L + (newL M (pS S q) q : Nat) ≤ 64) : ∀ (x y : Option Addr) (c d : Nat) (W' : World), IntsAt W' x S → IntsAt W' y M → Calls Try.prog 57 #[.agg #[.slice x S.length c, .slice y M.length d, .int .i64 L], .int .i64 ((q : Nat) : Int)] W' (fun e w' => ∃ (a b : Option Addr) (c d : Nat), e = .returned (.tuple #[.agg #[.slice a (smS S q).length c, .slice b (smM S M q).length d, .int .i64 (L + (newL M (pS S q) q : Nat))], .int .i64 0]) ∧ BxAt w' a (smS S q) ∧ BxAt w' b (smM S M q) ∧ Below W'.heap.size W' w') := fun x y c d W' h1 h2 => by
  refine smooth_own S M L x y c d q W' _ (fun _ e w' h => ?_) (fun g => absurd hle g) hv hq h1 h2
  obtain ⟨x', y', c', d', he, g1, g2, g3⟩ := h
  exact ⟨x', y', c', d', he, BxAt.of g1, BxAt.of g2, g3⟩
theorem oper_at (S M : List Int) (L : Int) (m : Nat) (hv : vldB S M L = true) (hm : m < 3) : ∀ (x y : Option Addr) (c d : Nat) (W' : World), IntsAt W' x S → IntsAt W' y M → Calls Try.prog 69 #[.agg #[.slice x S.length c, .slice y M.length d, .int .i64 L], .int .i64 ((m : Nat) : Int), .int .i64 0] W' (fun e w' => ∃ (a b : Option Addr) (c d : Nat), e = .returned (.tuple #[.agg #[.slice a (mulS S (opG m 0)).length c, .slice b (mvL (opT S m 0) M).length d, .int .i64 L], .bool true]) ∧ BxAt w' a (mulS S (opG m 0)) ∧ BxAt w' b (mvL (opT S m 0) M) ∧ Below W'.heap.size W' w') := fun x y c d W' h1 h2 => by
  have h := oper_yes S M L x y c d m 0 W' hv (by omega) (by omega) h1 h2
  rw [Nat.mod_eq_of_lt (show m < 5 by omega), Nat.zero_mod] at h
  refine h.mono ?_
  rintro e w' ⟨x', y', c', d', he, g1, g2, g3⟩
  rw [mulS_len, mvL_len]
  exact ⟨x', y', c', d', he, g1.bx, g2.bx, g3⟩
theorem equal_at (S M : List Int) (L : Int) (h1 : S.length ≤ 1000000000) (h2 : M.length ≤ 1000000000) : ∀ (a b a' b' : Option Addr) (c d c' d' : Nat) (W' : World), IntsAt W' a S → IntsAt W' b M → IntsAt W' a' S → IntsAt W' b' M → Calls Try.prog 53 #[.agg #[.slice a S.length c, .slice b M.length d, .int .i64 L], .agg #[.slice a' S.length c', .slice b' M.length d', .int .i64 L]] W' (fun e w' => e = .returned (.bool true) ∧ Below W'.heap.size W' w') := fun a b a' b' c d c' d' W' i1 i2 i3 i4 => by
  have h := equalD_any S M S M L L a b a' b' c d c' d' W' h1 h2 i1 i2 i3 i4
  rw [show eqD S M L S M L = true from decide_eq_true ⟨rfl, rfl, rfl⟩] at h
  exact h
end Go.Proofs.Ytkopbcehfbmnmaa
