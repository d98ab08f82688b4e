/- Plain laws: mirror images, reversal, switches: they are diagrams; writhe and total linking number. -/
import Derived.Test.YtkopbcehfbmnmaaStrandA
import Derived.Test.YtkopbcehfbmnmaaLinkPlainA
namespace Go.Proofs.Ytkopbcehfbmnmaa
open Go Go.RowKit
/-- By how much the chosen crossings turn, and their signs. -/
def swB (S : List Int) (ch : Nat → Bool) (c : Nat) : Int := if ch c = true then (if nth S c = 1 then -3 else -1) else 0
def swS (ch : Nat → Bool) (c : Nat) : Int := if ch c = true then -1 else 1
theorem swB_bd (S : List Int) (ch : Nat → Bool) (c : Nat) : -4 ≤ swB S ch c ∧ swB S ch c ≤ 0 := by
  unfold swB; split
  · split <;> omega
  · omega
theorem swS_bd (ch : Nat → Bool) (c : Nat) : -1 ≤ swS ch c ∧ swS ch c ≤ 1 := by unfold swS; split <;> omega
theorem Shape.signBd {S M : List Int} {L : Int} (hs : Shape S M L) (c : Nat) : -1 ≤ nth S c ∧ nth S c ≤ 1 := by
  rcases Nat.lt_or_ge c S.length with h | h
  · rcases hs.sign c h with h | h <;> omega
  · rw [nth_out _ _ h]; omega
theorem outB_slot (S : List Int) (x : Nat) : outB S x = if x % 4 = 0 then false else if x % 4 = 1 then (nth S (x / 4) == 1) else if x % 4 = 2 then true else (nth S (x / 4) == -1) := by
  rcases (show x % 4 = 0 ∨ x % 4 = 1 ∨ x % 4 = 2 ∨ x % 4 = 3 from by omega) with e | e | e | e
  · rw [outB_0 S x e, if_pos e]
  · rw [outB_1 S x e, if_neg (by omega), if_pos e]
  · rw [outB_2 S x e, if_neg (by omega), if_neg (by omega), if_pos e]
  · rw [outB_3 S x e, if_neg (by omega), if_neg (by omega), if_neg (by omega)]
section
variable {S M : List Int} {L : Int} (hs : Shape S M L) (ch : Nat → Bool)
include hs
theorem ex_sign (c : Nat) (hc : c < S.length) : nth (mulS S (swS ch)) c = 1 ∨ nth (mulS S (swS ch)) c = -1 := by
  rw [nth_mulS S _ c hc]
  rcases hs.sign c hc with g | g <;> unfold swS <;> split <;> rw [g] <;> simp
theorem ex_out (x : Nat) (hx : x < 4 * S.length) : outB (mulS S (swS ch)) (trn (swB S ch) x) = outB S x := by
  have hc : x / 4 < S.length := by omega
  have hd := trn_div (swB S ch) x
  rw [outB_slot, outB_slot, hd, nth_mulS S _ _ hc]
  have hm : trn (swB S ch) x % 4 = (((x % 4 : Nat) : Int) + swB S ch (x / 4) + 8).toNat % 4 := tn_mod _ _
  rw [hm]
  unfold swB swS
  by_cases h : ch (x / 4) = true
  · rw [if_pos h, if_pos h]
    rcases hs.sign (x / 4) hc with g | g
    · rw [g, if_pos rfl]
      rcases (show x % 4 = 0 ∨ x % 4 = 1 ∨ x % 4 = 2 ∨ x % 4 = 3 from by omega) with e | e | e | e <;> rw [e] <;> decide
    · rw [g, if_neg (show ¬ ((-1 : Int) = 1) from by omega)]
      rcases (show x % 4 = 0 ∨ x % 4 = 1 ∨ x % 4 = 2 ∨ x % 4 = 3 from by omega) with e | e | e | e <;> rw [e] <;> decide
  · rw [if_neg h, if_neg h, Int.mul_one]
    rcases (show x % 4 = 0 ∨ x % 4 = 1 ∨ x % 4 = 2 ∨ x % 4 = 3 from by omega) with e | e | e | e <;> rw [e] <;> simp
theorem rf_out (x : Nat) (hx : x < 4 * S.length) : outB (mulS S (fun _ => -1)) (rfl4 x) = outB S x := by
  have hc : x / 4 < S.length := by omega
  have hd : rfl4 x / 4 = x / 4 := tn_div _ _
  rw [outB_slot, outB_slot, hd, nth_mulS S _ _ hc]
  have hm : rfl4 x % 4 = (4 - x % 4) % 4 := by rw [rfl4_val]; omega
  rw [hm]
  rcases hs.sign (x / 4) hc with g | g <;> rw [g] <;>
    rcases (show x % 4 = 0 ∨ x % 4 = 1 ∨ x % 4 = 2 ∨ x % 4 = 3 from by omega) with e | e | e | e <;> rw [e] <;> decide
theorem rv_out (x : Nat) (hx : x < 4 * S.length) : outB (mulS S (fun _ => 1)) (trn (fun _ => 2) x) = !(outB S x) := by
  have hc : x / 4 < S.length := by omega
  have hd := trn_div (fun _ => 2) x
  rw [outB_slot, outB_slot, hd, nth_mulS S _ _ hc]
  have hm : trn (fun _ => 2) x % 4 = (x % 4 + 2) % 4 := by
    have : trn (fun _ => 2) x % 4 = (((x % 4 : Nat) : Int) + 2 + 8).toNat % 4 := tn_mod _ _
    omega
  rw [hm]
  rcases hs.sign (x / 4) hc with g | g <;> rw [g] <;>
    rcases (show x % 4 = 0 ∨ x % 4 = 1 ∨ x % 4 = 2 ∨ x % 4 = 3 from by omega) with e | e | e | e <;> rw [e] <;> decide
end
section
variable {S M : List Int} {L : Int} (hv : vldB S M L = true)
include hv
theorem ex_valid (ch : Nat → Bool) : vldB (mulS S (swS ch)) (mvL (trn (swB S ch)) M) L = true := by
  have hs := vldB_shape hv
  refine Iso.valid hv (mulS_len S _) (by rw [mvL_len]; exact hs.len) (trn_iso hs.len _ fun c => (swB_bd S ch c).1) (fun c hc => ex_sign hs ch c hc) (fun x hx => ?_)
  rw [ex_out hs ch x hx, ex_out hs ch _ (hs.mt_lt hx), hs.out_mt hx]
  cases outB S x <;> decide
theorem rf_valid : vldB (mulS S (fun _ => -1)) (mvL rfl4 M) L = true := by
  have hs := vldB_shape hv
  refine Iso.valid hv (mulS_len S _) (by rw [mvL_len]; exact hs.len) (rfl4_iso hs.len) (fun c hc => ?_) (fun x hx => ?_)
  · rw [nth_mulS S _ c hc]
    rcases hs.sign c hc with g | g <;> rw [g] <;> simp
  · rw [rf_out hs x hx, rf_out hs _ (hs.mt_lt hx), hs.out_mt hx]
    cases outB S x <;> decide
theorem rv_valid : vldB (mulS S (fun _ => 1)) (mvL (trn (fun _ => 2)) M) L = true := by
  have hs := vldB_shape hv
  refine Iso.valid hv (mulS_len S _) (by rw [mvL_len]; exact hs.len) (trn_iso hs.len _ fun c => by omega) (fun c hc => ?_) (fun x hx => ?_)
  · rw [nth_mulS S _ c hc]
    rcases hs.sign c hc with g | g <;> rw [g] <;> simp
  · rw [rv_out hs x hx, rv_out hs _ (hs.mt_lt hx), hs.out_mt hx]
    cases outB S x <;> decide
/-- Writhe and total where the crossings keep their numbers. -/
theorem tl_mul {g : Nat → Int} {M' : List Int} {τ : Nat → Nat} {e : Int} (hv' : vldB (mulS S g) M' L = true) (hi : Iso M M' S.length τ e) (hd : ∀ x, τ x / 4 = x / 4) : tl (mulS S g) M' = wsum (fun c => if lkB S M c = true then nth S c * g c else 0) S.length := by
  unfold tl
  rw [mulS_len]
  refine wsum_congr fun c hc => ?_
  rw [Iso.lk' (vldB_shape hv) (vldB_shape hv') (mulS_len S g) hi hd c hc, nth_mulS S g c hc]
omit hv in
theorem wr_mul (g : Nat → Int) : wr (mulS S g) = wsum (fun c => nth S c * g c) S.length := by
  unfold wr
  rw [mulS_len]
  exact wsum_congr fun c hc => nth_mulS S g c hc
omit hv in
theorem wsum_neg (f : Nat → Int) (k : Nat) : wsum (fun c => -(f c)) k = -(wsum f k) := by
  have := wsum_mul (-1) f k
  rw [wsum_congr (h := fun c => -1 * f c) fun c _ => by omega, this]; omega
omit hv in
theorem wr_neg (g : Nat → Int) (h : ∀ c, g c = -1) : wr (mulS S g) = -(wr S) := by
  rw [wr_mul]
  unfold wr
  rw [← wsum_neg]
  exact wsum_congr fun c _ => by rw [h]; omega
omit hv in
theorem wr_pos (g : Nat → Int) (h : ∀ c, g c = 1) : wr (mulS S g) = wr S := by
  rw [wr_mul]
  unfold wr
  exact wsum_congr fun c _ => by rw [h]; omega
theorem tl_neg {g : Nat → Int} (h : ∀ c, g c = -1) {M' : List Int} {τ : Nat → Nat} {e : Int} (hv' : vldB (mulS S g) M' L = true) (hi : Iso M M' S.length τ e) (hd : ∀ x, τ x / 4 = x / 4) : tl (mulS S g) M' = -(tl S M) := by
  rw [tl_mul hv hv' hi hd]
  unfold tl
  rw [← wsum_neg]
  refine wsum_congr fun c _ => ?_
  rw [h]
  split <;> omega
theorem tl_pos {g : Nat → Int} (h : ∀ c, g c = 1) {M' : List Int} {τ : Nat → Nat} {e : Int} (hv' : vldB (mulS S g) M' L = true) (hi : Iso M M' S.length τ e) (hd : ∀ x, τ x / 4 = x / 4) : tl (mulS S g) M' = tl S M := by
  rw [tl_mul hv hv' hi hd]
  unfold tl
  refine wsum_congr fun c _ => ?_
  rw [h]
  split <;> omega
/-- Mirror. -/
theorem mir_tl : tl (mulS S (swS fun _ => true)) (mvL (trn (swB S fun _ => true)) M) = -(tl S M) :=
  tl_neg hv (g := swS fun _ => true) (fun _ => if_pos rfl) (ex_valid hv _) (trn_iso (vldB_shape hv).len _ fun c => (swB_bd S _ c).1) (trn_div _)
theorem rf_tl : tl (mulS S (fun _ => -1)) (mvL rfl4 M) = -(tl S M) :=
  tl_neg hv (g := fun _ => -1) (fun _ => rfl) (rf_valid hv) (rfl4_iso (vldB_shape hv).len) (fun x => show rfl4 x / 4 = x / 4 from tn_div x _)
theorem rv_tl : tl (mulS S (fun _ => 1)) (mvL (trn (fun _ => 2)) M) = tl S M :=
  tl_pos hv (g := fun _ => 1) (fun _ => rfl) (rv_valid hv) (trn_iso (vldB_shape hv).len _ fun c => by omega) (trn_div _)
end
end Go.Proofs.Ytkopbcehfbmnmaa
