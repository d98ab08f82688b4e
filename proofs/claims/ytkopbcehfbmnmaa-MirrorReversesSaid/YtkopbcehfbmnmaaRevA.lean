/- Plain laws: one strand reversed. -/
import Derived.Test.YtkopbcehfbmnmaaMirA
namespace Go.Proofs.Ytkopbcehfbmnmaa
open Go Go.RowKit
/-- The under strand of crossing c is strand i; the over strand is. -/
def uB (S M : List Int) (i c : Nat) : Bool := decide (ix S M (4 * c + 2) = i)
def oB (S M : List Int) (i c : Nat) : Bool := decide (ix S M (4 * c + 1) = i)
def r1B (S M : List Int) (i c : Nat) : Int := if uB S M i c = true then 2 else 0
def r1S (S M : List Int) (i c : Nat) : Int := if uB S M i c = oB S M i c then 1 else -1
theorem r1B_bd (S M : List Int) (i c : Nat) : 0 ≤ r1B S M i c ∧ r1B S M i c ≤ 2 := by unfold r1B; split <;> omega
theorem r1S_one (S M : List Int) (i c : Nat) : r1S S M i c = 1 ∨ r1S S M i c = -1 := by unfold r1S; split <;> simp
section
variable {S M : List Int} {L : Int} (hv : vldB S M L = true) (i : Nat)
include hv
theorem ix_under {x : Nat} (hx : x < 4 * S.length) (h : x % 2 = 0) : decide (ix S M x = i) = uB S M i (x / 4) := by
  unfold uB ix; rw [(vldB_shape hv).st_even hx h]
theorem ix_over {x : Nat} (hx : x < 4 * S.length) (h : x % 2 = 1) : decide (ix S M x = i) = oB S M i (x / 4) := by
  unfold oB ix; rw [(vldB_shape hv).st_odd hx h]
theorem r1_out (x : Nat) (hx : x < 4 * S.length) : outB (mulS S (r1S S M i)) (trn (r1B S M i) x) = (outB S x ^^ decide (ix S M x = i)) := by
  have hc : x / 4 < S.length := by omega
  have hd := trn_div (r1B S M i) x
  have hm : trn (r1B S M i) x % 4 = (((x % 4 : Nat) : Int) + r1B S M i (x / 4) + 8).toNat % 4 := tn_mod _ _
  have hi : decide (ix S M x = i) = if x % 2 = 0 then uB S M i (x / 4) else oB S M i (x / 4) := by
    by_cases h : x % 2 = 0
    · rw [if_pos h, ix_under hv i hx h]
    · rw [if_neg h, ix_over hv i hx (by omega)]
  rw [hi, outB_slot, outB_slot, hd, nth_mulS S _ _ hc, hm]
  unfold r1S r1B
  generalize uB S M i (x / 4) = u
  generalize oB S M i (x / 4) = o
  rcases (vldB_shape hv).sign (x / 4) hc with g | g <;> rw [g] <;>
    rcases (show (x % 4 = 0 ∧ x % 2 = 0) ∨ (x % 4 = 1 ∧ x % 2 = 1) ∨ (x % 4 = 2 ∧ x % 2 = 0) ∨ (x % 4 = 3 ∧ x % 2 = 1) from by omega) with ⟨e, e2⟩ | ⟨e, e2⟩ | ⟨e, e2⟩ | ⟨e, e2⟩ <;> rw [e, e2] <;> cases u <;> cases o <;> decide
theorem r1_iso : Iso M (mvL (trn (r1B S M i)) M) S.length (trn (r1B S M i)) 1 :=
  trn_iso (vldB_shape hv).len _ fun c => by have := r1B_bd S M i c; omega
theorem r1_valid : vldB (mulS S (r1S S M i)) (mvL (trn (r1B S M i)) M) L = true := by
  have hs := vldB_shape hv
  refine Iso.valid hv (mulS_len S _) (by rw [mvL_len]; exact hs.len) (r1_iso hv i) (fun c hc => ?_) (fun x hx => ?_)
  · rw [nth_mulS S _ c hc]
    rcases hs.sign c hc with g | g <;> rcases r1S_one S M i c with h | h <;> rw [g, h] <;> decide
  · have he : ix S M (mt M x) = ix S M x := by unfold ix; rw [hs.st_mt hx]
    rw [r1_out hv i x hx, r1_out hv i _ (hs.mt_lt hx), hs.out_mt hx, he]
    cases outB S x <;> cases decide (ix S M x = i) <;> decide
omit hv in
theorem r1_at (c : Nat) : nth S c * r1S S M i c = nth S c + -2 * (if uB S M i c = oB S M i c then 0 else nth S c) := by
  unfold r1S
  split <;> omega
theorem r1_lk (c : Nat) (hc : c < S.length) (h : ¬ uB S M i c = oB S M i c) : lkB S M c = true := by
  unfold lkB
  refine decide_eq_true fun e => h ?_
  have := (ix_eq (vldB_shape hv) (x := 4 * c + 2) (y := 4 * c + 1) (by omega) (by omega)).2 e
  unfold uB oB
  rw [this]
def dS (S M : List Int) (i : Nat) : Int := wsum (fun c => if uB S M i c = oB S M i c then 0 else nth S c) S.length
omit hv in
theorem r1_wr : wr (mulS S (r1S S M i)) = wr S - 2 * dS S M i := by
  rw [wr_mul, wsum_congr (h := fun c => nth S c + -2 * (if uB S M i c = oB S M i c then 0 else nth S c)) fun c _ => r1_at i c, wsum_add, wsum_mul]
  unfold wr dS
  omega
theorem r1_tl : tl (mulS S (r1S S M i)) (mvL (trn (r1B S M i)) M) = tl S M - 2 * dS S M i := by
  rw [tl_mul hv (r1_valid hv i) (r1_iso hv i) (trn_div _), wsum_congr (h := fun c => (if lkB S M c = true then nth S c else 0) + -2 * (if uB S M i c = oB S M i c then 0 else nth S c)), wsum_add, wsum_mul]
  · unfold tl dS
    omega
  · intro c hc
    by_cases h : uB S M i c = oB S M i c
    · rw [if_pos h]
      unfold r1S
      rw [if_pos h]
      split <;> omega
    · rw [if_pos (r1_lk hv i c hc h), if_pos (r1_lk hv i c hc h), r1_at, if_neg h]
/-- The linking numbers of strand i with the first N others. -/
def oth (S M : List Int) (L : Int) (i : Nat) : Nat → Int
  | 0 => 0
  | j + 1 => oth S M L i j + if j = i then 0 else matE S (ownF (strandsL S M L)) i j
theorem oth_part : ∀ N, 2 * oth S M L i N = wsum (fun c => if (ix S M (4 * c + 2) = i ∧ ix S M (4 * c + 1) ≠ i ∧ ix S M (4 * c + 1) < N) ∨ (ix S M (4 * c + 1) = i ∧ ix S M (4 * c + 2) ≠ i ∧ ix S M (4 * c + 2) < N) then nth S c else 0) S.length := by
  intro N
  induction N with
  | zero =>
    rw [wsum_congr (h := fun _ => 0), wsum_zero]
    · rfl
    · intro c _
      rw [if_neg (by omega)]
  | succ N ih =>
    rw [oth]
    by_cases h : N = i
    · rw [if_pos h, show 2 * (oth S M L i N + 0) = 2 * oth S M L i N from by omega, ih]
      refine wsum_congr fun c _ => ?_
      by_cases g : (ix S M (4 * c + 2) = i ∧ ix S M (4 * c + 1) ≠ i ∧ ix S M (4 * c + 1) < N) ∨ (ix S M (4 * c + 1) = i ∧ ix S M (4 * c + 2) ≠ i ∧ ix S M (4 * c + 2) < N)
      · rw [if_pos g, if_pos (by omega)]
      · rw [if_neg g, if_neg (by omega)]
    · have hp : 2 * matE S (ownF (strandsL S M L)) i N = wsum (fun c => if isPair (i : Int) (N : Int) (ownF (strandsL S M L) c).1 (ownF (strandsL S M L) c).2 = true then nth S c else 0) S.length := by
        have he := pair_sum_even hv i N (fun e => h e.symm)
        unfold matE pr
        rw [if_neg (fun e => h e.symm), ← sumTo_wsum]
        obtain ⟨t, ht⟩ : ∃ t, sumTo S (ownF (strandsL S M L)) (isPair i N) S.length = 2 * t := ⟨sumTo S (ownF (strandsL S M L)) (isPair i N) S.length / 2, by omega⟩
        rw [ht, Int.mul_tdiv_cancel_left _ (by decide)]
      rw [if_neg h, show 2 * (oth S M L i N + matE S (ownF (strandsL S M L)) i N) = 2 * oth S M L i N + 2 * matE S (ownF (strandsL S M L)) i N from by omega, ih, hp, ← wsum_add]
      refine wsum_congr fun c hc => ?_
      rw [ownF_eq hv c hc]
      have hq := isPair_iff i N (ix S M (4 * c + 2)) (ix S M (4 * c + 1))
      by_cases g1 : (ix S M (4 * c + 2) = i ∧ ix S M (4 * c + 1) ≠ i ∧ ix S M (4 * c + 1) < N) ∨ (ix S M (4 * c + 1) = i ∧ ix S M (4 * c + 2) ≠ i ∧ ix S M (4 * c + 2) < N)
      · rw [if_pos g1, if_neg (fun e => by have := hq.1 e; omega), if_pos (by omega)]; omega
      · by_cases g2 : (ix S M (4 * c + 2) = i ∧ ix S M (4 * c + 1) = N) ∨ (ix S M (4 * c + 2) = N ∧ ix S M (4 * c + 1) = i)
        · rw [if_neg g1, if_pos (hq.2 g2), if_pos (by omega)]; omega
        · rw [if_neg g1, if_neg (fun e => g2 (hq.1 e)), if_neg (by omega)]; omega
theorem oth_all (N : Nat) (hN : (strandsL S M L).length ≤ N) : 2 * oth S M L i N = dS S M i := by
  rw [oth_part hv i N]
  unfold dS
  refine wsum_congr fun c hc => ?_
  have hl : (leasts S M).length ≤ N := by
    rw [strandsL_leasts hv, List.length_map] at hN; exact hN
  have h1 := ix_lt (vldB_shape hv) (x := 4 * c + 2) (by omega)
  have h2 := ix_lt (vldB_shape hv) (x := 4 * c + 1) (by omega)
  unfold uB oB
  by_cases g1 : ix S M (4 * c + 2) = i
  · by_cases g2 : ix S M (4 * c + 1) = i
    · rw [if_neg (by omega), if_pos (by rw [decide_eq_true g1, decide_eq_true g2])]
    · rw [if_pos (by omega), if_neg (by rw [decide_eq_true g1, decide_eq_false g2]; simp)]
  · by_cases g2 : ix S M (4 * c + 1) = i
    · rw [if_pos (by omega), if_neg (by rw [decide_eq_false g1, decide_eq_true g2]; simp)]
    · rw [if_neg (by omega), if_pos (by rw [decide_eq_false g1, decide_eq_false g2])]
theorem oth_bd (N : Nat) : -64 ≤ oth S M L i N ∧ oth S M L i N ≤ 64 := by
  have h := oth_part hv i N
  have hs := vldB_shape hv
  have hf := hs.few
  obtain ⟨g, hg⟩ : ∃ g : Nat → Int, g = fun c => if (ix S M (4 * c + 2) = i ∧ ix S M (4 * c + 1) ≠ i ∧ ix S M (4 * c + 1) < N) ∨ (ix S M (4 * c + 1) = i ∧ ix S M (4 * c + 2) ≠ i ∧ ix S M (4 * c + 2) < N) then nth S c else 0 := ⟨_, rfl⟩
  have hb : ∀ c, -1 ≤ g c ∧ g c ≤ 1 := fun c => by
    have := hs.signBd c
    rw [hg]
    show -1 ≤ (if _ then _ else _) ∧ (if _ then _ else _) ≤ (1 : Int)
    split <;> omega
  have hw : ∀ k : Nat, -(k : Int) ≤ wsum g k ∧ wsum g k ≤ k := by
    intro k
    induction k with
    | zero => exact ⟨Int.le_refl _, Int.le_refl _⟩
    | succ k ih =>
      have := hb k
      show -((k + 1 : Nat) : Int) ≤ wsum g k + g k ∧ wsum g k + g k ≤ ((k + 1 : Nat) : Int)
      omega
  rw [← hg] at h
  have := hw S.length
  omega
end
end Go.Proofs.Ytkopbcehfbmnmaa
