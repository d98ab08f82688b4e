/- Plain law: writhe and total linking number under renamings. -/
import Derived.Test.YtkopbcehfbmnmaaMat0
import Derived.Test.YtkopbcehfbmnmaaMove0
namespace Go.Proofs.Ytkopbcehfbmnmaa
open Go Go.RowKit
/-- A sum of the first k. -/
def wsum (g : Nat → Int) : Nat → Int
  | 0 => 0
  | k + 1 => wsum g k + g k
theorem wsum_congr {g h : Nat → Int} {k : Nat} (e : ∀ c, c < k → g c = h c) : wsum g k = wsum h k := by
  induction k with
  | zero => rfl
  | succ k ih => rw [wsum, wsum, ih fun c hc => e c (by omega), e k (by omega)]
theorem wsum_add (g h : Nat → Int) (k : Nat) : wsum (fun c => g c + h c) k = wsum g k + wsum h k := by
  induction k with
  | zero => rfl
  | succ k ih => rw [wsum, wsum, wsum, ih]; omega
theorem wsum_mul (a : Int) (g : Nat → Int) (k : Nat) : wsum (fun c => a * g c) k = a * wsum g k := by
  induction k with
  | zero => simp [wsum]
  | succ k ih => rw [wsum, wsum, ih, Int.mul_add]
theorem wsum_zero (k : Nat) : wsum (fun _ => 0) k = 0 := by
  induction k with
  | zero => rfl
  | succ k ih => rw [wsum, ih]; rfl
theorem wsum_one (a : Nat) (t : Int) (k : Nat) : wsum (fun c => if c = a then t else 0) k = if a < k then t else 0 := by
  induction k with
  | zero => rfl
  | succ k ih =>
    rw [wsum, ih]
    by_cases h1 : k = a
    · rw [if_neg (by omega), if_pos h1, if_pos (by omega)]; omega
    · rw [if_neg h1]
      by_cases h2 : a < k
      · rw [if_pos h2, if_pos (by omega)]; omega
      · rw [if_neg h2, if_neg (by omega)]; omega
theorem wsum_cnt (g : Nat → Int) (k : Nat) (h : ∀ c, c < k → g c = 1 ∨ g c = 0 ∨ g c = -1) : wsum g k = (cnt (fun c => decide (g c = 1)) k : Int) - (cnt (fun c => decide (g c = -1)) k : Int) := by
  induction k with
  | zero => rfl
  | succ k ih =>
    rw [wsum, ih fun c hc => h c (by omega), cnt_succ, cnt_succ]
    rcases h k (by omega) with e | e | e <;> rw [e] <;> simp <;> omega
theorem cnt_bij {p q : Nat → Bool} {n : Nat} {σ : Nat → Nat} (hσ : Inj σ n) (h : ∀ c, c < n → q (σ c) = p c) : cnt q n = cnt p n := by
  refine Nat.le_antisymm ?_ ?_
  · refine cnt_inj (back σ n) (fun x hx hq => ⟨back_lt hσ hx, ?_⟩) (fun x y hx hy _ _ he => (back_inj hσ).inj x y hx hy he)
    rw [← h _ (back_lt hσ hx), f_back hσ hx]; exact hq
  · exact cnt_inj σ (fun x hx hp => ⟨hσ.lt x hx, by rw [h x hx]; exact hp⟩) (fun x y hx hy _ _ he => hσ.inj x y hx hy he)
theorem wsum_bij {g h : Nat → Int} {n : Nat} {σ : Nat → Nat} (hσ : Inj σ n) (hg : ∀ c, c < n → g c = 1 ∨ g c = 0 ∨ g c = -1) (e : ∀ c, c < n → h (σ c) = g c) : wsum h n = wsum g n := by
  have hh : ∀ c, c < n → h c = 1 ∨ h c = 0 ∨ h c = -1 := fun c hc => by
    have := hg _ (back_lt hσ hc)
    rw [← e _ (back_lt hσ hc), f_back hσ hc] at this
    exact this
  rw [wsum_cnt g n hg, wsum_cnt h n hh, cnt_bij (p := fun c => decide (g c = 1)) (q := fun c => decide (h c = 1)) hσ fun c hc => by rw [e c hc], cnt_bij (p := fun c => decide (g c = -1)) (q := fun c => decide (h c = -1)) hσ fun c hc => by rw [e c hc]]
theorem sumTo_wsum (S : List Int) (f : Nat → Int × Int) (keep : Int → Int → Bool) (k : Nat) : sumTo S f keep k = wsum (fun c => if keep (f c).1 (f c).2 = true then nth S c else 0) k := by
  induction k with
  | zero => rfl
  | succ k ih => rw [sumTo, wsum, ih]; split <;> omega
/-- Do the strands of a crossing differ? -/
def lkB (S M : List Int) (c : Nat) : Bool := decide (st S M (4 * c + 2) ≠ st S M (4 * c + 1))
/-- The writhe; the sum of the signs of the crossings of two strands. -/
def wr (S : List Int) : Int := wsum (nth S) S.length
def tl (S M : List Int) : Int := wsum (fun c => if lkB S M c = true then nth S c else 0) S.length
theorem writhe_wr (S : List Int) (f : Nat → Int × Int) : sumTo S f (fun _ _ => true) S.length = wr S := by
  rw [sumTo_wsum]; exact wsum_congr fun c _ => if_pos rfl
theorem total_tl {S M : List Int} {L : Int} (hv : vldB S M L = true) : sumTo S (ownF (strandsL S M L)) (fun u o => u != o) S.length = tl S M := by
  have hs := vldB_shape hv
  rw [sumTo_wsum]
  refine wsum_congr fun c hc => ?_
  rw [ownF_eq hv c hc]
  have h := ix_eq hs (x := 4 * c + 2) (y := 4 * c + 1) (by omega) (by omega)
  show (if ((ix S M (4 * c + 2) : Int) != (ix S M (4 * c + 1) : Int)) = true then _ else _) = _
  by_cases e : st S M (4 * c + 2) = st S M (4 * c + 1)
  · have h2 := h.2 e
    have h1 : lkB S M c = false := decide_eq_false (fun g => g e)
    rw [h1, h2]; simp
  · have h2 : ix S M (4 * c + 2) ≠ ix S M (4 * c + 1) := fun g => e (h.1 g)
    have h1 : lkB S M c = true := decide_eq_true e
    have h3 : ((ix S M (4 * c + 2) : Int) != (ix S M (4 * c + 1) : Int)) = true := by rw [bne_iff_ne]; omega
    rw [h1, h3]
theorem tl_even {S M : List Int} {L : Int} (hv : vldB S M L = true) : tl S M % 2 = 0 := by
  rw [← total_tl hv, sum_tri S _ _ S.length (owner_lt hv _ (Nat.le_refl _))]
  have h2 : triTo (fun a b => sumTo S (ownF (strandsL S M L)) (isPair a b) S.length) (strandsL S M L).length = triTo (fun a b => 2 * (sumTo S (ownF (strandsL S M L)) (isPair a b) S.length).tdiv 2) (strandsL S M L).length := triTo_congr fun a b hb _ => by
    have := pair_sum_even hv a b (by omega)
    generalize sumTo S (ownF (strandsL S M L)) (isPair a b) S.length = t at *
    rw [Int.mul_comm, Int.tdiv_mul_cancel (Int.dvd_of_emod_eq_zero this)]
  rw [h2, triTo_mul]
  omega
/-- The strands of two passages of one crossing. -/
theorem lkB_of {S M : List Int} {L : Int} (hs : Shape S M L) {x y : Nat} (hx : x < 4 * S.length) (h : x / 4 = y / 4) (hp : x % 2 ≠ y % 2) : lkB S M (x / 4) = decide (st S M x ≠ st S M y) := by
  have hy : y < 4 * S.length := by omega
  unfold lkB
  rcases Nat.mod_two_eq_zero_or_one x with e | e
  · rw [hs.st_even hx e, hs.st_odd hy (by omega), ← h]
  · rw [hs.st_odd hx e, hs.st_even hy (by omega), ← h, decide_eq_decide]
    exact ⟨fun g h => g h.symm, fun g h => g h.symm⟩
theorem tn_par (x : Nat) (e : Int) (he : e = 1 ∨ e = -1) : tn x e % 2 ≠ x % 2 := by
  rcases he with rfl | rfl <;> unfold tn <;> omega
theorem Iso.lk {S S' M M' : List Int} {L L' : Int} {τ : Nat → Nat} {e : Int} (hs : Shape S M L) (hs' : Shape S' M' L') (hl : S'.length = S.length) (h : Iso M M' S.length τ e) (c : Nat) (hc : c < S.length) : lkB S' M' (τ (4 * c) / 4) = lkB S M c := by
  have h0 := h.lt (x := 4 * c) (by omega)
  have h1 := h.turn (4 * c) (by omega)
  have h2 := h.st_eq hs hs' hl (x := 4 * c) (y := tn (4 * c) 1) (by omega) (tn_lt _ _ _ (by omega))
  have a := lkB_of hs' (x := τ (4 * c)) (y := τ (tn (4 * c) 1)) (by omega) (by rw [h1, tn_div]) (by rw [h1]; exact fun e2 => tn_par _ _ h.unit e2.symm)
  have b := lkB_of hs (x := 4 * c) (y := tn (4 * c) 1) (by omega) (by rw [tn_div]) (fun e2 => tn_par _ 1 (.inl rfl) e2.symm)
  rw [show 4 * c / 4 = c from by omega] at b
  rw [a, b, decide_eq_decide, ne_eq, ne_eq, h2]
/-- .. where the crossings keep their numbers. -/
theorem Iso.lk' {S S' M M' : List Int} {L L' : Int} {τ : Nat → Nat} {e : Int} (hs : Shape S M L) (hs' : Shape S' M' L') (hl : S'.length = S.length) (h : Iso M M' S.length τ e) (hd : ∀ x, τ x / 4 = x / 4) (c : Nat) (hc : c < S.length) : lkB S' M' c = lkB S M c := by
  have := Iso.lk hs hs' hl h c hc
  rwa [hd, show 4 * c / 4 = c from by omega] at this
end Go.Proofs.Ytkopbcehfbmnmaa
