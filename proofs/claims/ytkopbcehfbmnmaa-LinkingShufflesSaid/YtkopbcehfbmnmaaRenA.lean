/- Plain laws: crossings renumbered. -/
import Derived.Test.YtkopbcehfbmnmaaStrandA
import Derived.Test.YtkopbcehfbmnmaaLinkPlainA
namespace Go.Proofs.Ytkopbcehfbmnmaa
open Go Go.RowKit
/-- A list filled up to k. -/
def fillTo (n : Nat) (g : Nat → Int) : Nat → List Int
  | 0 => List.replicate n 0
  | k + 1 => (fillTo n g k).set k (g k)
def fillL (n : Nat) (g : Nat → Int) : List Int := (List.range n).map g
theorem fillTo_len (n : Nat) (g : Nat → Int) (k : Nat) : (fillTo n g k).length = n := by
  induction k with
  | zero => simp [fillTo]
  | succ k ih => simp [fillTo, ih]
theorem nth_fillTo (n : Nat) (g : Nat → Int) (k : Nat) (hk : k ≤ n) (i : Nat) (hi : i < k) : nth (fillTo n g k) i = g i := by
  induction k with
  | zero => omega
  | succ k ih =>
    rw [fillTo, nth_set _ _ _ _ (by rw [fillTo_len]; omega)]
    by_cases e : k = i
    · rw [if_pos e, e]
    · rw [if_neg e]; exact ih (by omega) (by omega)
theorem fillL_len (n : Nat) (g : Nat → Int) : (fillL n g).length = n := by simp [fillL]
theorem nth_fillL (n : Nat) (g : Nat → Int) (i : Nat) (hi : i < n) : nth (fillL n g) i = g i := nth_row _ _ _ hi
theorem fillTo_all (n : Nat) (g : Nat → Int) : fillTo n g n = fillL n g := by
  refine ext_nth (by rw [fillTo_len, fillL_len]) fun i hi => ?_
  rw [fillTo_len] at hi
  rw [nth_fillTo n g _ (Nat.le_refl _) i hi, nth_fillL n g i hi]
/-- The crossing that gets the number i. -/
def ordN (O : List Int) (i : Nat) : Nat := (nth O i).toNat
/-- The numbers, after i crossings. -/
def numTo (O : List Int) (n : Nat) : Nat → List Int
  | 0 => fillL n fun _ => -1
  | i + 1 => (numTo O n i).set (ordN O i) (i : Int)
def goodAt (O : List Int) (n i : Nat) : Prop := 0 ≤ nth O i ∧ nth O i < (n : Int) ∧ nth (numTo O n i) (ordN O i) < 0
theorem numTo_len (O : List Int) (n i : Nat) : (numTo O n i).length = n := by
  induction i with
  | zero => rw [numTo, fillL_len]
  | succ i ih => rw [numTo, List.length_set, ih]
theorem numTo_bd (O : List Int) (n i : Nat) (c : Nat) : -1 ≤ nth (numTo O n i) c ∧ nth (numTo O n i) c ≤ (i : Int) := by
  rcases Nat.lt_or_ge c n with h | h
  · induction i with
    | zero => rw [numTo, nth_fillL _ _ _ h]; omega
    | succ i ih =>
      rw [numTo]
      rcases Nat.lt_or_ge (ordN O i) n with g | g
      · rw [nth_set _ _ _ _ (by rw [numTo_len]; exact g)]
        split <;> omega
      · rw [List.set_eq_of_length_le (by rw [numTo_len]; exact g)]; omega
  · rw [nth_out _ _ (by rw [numTo_len]; exact h)]; omega
section
variable {O : List Int} {n : Nat} (hg : ∀ i, i < n → goodAt O n i)
include hg
theorem ordN_lt {i : Nat} (hi : i < n) : ordN O i < n := by have := hg i hi; unfold goodAt at this; unfold ordN; omega
theorem numTo_at {i : Nat} : ∀ k, k ≤ n → i < k → nth (numTo O n k) (ordN O i) = (i : Int) := by
  intro k
  induction k with
  | zero => omega
  | succ k ih =>
    intro hk hi
    have hl := ordN_lt hg (i := k) (by omega)
    rw [numTo, nth_set _ _ _ _ (by rw [numTo_len]; exact hl)]
    by_cases e : i = k
    · subst e; rw [if_pos rfl]
    · have h1 := ih (by omega) (by omega)
      by_cases g : ordN O k = ordN O i
      · have h2 := (hg k (by omega)).2.2
        rw [g, h1] at h2
        omega
      · rw [if_neg g]; exact h1
theorem ordN_inj : Inj (ordN O) n := by
  refine ⟨fun i hi => ordN_lt hg hi, fun i j hi hj he => ?_⟩
  have h1 := numTo_at hg n (Nat.le_refl _) hi
  have h2 := numTo_at hg n (Nat.le_refl _) hj
  rw [he] at h1
  omega
/-- The number of a crossing. -/
theorem num_back {c : Nat} (hc : c < n) : nth (numTo O n n) c = ((back (ordN O) n c : Nat) : Int) ∧ back (ordN O) n c < n ∧ ordN O (back (ordN O) n c) = c := by
  have hi := ordN_inj hg
  have h1 := back_lt hi hc
  have h2 := f_back hi hc
  refine ⟨?_, h1, h2⟩
  have := numTo_at hg n (Nat.le_refl _) h1
  rw [h2] at this
  exact this
end
def rnS (S O : List Int) (n : Nat) : List Int := fillL n fun i => nth S (ordN O i)
/-- What stands at half-edge h of the new diagram. -/
def rnAt (M O : List Int) (n h : Nat) : Int := 4 * nth (numTo O n n) (mt M (4 * ordN O (h / 4) + h % 4) / 4) + ((mt M (4 * ordN O (h / 4) + h % 4) % 4 : Nat) : Int)
def rnM (M O : List Int) (n : Nat) : List Int := fillL (4 * n) (rnAt M O n)
def rnT (O : List Int) (n x : Nat) : Nat := 4 * back (ordN O) n (x / 4) + x % 4
section
variable {S M : List Int} {L : Int} {O : List Int} (hv : vldB S M L = true) (hg : ∀ i, i < S.length → goodAt O S.length i)
include hv hg
theorem rn_iso : Iso M (rnM M O S.length) S.length (rnT O S.length) 1 := by
  have hs := vldB_shape hv
  have hb : ∀ c, c < S.length → back (ordN O) S.length c < S.length := fun c hc => (num_back hg hc).2.1
  refine ⟨⟨fun x hx => ?_, fun x y hx hy he => ?_⟩, fun x hx => ?_, fun x hx => ?_, .inl rfl⟩
  · have := hb (x / 4) (by omega)
    unfold rnT; omega
  · unfold rnT at he
    have h1 : back (ordN O) S.length (x / 4) = back (ordN O) S.length (y / 4) := by omega
    have h2 := (num_back hg (c := x / 4) (by omega)).2.2
    have h3 := (num_back hg (c := y / 4) (by omega)).2.2
    rw [h1, h3] at h2
    omega
  · have h1 := hb (x / 4) (by omega)
    have h2 := (num_back hg (c := x / 4) (by omega)).2.2
    have e1 : rnT O S.length x / 4 = back (ordN O) S.length (x / 4) := by unfold rnT; omega
    have e2 : rnT O S.length x % 4 = x % 4 := by unfold rnT; omega
    rw [rnM, nth_fillL _ _ _ (by unfold rnT; omega)]
    unfold rnAt
    rw [e1, e2, h2, show 4 * (x / 4) + x % 4 = x from by omega]
    have h3 := hs.mt_lt hx
    rw [(num_back hg (c := mt M x / 4) (by omega)).1]
    unfold rnT
    omega
  · have h1 := tn_div x 1
    have h2 := tn_mod x 1
    have e1 : rnT O S.length x / 4 = back (ordN O) S.length (x / 4) := by unfold rnT; omega
    have e2 : rnT O S.length x % 4 = x % 4 := by unfold rnT; omega
    have h3 := tn_div (rnT O S.length x) 1
    have h4 := tn_mod (rnT O S.length x) 1
    have h5 : rnT O S.length (tn x 1) = 4 * back (ordN O) S.length (tn x 1 / 4) + tn x 1 % 4 := rfl
    rw [h5, h1, h2]
    rw [e1] at h3
    rw [e2] at h4
    omega
omit hv in
theorem rn_sign (c : Nat) (hc : c < S.length) : nth (rnS S O S.length) (back (ordN O) S.length c) = nth S c := by
  obtain ⟨_, h1, h2⟩ := num_back hg hc
  rw [rnS, nth_fillL _ _ _ h1, h2]
omit hv in
theorem rn_out (x : Nat) (hx : x < 4 * S.length) : outB (rnS S O S.length) (rnT O S.length x) = outB S x := by
  have e1 : rnT O S.length x / 4 = back (ordN O) S.length (x / 4) := by unfold rnT; omega
  have e2 : rnT O S.length x % 4 = x % 4 := by unfold rnT; omega
  rcases (show x % 4 = 0 ∨ x % 4 = 1 ∨ x % 4 = 2 ∨ x % 4 = 3 from by omega) with e | e | e | e
  · rw [outB_0 S x e, outB_0 _ _ (by omega)]
  · rw [outB_1 S x e, outB_1 _ _ (by omega), e1, rn_sign hg _ (by omega)]
  · rw [outB_2 S x e, outB_2 _ _ (by omega)]
  · rw [outB_3 S x e, outB_3 _ _ (by omega), e1, rn_sign hg _ (by omega)]
theorem rn_valid : vldB (rnS S O S.length) (rnM M O S.length) L = true := by
  have hs := vldB_shape hv
  refine Iso.valid hv (fillL_len _ _) (fillL_len _ _) (rn_iso hv hg) (fun c hc => ?_) (fun x hx => ?_)
  · rw [rnS, nth_fillL _ _ _ hc]
    exact hs.sign _ (ordN_lt hg hc)
  · rw [rn_out hg x hx, rn_out hg _ (hs.mt_lt hx), hs.out_mt hx]
    cases outB S x <;> decide
omit hv in
theorem back_perm : Inj (back (ordN O) S.length) S.length := back_inj (ordN_inj hg)
theorem rn_wr : wr (rnS S O S.length) = wr S := by
  have hs := vldB_shape hv
  unfold wr
  rw [show (rnS S O S.length).length = S.length from fillL_len _ _]
  refine wsum_bij (back_perm hg) (fun c hc => ?_) (fun c hc => rn_sign hg c hc)
  rcases hs.sign c hc with h | h <;> rw [h] <;> simp
theorem rn_tl : tl (rnS S O S.length) (rnM M O S.length) = tl S M := by
  have hs := vldB_shape hv
  have hs' := vldB_shape (rn_valid hv hg)
  unfold tl
  rw [show (rnS S O S.length).length = S.length from fillL_len _ _]
  refine wsum_bij (back_perm hg) (fun c hc => ?_) (fun c hc => ?_)
  · split
    · rcases hs.sign c hc with h | h <;> rw [h] <;> simp
    · simp
  · have h1 := Iso.lk hs hs' (fillL_len _ _) (rn_iso hv hg) c hc
    have h2 : rnT O S.length (4 * c) / 4 = back (ordN O) S.length c := by
      unfold rnT
      rw [show 4 * c / 4 = c from by omega]; omega
    rw [h2] at h1
    rw [h1, rn_sign hg c hc]
end
end Go.Proofs.Ytkopbcehfbmnmaa
