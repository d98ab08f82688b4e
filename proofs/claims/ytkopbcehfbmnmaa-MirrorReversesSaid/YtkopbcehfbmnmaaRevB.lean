/- Plain laws: strands reversed, some of them: a reversed strand is found again; all of them together. -/
import Derived.Test.YtkopbcehfbmnmaaRevA
import Derived.Test.YtkopbcehfbmnmaaMirB
namespace Go.Proofs.Ytkopbcehfbmnmaa
open Go Go.RowKit
/-- The strands of A reversed: the turns, the signs. -/
def rAB (S M : List Int) (A : Nat → Bool) (c : Nat) : Int := if A (ix S M (4 * c + 2)) = true then 2 else 0
def rAS (S M : List Int) (A : Nat → Bool) (c : Nat) : Int := if A (ix S M (4 * c + 2)) = A (ix S M (4 * c + 1)) then 1 else -1
theorem rAB_bd (S M : List Int) (A : Nat → Bool) (c : Nat) : 0 ≤ rAB S M A c ∧ rAB S M A c ≤ 2 := by unfold rAB; split <;> omega
theorem rAB_02 (S M : List Int) (A : Nat → Bool) (c : Nat) : rAB S M A c = 0 ∨ rAB S M A c = 2 := by unfold rAB; split <;> simp
theorem rAS_one (S M : List Int) (A : Nat → Bool) (c : Nat) : rAS S M A c = 1 ∨ rAS S M A c = -1 := by unfold rAS; split <;> simp
theorem r1B_A (S M : List Int) (i : Nat) : r1B S M i = rAB S M fun k => decide (k = i) := rfl
theorem r1S_A (S M : List Int) (i : Nat) : r1S S M i = rAS S M fun k => decide (k = i) := rfl
/-- .. the diagram. -/
def rvS (S M : List Int) (A : Nat → Bool) : List Int := mulS S (rAS S M A)
def rvM (S M : List Int) (A : Nat → Bool) : List Int := mvL (trn (rAB S M A)) M
theorem rvS_len (S M : List Int) (A : Nat → Bool) : (rvS S M A).length = S.length := mulS_len _ _
theorem trn_par {b : Nat → Int} (hb : ∀ c, b c = 0 ∨ b c = 2) (x : Nat) : trn b x % 2 = x % 2 := by
  unfold trn tn
  rcases hb (x / 4) with h | h <;> rw [h] <;> omega
section
variable {S M : List Int} {L : Int} (hv : vldB S M L = true) (A : Nat → Bool)
include hv
theorem ix_par {x y : Nat} (hx : x < 4 * S.length) (hc : x / 4 = y / 4) (hp : x % 2 = y % 2) : ix S M x = ix S M y := by
  have hs := vldB_shape hv
  have hy : y < 4 * S.length := by omega
  rw [ix_eq hs hx hy]
  by_cases h : x % 2 = 0
  · rw [hs.st_even hx h, hs.st_even hy (by omega), hc]
  · rw [hs.st_odd hx (by omega), hs.st_odd hy (by omega), hc]
theorem rA_out (x : Nat) (hx : x < 4 * S.length) : outB (rvS S M A) (trn (rAB S M A) x) = (outB S x ^^ A (ix S M x)) := by
  have hc : x / 4 < S.length := by omega
  have hd := trn_div (rAB S M A) x
  have hm : trn (rAB S M A) x % 4 = (((x % 4 : Nat) : Int) + rAB S M A (x / 4) + 8).toNat % 4 := tn_mod _ _
  have hi : A (ix S M x) = if x % 2 = 0 then A (ix S M (4 * (x / 4) + 2)) else A (ix S M (4 * (x / 4) + 1)) := by
    by_cases h : x % 2 = 0
    · rw [if_pos h, ix_par hv hx (y := 4 * (x / 4) + 2) (by omega) (by omega)]
    · rw [if_neg h, ix_par hv hx (y := 4 * (x / 4) + 1) (by omega) (by omega)]
  unfold rvS
  rw [hi, outB_slot, outB_slot, hd, nth_mulS S _ _ hc, hm]
  unfold rAS rAB
  generalize A (ix S M (4 * (x / 4) + 2)) = u
  generalize A (ix S M (4 * (x / 4) + 1)) = o
  rcases (vldB_shape hv).sign (x / 4) hc with g | g <;> rw [g] <;>
    rcases (show (x % 4 = 0 ∧ x % 2 = 0) ∨ (x % 4 = 1 ∧ x % 2 = 1) ∨ (x % 4 = 2 ∧ x % 2 = 0) ∨ (x % 4 = 3 ∧ x % 2 = 1) from by omega) with ⟨e, e2⟩ | ⟨e, e2⟩ | ⟨e, e2⟩ | ⟨e, e2⟩ <;> rw [e, e2] <;> cases u <;> cases o <;> decide
theorem rA_iso : Iso M (rvM S M A) S.length (trn (rAB S M A)) 1 :=
  trn_iso (vldB_shape hv).len _ fun c => by have := rAB_bd S M A c; omega
theorem rA_valid : vldB (rvS S M A) (rvM S M A) L = true := by
  have hs := vldB_shape hv
  refine Iso.valid hv (rvS_len S M A) (by unfold rvM; rw [mvL_len]; exact hs.len) (rA_iso hv A) (fun c hc => ?_) (fun x hx => ?_)
  · unfold rvS
    rw [nth_mulS S _ c hc]
    rcases hs.sign c hc with g | g <;> rcases rAS_one S M A c with h | h <;> rw [g, h] <;> decide
  · have he : ix S M (mt M x) = ix S M x := by unfold ix; rw [hs.st_mt hx]
    rw [rA_out hv A x hx, rA_out hv A _ (hs.mt_lt hx), hs.out_mt hx, he]
    cases outB S x <;> cases A (ix S M x) <;> decide
theorem rA_len : (leasts (rvS S M A) (rvM S M A)).length = (leasts S M).length := Iso.leasts_eq (vldB_shape hv) (vldB_shape (rA_valid hv A)) (rvS_len S M A) (rA_iso hv A)
/-- A strand's number behind the reversal. -/
theorem rA_find {i : Nat} (hi : i < (leasts S M).length) : ∃ j, j < (leasts (rvS S M A) (rvM S M A)).length ∧ ∀ x, x < 4 * S.length → (ix (rvS S M A) (rvM S M A) x = j ↔ ix S M x = i) := by
  have hs := vldB_shape hv
  have hs1 := vldB_shape (rA_valid hv A)
  have hl := rvS_len S M A
  have hI := rA_iso hv A
  obtain ⟨r, hr⟩ : ∃ r, (leasts S M)[i]? = some r := ⟨_, List.getElem?_eq_getElem hi⟩
  obtain ⟨r1, _, r3⟩ := (mem_leasts hs).1 (List.mem_of_getElem? hr)
  have hri : ix S M r = i := (ix_iff hs r1).2 (by rw [r3]; exact hr)
  have h4 : 4 * (rvS S M A).length = 4 * S.length := by rw [hl]
  have hτ : ∀ x, x < 4 * S.length → trn (rAB S M A) x < 4 * (rvS S M A).length := fun x hx => by rw [h4]; exact hI.lt hx
  have hv1 := rA_valid hv A
  have hx' : ∀ x, x < 4 * S.length → ix (rvS S M A) (rvM S M A) x = ix (rvS S M A) (rvM S M A) (trn (rAB S M A) x) := fun x hx =>
    ix_par hv1 (by rw [h4]; exact hx) (by rw [trn_div]) (by rw [trn_par (rAB_02 S M A)])
  refine ⟨ix (rvS S M A) (rvM S M A) r, ix_lt hs1 (by rw [h4]; exact r1), fun x hx => ?_⟩
  rw [hx' x hx, hx' r r1, ix_eq hs1 (hτ x hx) (hτ r r1), hI.st_eq hs hs1 hl hx r1, ← ix_eq hs hx r1, hri]
/-- One strand more. -/
theorem rA_more {i j : Nat} (hA : A i = false) (hj : ∀ x, x < 4 * S.length → (ix (rvS S M A) (rvM S M A) x = j ↔ ix S M x = i)) :
    mulS (rvS S M A) (r1S (rvS S M A) (rvM S M A) j) = rvS S M (fun k => A k || decide (k = i)) ∧ mvL (trn (r1B (rvS S M A) (rvM S M A) j)) (rvM S M A) = rvM S M fun k => A k || decide (k = i) := by
  have hs := vldB_shape hv
  have hu : ∀ c, c < S.length → uB (rvS S M A) (rvM S M A) j c = decide (ix S M (4 * c + 2) = i) := fun c hc => by
    unfold uB; rw [decide_eq_decide]; exact hj _ (by omega)
  have ho : ∀ c, c < S.length → oB (rvS S M A) (rvM S M A) j c = decide (ix S M (4 * c + 1) = i) := fun c hc => by
    unfold oB; rw [decide_eq_decide]; exact hj _ (by omega)
  refine ⟨?_, ?_⟩
  · unfold rvS
    rw [mulS_comp]
    refine mulS_congr fun c hc => ?_
    show rAS S M A c * r1S (rvS S M A) (rvM S M A) j c = _
    unfold r1S
    rw [hu c hc, ho c hc]
    show (if A (ix S M (4 * c + 2)) = A (ix S M (4 * c + 1)) then (1 : Int) else -1) * (if decide (ix S M (4 * c + 2) = i) = decide (ix S M (4 * c + 1) = i) then 1 else -1) = if (A (ix S M (4 * c + 2)) || decide (ix S M (4 * c + 2) = i)) = (A (ix S M (4 * c + 1)) || decide (ix S M (4 * c + 1) = i)) then 1 else -1
    generalize ix S M (4 * c + 2) = u
    generalize ix S M (4 * c + 1) = o
    by_cases e1 : u = i
    · by_cases e2 : o = i
      · subst e1; subst e2; simp
      · subst e1
        rw [hA, decide_eq_true rfl, decide_eq_false e2, Bool.or_true, Bool.or_false]
        cases A o <;> decide
    · by_cases e2 : o = i
      · subst e2
        rw [hA, decide_eq_true rfl, decide_eq_false e1, Bool.or_true, Bool.or_false]
        cases A u <;> decide
      · rw [decide_eq_false e1, decide_eq_false e2, Bool.or_false, Bool.or_false, if_pos (show false = false from rfl), Int.mul_one]
  · have hb : ∀ c, -4 ≤ r1B (rvS S M A) (rvM S M A) j c := fun c => by have := r1B_bd (rvS S M A) (rvM S M A) j c; omega
    have hb2 : ∀ c, -4 ≤ rAB S M A c := fun c => by have := rAB_bd S M A c; omega
    show mvL _ (mvL _ M) = mvL _ M
    rw [mvL_comp hs.len (fun x hx => hs.mt_lt hx) (trn_inj _ hb2 _) (trn_inj _ hb _)]
    refine mvL_congr hs.len (fun x hx => hs.mt_lt hx) fun x hx => ?_
    show tn (tn x (rAB S M A (x / 4))) (r1B (rvS S M A) (rvM S M A) j (tn x (rAB S M A (x / 4)) / 4)) = tn x _
    have hc : x / 4 < S.length := by omega
    rw [tn_div]
    have e0 : r1B (rvS S M A) (rvM S M A) j (x / 4) = if decide (ix S M (4 * (x / 4) + 2) = i) = true then 2 else 0 := by unfold r1B; rw [hu _ hc]
    rw [e0, tn_tn _ _ _ (hb2 _) (by split <;> omega) (by have := rAB_bd S M A (x / 4); split <;> omega)]
    show tn x ((if A (ix S M (4 * (x / 4) + 2)) = true then 2 else 0) + if decide (ix S M (4 * (x / 4) + 2) = i) = true then 2 else 0) = tn x (if (A (ix S M (4 * (x / 4) + 2)) || decide (ix S M (4 * (x / 4) + 2) = i)) = true then 2 else 0)
    by_cases e1 : ix S M (4 * (x / 4) + 2) = i
    · rw [e1, hA, decide_eq_true rfl, Bool.or_true]; rfl
    · rw [decide_eq_false e1, Bool.or_false]
      cases A (ix S M (4 * (x / 4) + 2)) <;> rfl
/-- .. and back. -/
theorem rA_none (h : ∀ k, k < (leasts S M).length → A k = false) : rvS S M A = S ∧ rvM S M A = M := by
  have hs := vldB_shape hv
  have h1 : ∀ c, c < S.length → A (ix S M (4 * c + 2)) = false := fun c hc => h _ (ix_lt hs (by omega))
  have h2 : ∀ c, c < S.length → A (ix S M (4 * c + 1)) = false := fun c hc => h _ (ix_lt hs (by omega))
  refine ⟨mulS_one fun c hc => by unfold rAS; rw [h1 c hc, h2 c hc]; rfl, ?_⟩
  show mvL _ M = M
  rw [mvL_congr hs.len (fun x hx => hs.mt_lt hx) (σ := fun x => x) fun x hx => ?_]
  · exact mvL_id hs.len fun x hx => (hs.cast x hx).symm
  · show tn x (rAB S M A (x / 4)) = x
    unfold rAB
    rw [h1 _ (by omega), if_neg (by decide), tn_zero]
theorem rA_undo {i j : Nat} (hj : ∀ x, x < 4 * S.length → (ix (rvS S M fun k => decide (k = i)) (rvM S M fun k => decide (k = i)) x = j ↔ ix S M x = i)) :
    mulS (rvS S M fun k => decide (k = i)) (r1S (rvS S M fun k => decide (k = i)) (rvM S M fun k => decide (k = i)) j) = S ∧ mvL (trn (r1B (rvS S M fun k => decide (k = i)) (rvM S M fun k => decide (k = i)) j)) (rvM S M fun k => decide (k = i)) = M := by
  have hs := vldB_shape hv
  have hu : ∀ c, c < S.length → uB (rvS S M fun k => decide (k = i)) (rvM S M fun k => decide (k = i)) j c = decide (ix S M (4 * c + 2) = i) := fun c hc => by
    unfold uB; rw [decide_eq_decide]; exact hj _ (by omega)
  have ho : ∀ c, c < S.length → oB (rvS S M fun k => decide (k = i)) (rvM S M fun k => decide (k = i)) j c = decide (ix S M (4 * c + 1) = i) := fun c hc => by
    unfold oB; rw [decide_eq_decide]; exact hj _ (by omega)
  refine ⟨?_, ?_⟩
  · show mulS (mulS S _) _ = S
    rw [mulS_comp]
    refine mulS_one fun c hc => ?_
    unfold r1S
    rw [hu c hc, ho c hc]
    unfold rAS
    by_cases e : decide (ix S M (4 * c + 2) = i) = decide (ix S M (4 * c + 1) = i)
    · rw [if_pos e]; rfl
    · rw [if_neg e]; rfl
  · have hb : ∀ c, -4 ≤ r1B (rvS S M fun k => decide (k = i)) (rvM S M fun k => decide (k = i)) j c := fun c => by have := r1B_bd (rvS S M fun k => decide (k = i)) (rvM S M fun k => decide (k = i)) j c; omega
    have hb2 : ∀ c, -4 ≤ rAB S M (fun k => decide (k = i)) c := fun c => by have := rAB_bd S M (fun k => decide (k = i)) c; omega
    show mvL _ (mvL _ M) = M
    rw [mvL_comp hs.len (fun x hx => hs.mt_lt hx) (trn_inj _ hb2 _) (trn_inj _ hb _), mvL_congr hs.len (fun x hx => hs.mt_lt hx) (σ := fun x => x) fun x hx => ?_]
    · exact mvL_id hs.len fun x hx => (hs.cast x hx).symm
    · show tn (tn x (rAB S M (fun k => decide (k = i)) (x / 4))) (r1B (rvS S M fun k => decide (k = i)) (rvM S M fun k => decide (k = i)) j (tn x (rAB S M (fun k => decide (k = i)) (x / 4)) / 4)) = x
      have hc : x / 4 < S.length := by omega
      rw [tn_div]
      have e0 : r1B (rvS S M fun k => decide (k = i)) (rvM S M fun k => decide (k = i)) j (x / 4) = rAB S M (fun k => decide (k = i)) (x / 4) := by unfold r1B rAB; rw [hu _ hc]
      rw [e0]
      rcases rAB_02 S M (fun k => decide (k = i)) (x / 4) with h | h <;> rw [h]
      · rw [tn_zero, tn_zero]
      · exact tn_22 x
theorem rA_all (h : ∀ k, k < (leasts S M).length → A k = true) : rvS S M A = mulS S (fun _ => 1) ∧ rvM S M A = mvL (trn fun _ => 2) M := by
  have hs := vldB_shape hv
  have h1 : ∀ c, c < S.length → A (ix S M (4 * c + 2)) = true := fun c hc => h _ (ix_lt hs (by omega))
  have h2 : ∀ c, c < S.length → A (ix S M (4 * c + 1)) = true := fun c hc => h _ (ix_lt hs (by omega))
  refine ⟨mulS_congr fun c hc => by unfold rAS; rw [h1 c hc, h2 c hc]; rfl, ?_⟩
  refine mvL_congr hs.len (fun x hx => hs.mt_lt hx) fun x hx => ?_
  show tn x (rAB S M A (x / 4)) = tn x 2
  unfold rAB
  rw [h1 _ (by omega), if_pos rfl]
/-- The reversal of one component leads back. -/
theorem r1_back (i : Nat) : ∃ j, (i < (leasts S M).length → j < (leasts S M).length) ∧ ((leasts S M).length ≤ i → j = i) ∧
    mulS (mulS S (r1S S M i)) (r1S (mulS S (r1S S M i)) (mvL (trn (r1B S M i)) M) j) = S ∧ mvL (trn (r1B (mulS S (r1S S M i)) (mvL (trn (r1B S M i)) M) j)) (mvL (trn (r1B S M i)) M) = M := by
  by_cases hi : i < (leasts S M).length
  · obtain ⟨j, hj1, hj2⟩ := rA_find hv (fun k => decide (k = i)) hi
    rw [rA_len hv] at hj1
    exact ⟨j, fun _ => hj1, fun h => absurd hi (by omega), rA_undo hv hj2⟩
  · have h0 := rA_none hv (fun k => decide (k = i)) fun k hk => decide_eq_false (by omega)
    have e1 : mulS S (r1S S M i) = S := h0.1
    have e2 : mvL (trn (r1B S M i)) M = M := h0.2
    refine ⟨i, fun h => absurd h hi, fun _ => rfl, ?_⟩
    rw [e1, e2]
    exact ⟨e1, e2⟩
end
end Go.Proofs.Ytkopbcehfbmnmaa
