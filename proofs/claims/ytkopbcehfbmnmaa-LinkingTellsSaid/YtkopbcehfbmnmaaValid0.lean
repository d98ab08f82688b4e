/- Plain law: what diagram.Valid computes. -/
import Derived.Test.YtkopbcehfbmnmaaSph0
namespace Go.Proofs.Ytkopbcehfbmnmaa
open Go Go.RowKit
/-- All signs are 1 or -1, among the first k. -/
def signsTo (S : List Int) (k : Nat) : Prop := ∀ c, c < k → nth S c = 1 ∨ nth S c = -1
/-- One mate is in order. -/
def mateOk (S M : List Int) (n h : Nat) : Prop := 0 ≤ nth M h ∧ nth M h < 4 * (n : Int) ∧ nth M h ≠ (h : Int) ∧ nth M (nth M h).toNat = (h : Int) ∧ outB S h ≠ outB S (nth M h).toNat
instance (S M : List Int) (n h : Nat) : Decidable (mateOk S M n h) := by unfold mateOk; infer_instance
/-- The first k mates are in order. -/
def matesTo (S M : List Int) (n k : Nat) : Prop := ∀ h, h < k → mateOk S M n h
/-- The sizes, the signs and the mates are in order. -/
def shapeB (S M : List Int) (L : Int) : Bool :=
  decide (S.length ≤ 64) && decide (M.length = 4 * S.length) && decide (0 ≤ L) && decide (L ≤ 64) && decide (∀ c, c < S.length → nth S c = 1 ∨ nth S c = -1) && decide (∀ h, h < 4 * S.length → mateOk S M S.length h)
/-- diagram.Valid's answer. -/
def vldB (S M : List Int) (L : Int) : Bool := shapeB S M L && sphB M S.length
structure Shape (S M : List Int) (L : Int) : Prop where
  few : S.length ≤ 64
  len : M.length = 4 * S.length
  lo : 0 ≤ L
  hi : L ≤ 64
  sign : ∀ c, c < S.length → nth S c = 1 ∨ nth S c = -1
  mate : ∀ h, h < 4 * S.length → mateOk S M S.length h
theorem shapeB_iff (S M : List Int) (L : Int) : shapeB S M L = true ↔ Shape S M L := by
  unfold shapeB
  simp only [Bool.and_eq_true, decide_eq_true_eq]
  exact ⟨fun ⟨⟨⟨⟨⟨a, b⟩, c⟩, d⟩, e⟩, f⟩ => ⟨a, b, c, d, e, f⟩, fun ⟨a, b, c, d, e, f⟩ => ⟨⟨⟨⟨⟨a, b⟩, c⟩, d⟩, e⟩, f⟩⟩
theorem vldB_no {S M : List Int} {L : Int} (h : ¬ Shape S M L) : vldB S M L = false := by
  unfold vldB
  have : shapeB S M L = false := by rw [← Bool.not_eq_true]; rw [shapeB_iff]; exact h
  rw [this, Bool.false_and]
theorem vldB_yes {S M : List Int} {L : Int} (h : Shape S M L) : vldB S M L = sphB M S.length := by
  unfold vldB
  rw [(shapeB_iff S M L).2 h, Bool.true_and]
namespace Shape
variable {S M : List Int} {L : Int} (hs : Shape S M L)
include hs
/-- The mate of a half-edge. -/
theorem range : ∀ i, i < 4 * S.length → 0 ≤ nth M i ∧ nth M i < 4 * (S.length : Int) := fun i hi => ⟨(hs.mate i hi).1, (hs.mate i hi).2.1⟩
theorem toNat_lt (i : Nat) (hi : i < 4 * S.length) : (nth M i).toNat < 4 * S.length := by have := hs.range i hi; omega
theorem cast (i : Nat) (hi : i < 4 * S.length) : ((nth M i).toNat : Int) = nth M i := by have := hs.range i hi; omega
theorem invol (i : Nat) (hi : i < 4 * S.length) : (nth M (nth M i).toNat).toNat = i := by have := (hs.mate i hi).2.2.2.1; omega
/-- The face's step is one-to-one. -/
theorem injF : Inj (fc M) (4 * S.length) := by
  refine ⟨fun x hx => tn_lt _ _ _ (hs.toNat_lt x hx), fun x y hx hy he => ?_⟩
  have h1 : (nth M x).toNat = (nth M y).toNat := by
    unfold fc tn at he
    omega
  have h2 := hs.invol x hx
  have h3 := hs.invol y hy
  rw [h1] at h2
  omega
end Shape
end Go.Proofs.Ytkopbcehfbmnmaa
