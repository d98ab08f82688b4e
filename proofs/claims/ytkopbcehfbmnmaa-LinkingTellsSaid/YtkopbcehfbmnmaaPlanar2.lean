/- Plain law: on a sphere each even set of edges bounds: the theorem. -/
import Derived.Test.YtkopbcehfbmnmaaPlanar1
namespace Go.Proofs.Ytkopbcehfbmnmaa
open Go Go.RowKit
/-- Mates in order, none its own. -/
structure Mates (M : List Int) (n : Nat) : Prop where
  ok : MateOk M n
  ne : ∀ x, x < 4 * n → mt M x ≠ x
theorem Shape.mates2 {S M : List Int} {L : Int} (hs : Shape S M L) : Mates M S.length := ⟨hs.mates, fun x hx e => by
  have h1 := (hs.mate x hx).2.2.1
  have h2 := hs.range x hx
  unfold mt at e
  omega⟩
namespace Mates
variable {M : List Int} {n : Nat} (hm : Mates M n)
include hm
theorem lt {x : Nat} (hx : x < 4 * n) : mt M x < 4 * n := by have := hm.ok.lt x hx; unfold mt; omega
theorem inv {x : Nat} (hx : x < 4 * n) : mt M (mt M x) = x := by
  have h1 := hm.ok.inv x hx
  have : nth M (mt M x) = (x : Int) := h1
  unfold mt at *
  rw [this]; rfl
omit hm in
theorem adj {x : Nat} : Adj M (x / 4) (mt M x / 4) := ⟨x % 4, by omega, by rw [show 4 * (x / 4) + x % 4 = x from by omega]; rfl⟩
theorem conn {c x : Nat} (hx : x < 4 * n) : Conn M c (x / 4) ↔ Conn M c (mt M x / 4) := by
  refine ⟨fun h => h.step adj, fun h => h.step ?_⟩
  have := adj (M := M) (x := mt M x)
  rwa [hm.inv hx] at this
theorem inj : Inj (fc M) (4 * n) := hm.ok.injF
theorem per : ∀ x, x < 4 * n → IsPer (fc M) x (perOf (fc M) (4 * n) x) := perOf_all hm.inj
theorem face_mt {x : Nat} (hx : x < 4 * n) : lf M n (mt M x) = lf M n (tn x (-1)) := by
  have h1 := fl_step hm.inj hm.per (hm.lt hx)
  have h2 : fc M (mt M x) = tn x (-1) := by
    show tn (nth M (mt M x)).toNat (-1) = _
    have := hm.inv hx
    unfold mt at this ⊢
    rw [this]
  rw [h2] at h1
  exact h1.symm
theorem face_lt {x : Nat} (hx : x < 4 * n) : lf M n x < 4 * n := fl_lt hm.inj hm.per hx
/-- The step along a face stays in the part. -/
theorem conn_fc {c x : Nat} (hx : x < 4 * n) : Conn M c (fc M x / 4) ↔ Conn M c (x / 4) := by
  have : fc M x / 4 = mt M x / 4 := tn_div _ _
  rw [this]; exact (hm.conn hx).symm
theorem conn_orb {c x y : Nat} (hx : x < 4 * n) (ho : OnOrb (fc M) x y) : Conn M c (y / 4) ↔ Conn M c (x / 4) := by
  obtain ⟨j, rfl⟩ := ho
  induction j with
  | zero => exact Iff.rfl
  | succ j ih => rw [iter_succ, hm.conn_fc (iter_lt _ _ hm.inj.lt j x hx), ih]
theorem conn_face {c x : Nat} (hx : x < 4 * n) : Conn M c (lf M n x / 4) ↔ Conn M c (x / 4) := hm.conn_orb hx (fl_spec hm.per hx).1
end Mates
open Classical in
/-- The half-edges of the part of c. -/
noncomputable def UU (M : List Int) (c x : Nat) : Bool := decide (Conn M c (x / 4))
open Classical in
theorem UU_iff {M : List Int} {c x : Nat} : UU M c x = true ↔ Conn M c (x / 4) := by unfold UU; exact decide_eq_true_iff
section
variable {M : List Int} {n c0 : Nat} (hm : Mates M n)
include hm
theorem UU_mt {x : Nat} (hx : x < 4 * n) : UU M c0 (mt M x) = UU M c0 x := by
  rw [Bool.eq_iff_iff, UU_iff, UU_iff]; exact (hm.conn hx).symm
/-- Both halves of a greedy forest's edges. -/
theorem halves {v : Nat → Nat} {E : Nat → Bool} : cnt (fun x => isTree (mt M) v E x || isTree (mt M) v E (mt M x)) (4 * n) = 2 * cnt (isTree (mt M) v E) (4 * n) := by
  rw [cnt_or fun x hx => ?_]
  · have h1 : cnt (fun x => isTree (mt M) v E (mt M x)) (4 * n) = cnt (isTree (mt M) v E) (4 * n) := by
      refine Nat.le_antisymm ?_ ?_
      · exact cnt_inj (mt M) (fun x hx hp => ⟨hm.lt hx, hp⟩) (fun x y hx hy _ _ he => by rw [← hm.inv hx, he, hm.inv hy])
      · exact cnt_inj (mt M) (fun x hx hp => ⟨hm.lt hx, by rw [hm.inv hx]; exact hp⟩) (fun x y hx hy _ _ he => by rw [← hm.inv hx, he, hm.inv hy])
    rw [h1]; omega
  · rintro ⟨h1, h2⟩
    have key : ∀ x, x < 4 * n → isTree (mt M) v E x = true → isTree (mt M) v E (mt M x) = true → x < mt M x → False := by
      intro x hx h1 h2 hlt
      have h3 := labn_mono (m := mt M) (v := v) (E := E) (l := mt M x) (k := x + 1) (y := v x) (z := v (mt M x)) (by omega) (labn_joined (isTree_E h1))
      have h4 := isTree_ne h2
      rw [hm.inv hx] at h4
      exact h4 h3.symm
    have hne := hm.ne x hx
    rcases Nat.lt_or_ge x (mt M x) with g | g
    · exact key x hx h1 h2 g
    · exact key (mt M x) (hm.lt hx) h2 (by rw [hm.inv hx]; exact h1) (by rw [hm.inv hx]; omega)
end
end Go.Proofs.Ytkopbcehfbmnmaa
