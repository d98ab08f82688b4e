/- A renaming keeps a quandle; the law's own renaming x -> (k x + t) mod n. -/
import Derived.Test.YtlgiponfcmeiiaaDoorRnmP
namespace Go.Proofs.YtlgiponfcmeiiaaDoor
open Go Go.RowKit
theorem Ren.onto {n : Nat} {f r : Nat → Nat → Nat} {g : Nat → Nat} (h : Ren n f r g) {y : Nat} (hy : y < n) : ∃ x, x < n ∧ g x = y := by
  obtain ⟨u, hu, _, he⟩ := onto_in (p := fun _ => True) (g := g) (n := n) (fun v hv _ => ⟨h.lt v hv, trivial⟩) h.inj hy trivial
  exact ⟨u, hu, he⟩
theorem Ren.closed {n : Nat} {f r : Nat → Nat → Nat} {g : Nat → Nat} (h : Ren n f r g) (hlt : ∀ x y, x < n → y < n → f x y < n) : ∀ x y, x < n → y < n → r x y < n := fun x y hx hy => by
  obtain ⟨a, ha, rfl⟩ := h.onto hx
  obtain ⟨b, hb, rfl⟩ := h.onto hy
  rw [h.hom a b ha hb]
  exact h.lt _ (hlt a b ha hb)
theorem Ren.idm {n : Nat} {f r : Nat → Nat → Nat} {g : Nat → Nat} (h : Ren n f r g) (hq : IdmN f n) : IdmN r n := fun x hx => by
  obtain ⟨a, ha, rfl⟩ := h.onto hx
  rw [h.hom a a ha ha, hq a ha]
theorem Ren.ivt {n : Nat} {f r : Nat → Nat → Nat} {g : Nat → Nat} (h : Ren n f r g) (hlt : ∀ x y, x < n → y < n → f x y < n) (hq : IvtN f n) : IvtN r n := fun y hy x z hx hz e => by
  obtain ⟨a, ha, rfl⟩ := h.onto hx
  obtain ⟨b, hb, rfl⟩ := h.onto hy
  obtain ⟨d, hd, rfl⟩ := h.onto hz
  rw [h.hom a b ha hb, h.hom d b hd hb] at e
  rw [hq b hb a d ha hd (h.inj _ _ (hlt a b ha hb) (hlt d b hd hb) e)]
theorem Ren.dst {n : Nat} {f r : Nat → Nat → Nat} {g : Nat → Nat} (h : Ren n f r g) (hlt : ∀ x y, x < n → y < n → f x y < n) (hq : DstN f n) : DstN r n := fun x hx y hy z hz => by
  obtain ⟨a, ha, rfl⟩ := h.onto hx
  obtain ⟨b, hb, rfl⟩ := h.onto hy
  obtain ⟨d, hd, rfl⟩ := h.onto hz
  rw [h.hom a b ha hb, h.hom a d ha hd, h.hom b d hb hd, h.hom _ d (hlt a b ha hb) hd, h.hom _ _ (hlt a d ha hd) (hlt b d hb hd), hq a ha b hb d hd]
def nmV (n k t x : Nat) : Nat := (k * x + t) % n
theorem nmV_lt (n k t x : Nat) (h : 0 < n) : nmV n k t x < n := Nat.mod_lt _ h
theorem nmV_inj (n k t x z : Nat) (hg : Nat.gcd k n = 1) (hx : x < n) (hz : z < n) (h : nmV n k t x = nmV n k t z) : x = z := by
  unfold nmV at h
  have h1 : ((k : Int) * x + t) % n = ((k : Int) * z + t) % n := by
    have := congrArg (fun v : Nat => (v : Int)) h
    simpa using this
  rw [Int.emod_eq_emod_iff_emod_sub_eq_zero] at h1
  have h2 : (n : Int) ∣ (k : Int) * ((x : Int) - z) := by
    have := Int.dvd_of_emod_eq_zero h1
    rwa [show (k : Int) * x + t - (k * z + t) = k * ((x : Int) - z) from by grind] at this
  have h3 : n ∣ k * ((x : Int) - z).natAbs := by
    have := Int.natAbs_dvd_natAbs.2 h2
    rwa [Int.natAbs_mul, Int.natAbs_natCast, Int.natAbs_natCast] at this
  have h4 : n ∣ ((x : Int) - z).natAbs := (Nat.Coprime.symm (show Nat.Coprime k n from hg)).dvd_of_dvd_mul_left h3
  rcases Nat.eq_zero_or_pos ((x : Int) - z).natAbs with e | e
  · omega
  · have := Nat.le_of_dvd e h4
    omega
/-- A renaming is undone by a renaming. -/
theorem Ren.undo {n : Nat} {f r : Nat → Nat → Nat} {g : Nat → Nat} (h : Ren n f r g) (hlt : ∀ x y, x < n → y < n → f x y < n) : ∃ k, Ren n r f k ∧ ∀ x, x < n → k (g x) = x := by
  obtain ⟨k, hk⟩ : ∃ k : Nat → Nat, ∀ y, y < n → k y < n ∧ g (k y) = y := by
    refine ⟨fun y => if hy : y < n then Classical.choose (h.onto hy) else 0, fun y hy => ?_⟩
    simp only [hy, dite_true]
    exact Classical.choose_spec (h.onto hy)
  have hkg : ∀ x, x < n → k (g x) = x := fun x hx => h.inj _ _ (hk _ (h.lt x hx)).1 hx (hk _ (h.lt x hx)).2
  refine ⟨k, ⟨fun x hx => (hk x hx).1, fun x y hx hy e => by rw [← (hk x hx).2, ← (hk y hy).2, e], fun x y hx hy => ?_⟩, hkg⟩
  obtain ⟨a, ha, rfl⟩ := h.onto hx
  obtain ⟨b, hb, rfl⟩ := h.onto hy
  rw [hkg a ha, hkg b hb, h.hom a b ha hb, hkg _ (hlt a b ha hb)]
/-- As many orbits of each size. -/
theorem Ren.count {n s : Nat} {f r : Nat → Nat → Nat} {g : Nat → Nat} (h : Ren n f r g) (hlt : ∀ x y, x < n → y < n → f x y < n) (hi : IvtN f n) : ((orbT f n).filter fun l => l.length == s).length = ((orbT r n).filter fun l => l.length == s).length := by
  obtain ⟨k, h', hk⟩ := h.undo hlt
  have hgk : ∀ y, y < n → g (k y) = y := fun y hy => by
    obtain ⟨a, ha, rfl⟩ := h.onto hy
    rw [hk a ha]
  rw [orb_count, orb_count]
  exact Nat.le_antisymm (h.sz_le h' hk hlt (h.closed hlt) hi (h.ivt hlt hi)) (h'.sz_le h hgk (h.closed hlt) hlt (h.ivt hlt hi) hi)
end Go.Proofs.YtlgiponfcmeiiaaDoor
