/- Plain law: which strand passes a crossing under, and which one over. -/
import Derived.Test.YtkopbcehfbmnmaaStrandsW
import Derived.Test.YtkopbcehfbmnmaaSph1
namespace Go.Proofs.Ytkopbcehfbmnmaa
open Go Go.RowKit
/-- f, turned at k. -/
def upd (f : Nat → Int × Int) (k : Nat) (p : Int × Int) : Nat → Int × Int := fun i => if i = k then p else f i
/-- What the half-edge h of strand k turns. -/
def own1 (k : Nat) (f : Nat → Int × Int) (h : Nat) : Nat → Int × Int := upd f (h / 4) (if h % 2 = 0 then ((k : Int), (f (h / 4)).2) else ((f (h / 4)).1, (k : Int)))
/-- .. the strands below k. -/
def ownTo (ls : List (List Nat)) : Nat → Nat → Int × Int
  | 0 => fun _ => (0, 0)
  | k + 1 => (ls.getD k []).foldl (own1 k) (ownTo ls k)
/-- .. all. -/
def ownF (ls : List (List Nat)) : Nat → Int × Int := ownTo ls ls.length
theorem own_take (k : Nat) (f : Nat → Int × Int) (l : List Nat) (j : Nat) (x : Nat) (hx : l[j]? = some x) : (l.take (j + 1)).foldl (own1 k) f = own1 k ((l.take j).foldl (own1 k) f) x := by
  rw [List.take_add_one, hx, List.foldl_append]; rfl
/-- The lists of a diagram of at most 64 crossings. -/
structure Lists (ls : List (List Nat)) (n : Nat) : Prop where
  few : ls.length ≤ 4 * n
  len : ∀ (k : Nat) (l : List Nat), ls[k]? = some l → l.length ≤ 4 * n
  lt : ∀ (k : Nat) (l : List Nat) (j x : Nat), ls[k]? = some l → l[j]? = some x → x < 4 * n
theorem Shape.outS {S M : List Int} {L : Int} (hs : Shape S M L) (h : Nat) (hh : h < 4 * S.length) : outB S (sc M h) = outB S h := by
  have h1 := (hs.mate h hh).2.2.2.2
  have h2 := hs.toNat_lt h hh
  have h3 := hs.sign ((nth M h).toNat / 4) (by omega)
  unfold sc
  generalize (nth M h).toNat = m at *
  have h4 : tn m 2 / 4 = m / 4 := tn_div m 2
  have h5 : tn m 2 % 4 = (m % 4 + 2) % 4 := by rw [tn_mod]; omega
  have h6 : outB S (tn m 2) = !(outB S m) := by
    unfold outB
    rw [h4, h5]
    have : m % 4 = 0 ∨ m % 4 = 1 ∨ m % 4 = 2 ∨ m % 4 = 3 := by omega
    rcases this with e | e | e | e <;> rcases h3 with g | g <;> simp [e, g]
  rw [h6]
  cases hx : outB S h <;> cases hy : outB S m <;> simp_all
theorem strandsL_eq {S M : List Int} {L : Int} (hv : vldB S M L = true) : strandsL S M L = clTo (sc M) (perOf (sc M) (4 * S.length)) (outB S) (4 * S.length) := by
  have hs := vldB_shape hv
  unfold strandsL
  rw [if_pos hv]
  exact cycs_eq hs.injS (perOf_all hs.injS) (outB S) fun x hx => hs.outS x hx
theorem clTo_lists {f : Nat → Nat} {wb : Nat → Bool} {n : Nat} (hf : Inj f (4 * n)) : Lists (clTo f (perOf f (4 * n)) wb (4 * n)) n := by
  refine ⟨clTo_len _ _ _ _, fun k l hl => ?_, fun k l j x hl hx => ?_⟩
  · have hm := List.mem_of_getElem? hl
    unfold clTo at hm
    simp only [List.mem_map, List.mem_filter, List.mem_range] at hm
    obtain ⟨y, ⟨hy, _⟩, rfl⟩ := hm
    rw [orb_length]
    exact perOf_le f (4 * n) y (by omega)
  · have hm := List.mem_of_getElem? hl
    unfold clTo at hm
    simp only [List.mem_map, List.mem_filter, List.mem_range] at hm
    obtain ⟨y, ⟨hy, _⟩, rfl⟩ := hm
    have := List.mem_of_getElem? hx
    rw [mem_orb (perOf_spec hf y hy)] at this
    exact onOrb_lt hf hy this
theorem strandsL_lists {S M : List Int} {L : Int} (hv : vldB S M L = true) : Lists (strandsL S M L) S.length := by
  rw [strandsL_eq hv]
  exact clTo_lists (vldB_shape hv).injS
/-- The sum of the signs of the first k crossings that are kept. -/
def sumTo (S : List Int) (f : Nat → Int × Int) (keep : Int → Int → Bool) : Nat → Int
  | 0 => 0
  | k + 1 => if keep (f k).1 (f k).2 = true then sumTo S f keep k + nth S k else sumTo S f keep k
theorem sumTo_bd (S : List Int) (f : Nat → Int × Int) (keep : Int → Int → Bool) (hS : ∀ c, -1 ≤ nth S c ∧ nth S c ≤ 1) (k : Nat) : -(k : Int) ≤ sumTo S f keep k ∧ sumTo S f keep k ≤ k := by
  induction k with
  | zero => simp [sumTo]
  | succ k ih =>
    have := hS k
    rw [sumTo]
    split <;> omega
end Go.Proofs.Ytkopbcehfbmnmaa
