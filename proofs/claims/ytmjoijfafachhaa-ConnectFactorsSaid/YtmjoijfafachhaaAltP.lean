/- Plain law: alternating diagrams: along each strand, and at each edge. -/
import Derived.Test.YtmjoijfafachhaaStrandA
namespace Go.Proofs.Ytmjoijfafachhaa
open Go Go.RowKit
/-- Do passages over and under alternate at the first k half-edges? -/
def altTo (M : List Int) (k : Nat) : Bool := (List.range k).all fun h => decide (h % 2 ≠ mt M h % 2)
/-- .. along the first k places of a list? -/
def rowTo (s : List Nat) (k : Nat) : Bool := (List.range k).all fun i => decide (s.getD i 0 % 2 ≠ s.getD ((i + 1) % s.length) 0 % 2)
def rowB (s : List Nat) : Bool := rowTo s s.length
/-- .. along the first k lists? -/
def rowsTo (l : List (List Nat)) (k : Nat) : Bool := (l.take k).all rowB
theorem altTo_succ (M : List Int) (k : Nat) : altTo M (k + 1) = (altTo M k && decide (k % 2 ≠ mt M k % 2)) := by
  unfold altTo; rw [List.range_succ, List.all_append]; simp
theorem rowTo_succ (s : List Nat) (k : Nat) : rowTo s (k + 1) = (rowTo s k && decide (s.getD k 0 % 2 ≠ s.getD ((k + 1) % s.length) 0 % 2)) := by
  unfold rowTo; rw [List.range_succ, List.all_append]; simp
theorem rowsTo_succ {l : List (List Nat)} {k : Nat} (h : k < l.length) : rowsTo l (k + 1) = (rowsTo l k && rowB (l.getD k [])) := by
  unfold rowsTo
  rw [List.take_add_one, show l[k]? = some (l.getD k []) by simp [h], List.all_append]; simp
theorem sc_par (M : List Int) (h : Nat) : sc M h % 2 = mt M h % 2 := by
  have : tn (nth M h).toNat 2 % 4 = ((nth M h).toNat % 4 + 2) % 4 := by rw [tn_mod]; omega
  show tn (nth M h).toNat 2 % 2 = (nth M h).toNat % 2
  omega
theorem row_orb {M : List Int} {h p : Nat} (hp : IsPer (sc M) h p) : rowB (orb (sc M) h p) = true ↔ ∀ i, i < p → iter (sc M) i h % 2 ≠ mt M (iter (sc M) i h) % 2 := by
  unfold rowB rowTo
  rw [orb_length, List.all_eq_true]
  have key : ∀ i, i < p → (orb (sc M) h p).getD ((i + 1) % p) 0 = sc M (iter (sc M) i h) := fun i hi => by
    rw [orb_getD _ _ _ _ (Nat.mod_lt _ hp.1)]
    rcases Nat.lt_or_ge (i + 1) p with g | g
    · rw [Nat.mod_eq_of_lt g]; rfl
    · obtain rfl : p = i + 1 := by omega
      rw [Nat.mod_self]
      exact hp.2.1.symm
  constructor
  · intro g i hi
    have := of_decide_eq_true (g i (List.mem_range.2 hi))
    rw [key i hi, sc_par, orb_getD _ _ _ _ hi] at this
    exact this
  · intro g i hi
    have hi := List.mem_range.1 hi
    rw [key i hi, sc_par, orb_getD _ _ _ _ hi]
    exact decide_eq_true (g i hi)
theorem alt_strands {S M : List Int} {L : Int} (hv : vldB S M L = true) : rowsTo (strandsL S M L) (strandsL S M L).length = altTo M (4 * S.length) := by
  have hs := vldB_shape hv
  have hm := hs.mates2
  rw [Bool.eq_iff_iff]
  unfold rowsTo altTo
  rw [List.take_of_length_le (Nat.le_refl _), strandsL_leasts hv, List.all_eq_true, List.all_eq_true]
  constructor
  · intro g h hh
    have hh := List.mem_range.1 hh
    refine decide_eq_true ?_
    have main : ∀ x, x < 4 * S.length → outB S x = true → x % 2 ≠ mt M x % 2 := fun x hx ho => by
      have hl := st_mem hs hx
      have h1 := g _ (List.mem_map.2 ⟨_, hl, rfl⟩)
      have hst := hs.st_lt hx
      have hper := perOf_spec hs.injS _ hst
      rw [row_orb hper] at h1
      have hor : OnOrb (sc M) (st S M x) x := by
        rw [Shape.st_fl ho]
        exact onOrb_symm hs.injS hx (fl_spec hs.perS hx).1
      obtain ⟨j, hj⟩ := List.mem_map.1 ((mem_orb hper).2 hor)
      have := h1 j (List.mem_range.1 hj.1)
      rw [hj.2] at this
      exact this
    cases ho : outB S h
    · have h2 := main (mt M h) (hm.lt hh) (by rw [hs.out_mt hh, ho]; rfl)
      rw [hm.inv hh] at h2
      exact fun e => h2 e.symm
    · exact main h hh ho
  · intro g s hmem
    obtain ⟨h, hl, rfl⟩ := List.mem_map.1 hmem
    have hlt := ((mem_leasts hs).1 hl).1
    rw [row_orb (perOf_spec hs.injS _ hlt)]
    intro i _
    exact of_decide_eq_true (g _ (List.mem_range.2 (iter_lt _ _ hs.injS.lt i h hlt)))
end Go.Proofs.Ytmjoijfafachhaa
