/- Which orbit an element lies in, as the law reckons it. -/
import Derived.Test.YtlgiponfcmeiiaaDoorOrbP
namespace Go.Proofs.YtlgiponfcmeiiaaDoor
open Go Go.RowKit
/-- The last of the first i rows that holds x. -/
def obI (U : List (List Int)) : Nat → Nat → Nat
  | 0, _ => 0
  | i + 1, x => if (x : Int) ∈ U.getD i [] then i else obI U i x
/-- .. j entries of row i seen. -/
def obM (U : List (List Int)) (i j x : Nat) : Nat := if (x : Int) ∈ (U.getD i []).take j then i else obI U i x
theorem obM_zero (U : List (List Int)) (i x : Nat) : obM U i 0 x = obI U i x := by simp [obM]
theorem obM_all (U : List (List Int)) (i x : Nat) : obM U i (U.getD i []).length x = obI U (i + 1) x := by simp [obM, obI]
def obL (U : List (List Int)) (n i j : Nat) : List Nat := (List.range n).map (obM U i j)
theorem obL_len (U : List (List Int)) (n i j : Nat) : (obL U n i j).length = n := by simp [obL]
theorem obL_all (U : List (List Int)) (n i : Nat) : obL U n i (U.getD i []).length = obL U n (i + 1) 0 := by
  unfold obL
  refine List.map_congr_left fun x _ => ?_
  rw [obM_all, obM_zero]
theorem obL_set {U : List (List Int)} {n i j v : Nat} (hj : j < (U.getD i []).length) (hv : nth (U.getD i []) j = (v : Int)) : (obL U n i j).set v i = obL U n i (j + 1) := by
  have ht : (U.getD i []).take (j + 1) = (U.getD i []).take j ++ [(v : Int)] := by
    rw [List.take_succ_eq_append_getElem hj]
    congr 2
    rw [← hv]; unfold nth; rw [List.getD_eq_getElem?_getD (l := U.getD i []), List.getElem?_eq_getElem hj]; rfl
  apply List.ext_getElem
  · simp [obL]
  · intro x h1 h2
    rw [List.getElem_set]
    simp only [obL, List.getElem_map, List.getElem_range, obM]
    rw [ht]
    simp only [List.mem_append, List.mem_singleton]
    by_cases e : v = x
    · subst e; simp
    · rw [if_neg e]
      have : ¬ ((x : Int) = (v : Int)) := by omega
      simp [this]
theorem obL_lb {U : List (List Int)} {n i j x : Nat} (hx : x < n) : lb (obL U n i j) x = obM U i j x := by simp [lb, obL, hx]
theorem obI_same {U : List (List Int)} {x y : Nat} : ∀ i, (∀ k, k < i → ((x : Int) ∈ U.getD k [] ↔ (y : Int) ∈ U.getD k [])) → obI U i x = obI U i y
  | 0, _ => rfl
  | i + 1, h => by
    simp only [obI]
    rw [obI_same i fun k hk => h k (by omega)]
    by_cases e : (x : Int) ∈ U.getD i []
    · rw [if_pos e, if_pos ((h i (by omega)).1 e)]
    · rw [if_neg e, if_neg fun g => e ((h i (by omega)).2 g)]
theorem obI_lt {U : List (List Int)} : ∀ (i x : Nat), obI U i x ≤ i
  | 0, _ => Nat.le_refl _
  | i + 1, x => by
    simp only [obI]
    split
    · omega
    · have := obI_lt (U := U) i x; omega
theorem orb_row {f : Nat → Nat → Nat} {n i : Nat} (h : i < (orbT f n).length) : ∃ u, u < n ∧ (orbT f n).getD i [] = cls f n u := by
  have hm : (orbT f n).getD i [] ∈ orbT f n := by
    rw [List.getD_eq_getElem?_getD, List.getElem?_eq_getElem h]
    exact List.getElem_mem h
  obtain ⟨u, hu, he⟩ := List.mem_map.1 hm
  exact ⟨u, List.mem_range.1 (List.mem_filter.1 hu).1, he.symm⟩
theorem cls_mem {f : Nat → Nat → Nat} {n u x : Nat} : (x : Int) ∈ cls f n u ↔ x < n ∧ Rch f n u x := by
  unfold cls
  rw [List.mem_map]
  constructor
  · rintro ⟨y, hy, e⟩
    obtain rfl : y = x := by omega
    rw [List.mem_filter, List.mem_range, okB_iff] at hy
    exact hy
  · intro h
    exact ⟨x, by rw [List.mem_filter, List.mem_range, okB_iff]; exact h, rfl⟩
theorem orb_ent {f : Nat → Nat → Nat} {n i j : Nat} (h : i < (orbT f n).length) (hj : j < ((orbT f n).getD i []).length) : ∃ v : Nat, v < n ∧ nth ((orbT f n).getD i []) j = (v : Int) := by
  obtain ⟨u, _, he⟩ := orb_row h
  have hm := nth_mem _ j hj
  rw [he] at hm
  rw [he]
  obtain ⟨v, hv, e⟩ := List.mem_map.1 hm
  exact ⟨v, List.mem_range.1 (List.mem_filter.1 hv).1, e.symm⟩
/-- Multiplying keeps the orbit. -/
theorem ob_keep {f : Nat → Nat → Nat} {n x z : Nat} (hlt : ∀ x y, x < n → y < n → f x y < n) (hi : IvtN f n) (hx : x < n) (hz : z < n) : obI (orbT f n) (orbT f n).length (f x z) = obI (orbT f n) (orbT f n).length x :=
  obI_same _ fun k hk => by
    obtain ⟨u, _, he⟩ := orb_row hk
    rw [he, cls_mem, cls_mem]
    exact ⟨fun h => ⟨hx, h.2.trans (Rch.back hlt hi hx hz)⟩, fun h => ⟨hlt x z hx hz, h.2.trans (.one hz)⟩⟩
end Go.Proofs.YtlgiponfcmeiiaaDoor
