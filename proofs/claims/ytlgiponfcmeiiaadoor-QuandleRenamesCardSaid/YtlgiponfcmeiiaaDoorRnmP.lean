/- A renaming keeps the number of orbits of each size. -/
import Derived.Test.YtlgiponfcmeiiaaDoorOrbP
namespace Go.Proofs.YtlgiponfcmeiiaaDoor
open Go Go.RowKit
/-- g renames f to r. -/
structure Ren (n : Nat) (f r : Nat → Nat → Nat) (g : Nat → Nat) : Prop where
  lt : ∀ x, x < n → g x < n
  inj : ∀ x y, x < n → y < n → g x = g y → x = y
  hom : ∀ x y, x < n → y < n → r (g x) (g y) = g (f x y)
theorem Ren.rch {n : Nat} {f r : Nat → Nat → Nat} {g : Nat → Nat} (h : Ren n f r g) (hlt : ∀ x y, x < n → y < n → f x y < n) {x y : Nat} (hr : Rch f n x y) (hx : x < n) : Rch r n (g x) (g y) := by
  induction hr with
  | refl => exact .refl _
  | @step x z y hz _ ih =>
    refine .step (h.lt z hz) ?_
    rw [h.hom x z hx hz]
    exact ih (hlt x z hx hz)
theorem cls_nodup (f : Nat → Nat → Nat) (n x : Nat) : ((List.range n).filter fun y => okB (Rch f n x y)).Nodup := List.nodup_range.sublist List.filter_sublist
theorem Ren.cls_le {n : Nat} {f r : Nat → Nat → Nat} {g : Nat → Nat} (h : Ren n f r g) (hlt : ∀ x y, x < n → y < n → f x y < n) {x l : Nat} (hx : x < n) (hl : Rch r n l (g x)) : (cls f n x).length ≤ (cls r n l).length := by
  unfold cls
  rw [List.length_map, List.length_map]
  have hm : (((List.range n).filter fun y => okB (Rch f n x y)).map g).Nodup := by
    have hnd := cls_nodup f n x
    rw [List.nodup_iff_pairwise_ne, List.pairwise_map]
    rw [List.nodup_iff_pairwise_ne] at hnd
    exact hnd.imp_of_mem fun {a b} ha hb hab e => hab (h.inj a b (List.mem_range.1 (List.mem_filter.1 ha).1) (List.mem_range.1 (List.mem_filter.1 hb).1) e)
  have hs : ∀ v ∈ ((List.range n).filter fun y => okB (Rch f n x y)).map g, v ∈ (List.range n).filter fun y => okB (Rch r n l y) := fun v hv => by
    obtain ⟨y, hy, rfl⟩ := List.mem_map.1 hv
    rw [List.mem_filter, List.mem_range, okB_iff] at hy ⊢
    exact ⟨h.lt y hy.1, hl.trans (h.rch hlt hy.2 hx)⟩
  have := hm.length_le_of_subset hs
  rwa [List.length_map] at this
theorem ldr_ex (f : Nat → Nat → Nat) (n x : Nat) : ∃ l, l ≤ x ∧ Ldr f n l ∧ Rch f n l x := by
  obtain ⟨l, h1, h2, h3⟩ := first_lt (p := fun l => Rch f n l x) (n := x + 1) ⟨x, by omega, .refl _⟩
  exact ⟨l, by omega, fun y hy hr => h3 y hy (hr.trans h2), h2⟩
/-- The leaders whose orbits have s members. -/
noncomputable def szL (f : Nat → Nat → Nat) (n s : Nat) : List Nat := (List.range n).filter fun x => okB (Ldr f n x) && (cls f n x).length == s
theorem szL_mem {f : Nat → Nat → Nat} {n s x : Nat} : x ∈ szL f n s ↔ x < n ∧ Ldr f n x ∧ (cls f n x).length = s := by
  unfold szL
  rw [List.mem_filter, List.mem_range, Bool.and_eq_true, okB_iff, beq_iff_eq]
/-- Both ways: what g does, k undoes. -/
theorem Ren.sz_le {n s : Nat} {f r : Nat → Nat → Nat} {g k : Nat → Nat} (h : Ren n f r g) (h' : Ren n r f k) (hk : ∀ x, x < n → k (g x) = x) (hlt : ∀ x y, x < n → y < n → f x y < n) (hltr : ∀ x y, x < n → y < n → r x y < n) (hi : IvtN f n) (hir : IvtN r n) :
    (szL f n s).length ≤ (szL r n s).length := by
  obtain ⟨φ, hφ⟩ : ∃ φ : Nat → Nat, ∀ x, φ x ≤ g x ∧ Ldr r n (φ x) ∧ Rch r n (φ x) (g x) := ⟨fun x => Classical.choose (ldr_ex r n (g x)), fun x => Classical.choose_spec (ldr_ex r n (g x))⟩
  have hlt2 : ∀ x, x < n → φ x < n := fun x hx => Nat.lt_of_le_of_lt (hφ x).1 (h.lt x hx)
  have back : ∀ x, x < n → Rch f n (k (φ x)) x := fun x hx => by
    have := h'.rch hltr (hφ x).2.2 (hlt2 x hx)
    rwa [hk x hx] at this
  have hm : ((szL f n s).map φ).Nodup := by
    have hnd : (szL f n s).Nodup := List.nodup_range.sublist List.filter_sublist
    rw [List.nodup_iff_pairwise_ne, List.pairwise_map]
    rw [List.nodup_iff_pairwise_ne] at hnd
    refine hnd.imp_of_mem fun {a b} ha hb hab e => ?_
    obtain ⟨a1, a2, _⟩ := szL_mem.1 ha
    obtain ⟨b1, b2, _⟩ := szL_mem.1 hb
    have ra := back a a1
    have rb := back b b1
    rw [← e] at rb
    have kl := h'.lt _ (hlt2 a a1)
    have rab : Rch f n a b := (ra.symm hlt hi kl).trans rb
    have rba : Rch f n b a := rab.symm hlt hi a1
    rcases Nat.lt_trichotomy a b with g1 | g1 | g1
    · exact b2 a g1 rab
    · exact hab g1
    · exact a2 b g1 rba
  have hs : ∀ v ∈ (szL f n s).map φ, v ∈ szL r n s := fun v hv => by
    obtain ⟨x, hx, rfl⟩ := List.mem_map.1 hv
    obtain ⟨x1, x2, x3⟩ := szL_mem.1 hx
    have c1 := h.cls_le hlt x1 (hφ x).2.2
    have c2 := h'.cls_le hltr (hlt2 x x1) ((back x x1).symm hlt hi (h'.lt _ (hlt2 x x1)))
    exact szL_mem.2 ⟨hlt2 x x1, (hφ x).2.1, by omega⟩
  have := hm.length_le_of_subset hs
  rwa [List.length_map] at this
theorem orb_count (f : Nat → Nat → Nat) (n s : Nat) : ((orbT f n).filter fun l => l.length == s).length = (szL f n s).length := by
  unfold orbT orbK szL
  rw [List.filter_map, List.length_map, List.filter_filter]
  congr 2
  funext x
  simp only [Function.comp]
  rw [Bool.and_comm]
end Go.Proofs.YtlgiponfcmeiiaaDoor
