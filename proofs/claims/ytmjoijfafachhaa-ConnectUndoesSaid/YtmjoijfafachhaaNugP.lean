/- Plain law: the nugatory crossings; slices.Compact on a slice of the call's own. -/
import Derived.Test.YtmjoijfafachhaaSortW
import Derived.Test.YtmjoijfafachhaaFaceW
namespace Go.Proofs.Ytmjoijfafachhaa
open Go Go.RowKit
theorem compact_own (xs : List Int) (a : Option Addr) (c B : Nat) (w : World) (h : Own w B 3 a c (ints xs)) (h0 : 0 < xs.length) (hl2 : xs.length ≤ 1000000) :
    Calls Try.prog 75 #[.slice a xs.length c] w fun e w' => e = .returned (.slice a (Lib.compact xs).length c) ∧ Turned w w' a := by
  have hsz := h.size
  rw [ints_length] at hsz
  obtain ⟨b, off, rfl, hB, hlt, hc, hf⟩ := h.open (by rw [ints_length]; exact h0)
  have hc' : ∀ j, j < xs.length → w.cell? ⟨b, off + j, none⟩ = some (.int .i64 (xs.getD j 0)) := fun j hj => hc j _ (ints_get xs j hj)
  refine (Try.slices_Compact_int_cells b off xs.length c xs w (Nat.le_refl _) (by omega) hsz hc' (fun j _ => hf _)).mono ?_
  rintro e w' ⟨he, q, rfl⟩
  rw [List.take_of_length_le (Nat.le_refl _)] at he ⊢
  obtain ⟨g1, g2, g3, g4, g5⟩ := size_setCells b ((Lib.compact xs ++ List.replicate (xs.length - (Lib.compact xs).length) 0).map (Value.int .i64)) off (w.drewN q)
  exact ⟨he, ⟨g2, g3, g4, by rw [g1]; exact Nat.le_refl _, fun k _ hk => g5 k fun e => hk _ rfl e.symm⟩⟩
/-- Do two of the four faces round c agree? -/
def nugB (F : List Int) (c : Nat) : Bool := decide ((Lib.compact (srt [nth F (4 * c), nth F (4 * c + 1), nth F (4 * c + 2), nth F (4 * c + 3)])).length < 4)
theorem compact_lt {xs : List Int} : (Lib.compact xs).length < xs.length ↔ ∃ j, 0 < j ∧ j < xs.length ∧ nth xs j = nth xs (j - 1) := by
  have hg : ∀ j, xs.toArray[j]! = nth xs j := fun j => by
    unfold nth
    rcases Nat.lt_or_ge j xs.length with h | h
    · simp [h]
    · simp [h]
  have hk : ∀ j, Lib.keeps xs.toArray j = false ↔ 0 < j ∧ nth xs j = nth xs (j - 1) := fun j => by
    unfold Lib.keeps
    rw [hg, hg]
    by_cases h0 : j = 0
    · simp [h0]
    · have : 0 < j := by omega
      by_cases h1 : nth xs j = nth xs (j - 1) <;> simp [h0, h1, this]
  unfold Lib.compact Lib.compactUpTo
  rw [List.length_map]
  have h3 := List.length_filter_lt_length_iff_exists (l := List.range xs.length) (p := Lib.keeps xs.toArray)
  rw [List.length_range] at h3
  rw [h3]
  constructor
  · rintro ⟨j, hj, h⟩
    obtain ⟨a, b⟩ := (hk j).1 (by simpa using h)
    exact ⟨j, a, List.mem_range.1 hj, b⟩
  · rintro ⟨j, a, b, c⟩
    exact ⟨j, List.mem_range.2 b, by rw [(hk j).2 ⟨a, c⟩]; simp⟩
theorem srt_dup {xs : List Int} : (Lib.compact (srt xs)).length < xs.length ↔ ¬ xs.Nodup := by
  rw [← srt_len xs, compact_lt]
  have hs := srt_sorted xs
  have hn : xs.Nodup ↔ (srt xs).Nodup := (srt_perm xs).nodup_iff.symm
  rw [hn]
  generalize srt xs = ys at *
  constructor
  · rintro ⟨j, h0, h1, h2⟩ hnd
    have := (List.getElem_inj (h₀ := h1) (h₁ := show j - 1 < ys.length by omega) hnd).1 (by simpa [nth, h1, show j - 1 < ys.length by omega] using h2)
    omega
  · intro hnd
    refine Classical.byContradiction fun hno => hnd ?_
    have hlt : ys.Pairwise (· < ·) := by
      rw [List.pairwise_iff_getElem]
      have step : ∀ j (h : j + 1 < ys.length), ys[j] < ys[j + 1] := fun j h => by
        have h1 := (List.pairwise_iff_getElem.1 hs) j (j + 1) (by omega) h (by omega)
        have h2 : ys[j] ≠ ys[j + 1] := fun e => hno ⟨j + 1, by omega, h, by simp [nth, h, show j < ys.length by omega, e]⟩
        omega
      intro i j hi hj hij
      obtain ⟨d, rfl⟩ : ∃ d, j = i + 1 + d := ⟨j - i - 1, by omega⟩
      clear hij
      induction d with
      | zero => exact step i hj
      | succ d ih =>
        have a := ih (by omega)
        have b := step (i + 1 + d) hj
        have e : i + 1 + (d + 1) = i + 1 + d + 1 := by omega
        simp only [e]
        omega
    exact hlt.imp fun h => by omega
theorem nugB_iff (F : List Int) (c : Nat) : nugB F c = true ↔ (nth F (4 * c) = nth F (4 * c + 2) ∨ nth F (4 * c + 1) = nth F (4 * c + 3) ∨ nth F (4 * c) = nth F (4 * c + 1) ∨ nth F (4 * c + 1) = nth F (4 * c + 2) ∨ nth F (4 * c + 2) = nth F (4 * c + 3) ∨ nth F (4 * c + 3) = nth F (4 * c)) := by
  unfold nugB
  rw [decide_eq_true_iff]
  have h := srt_dup (xs := [nth F (4 * c), nth F (4 * c + 1), nth F (4 * c + 2), nth F (4 * c + 3)])
  simp only [List.length_cons, List.length_nil] at h
  rw [h]
  generalize nth F (4 * c) = a
  generalize nth F (4 * c + 1) = b
  generalize nth F (4 * c + 2) = d
  generalize nth F (4 * c + 3) = e
  simp only [List.nodup_cons, List.mem_cons, List.not_mem_nil, or_false, not_false_eq_true, List.nodup_nil, and_true]
  omega
def nugTo (F : List Int) (k : Nat) : List Nat := (List.range k).filter (nugB F)
theorem nugTo_yes {F : List Int} {k : Nat} (h : nugB F k = true) : nugTo F (k + 1) = nugTo F k ++ [k] := by
  unfold nugTo; rw [List.range_succ, List.filter_append]; simp [h]
theorem nugTo_no {F : List Int} {k : Nat} (h : nugB F k = false) : nugTo F (k + 1) = nugTo F k := by
  unfold nugTo; rw [List.range_succ, List.filter_append]; simp [h]
theorem nugTo_len (F : List Int) (k : Nat) : (nugTo F k).length ≤ k := by
  have := List.length_filter_le (nugB F) (List.range k)
  rwa [List.length_range] at this
/-- The nugatory crossings. -/
def nugL (S M : List Int) : List Nat := nugTo (leftL M S.length) S.length
end Go.Proofs.Ytmjoijfafachhaa
