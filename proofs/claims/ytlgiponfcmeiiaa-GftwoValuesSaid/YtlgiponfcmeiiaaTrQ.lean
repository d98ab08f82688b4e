/- For the walk of Transpose: many slices at once, and what each column holds on the way. No condition. -/
import Derived.Test.YtlgiponfcmeiiaaTrP
namespace Go.Proofs.Ytlgiponfcmeiiaa
open Go Go.RowKit
theorem HH.nils {w0 w : World} {l : Kn} {s : List SlO} (h : HH w0 w l s) (E : TypeId) : ∀ n, HH w0 w l (s ++ List.replicate n ⟨none, 0, E, []⟩)
  | 0 => by simpa using h
  | n + 1 => by
    have := (HH.nils h E n).addNil E
    rwa [List.append_assoc, ← List.replicate_succ'] at this
def colP (xs : List Nat) (i c : Nat) : List Int := ((List.range i).filter fun r => (xs.getD r 0).testBit c).map Int.ofNat
theorem colP_zero (xs : List Nat) (c : Nat) : colP xs 0 c = [] := rfl
theorem colP_succ (xs : List Nat) (i c : Nat) : colP xs (i + 1) c = colP xs i c ++ if (xs.getD i 0).testBit c = true then [(i : Int)] else [] := by
  unfold colP
  rw [List.range_succ, List.filter_append, List.map_append]
  congr 1
  have e : [i].filter (fun r => (xs.getD r 0).testBit c) = if (xs.getD i 0).testBit c = true then [i] else [] := List.filter_cons
  rw [e]
  split <;> rfl
theorem colP_len (xs : List Nat) (i c : Nat) : (colP xs i c).length ≤ i := by
  unfold colP
  rw [List.length_map]
  exact Nat.le_trans (List.length_filter_le _ _) (by rw [List.length_range]; exact Nat.le_refl _)
theorem colP_all (xs : List Nat) (c : Nat) : colP xs xs.length c = rowOf xs.length (colN xs c) := colL_row xs c
/-- Column c when j ones of row i are seen. -/
def mixC (xs : List Nat) (i : Nat) (row : List Int) (j c : Nat) : List Int := colP xs i c ++ if (c : Int) ∈ row.take j then [(i : Int)] else []
theorem mixC_zero (xs : List Nat) (i : Nat) (row : List Int) (c : Nat) : mixC xs i row 0 c = colP xs i c := by
  unfold mixC
  rw [List.take_zero, if_neg (by simp), List.append_nil]
theorem mixC_len (xs : List Nat) (i : Nat) (row : List Int) (j c : Nat) : (mixC xs i row j c).length ≤ i + 1 := by
  unfold mixC
  rw [List.length_append]
  have := colP_len xs i c
  split <;> simp <;> omega
theorem take_snoc (row : List Int) {j : Nat} (h : j < row.length) : row.take (j + 1) = row.take j ++ [nth row j] := by
  rw [List.take_succ_eq_append_getElem h]
  simp [nth, h]
theorem mixC_here {C : Int} (xs : List Nat) (i : Nat) {row : List Int} (hr : Asc C row) {j c : Nat} (hj : j < row.length) (hc : nth row j = (c : Int)) : mixC xs i row j c = colP xs i c ∧ mixC xs i row (j + 1) c = colP xs i c ++ [(i : Int)] := by
  have hn : (c : Int) ∉ row.take j := fun h => by
    have hp := hr.1
    rw [← List.take_append_drop j row, List.pairwise_append] at hp
    have hd : nth row j ∈ row.drop j := by
      rw [drop_cons row j hj]; exact List.mem_cons_self
    have := hp.2.2 _ h _ hd
    omega
  unfold mixC
  rw [if_neg hn, List.append_nil]
  refine ⟨rfl, ?_⟩
  rw [take_snoc row hj, if_pos]
  rw [List.mem_append, hc]
  exact .inr (List.mem_singleton.2 rfl)
theorem mixC_there (xs : List Nat) (i : Nat) (row : List Int) {j c k : Nat} (hj : j < row.length) (hc : nth row j = (c : Int)) (hne : k ≠ c) : mixC xs i row (j + 1) k = mixC xs i row j k := by
  unfold mixC
  rw [take_snoc row hj, hc]
  have : ((k : Int) ∈ row.take j ++ [(c : Int)]) ↔ (k : Int) ∈ row.take j := by
    rw [List.mem_append, List.mem_singleton]
    exact ⟨fun h => h.elim id fun e => absurd (Int.ofNat.inj e) hne, .inl⟩
  by_cases h : (k : Int) ∈ row.take j
  · rw [if_pos h, if_pos (this.2 h)]
  · rw [if_neg h, if_neg (fun e => h (this.1 e))]
theorem mixC_full (xs : List Nat) (i : Nat) {C c : Nat} (hc : c < C) : mixC xs i (rowOf C (xs.getD i 0)) (rowOf C (xs.getD i 0)).length c = colP xs (i + 1) c := by
  unfold mixC
  rw [List.take_length, colP_succ]
  congr 1
  by_cases h : (xs.getD i 0).testBit c = true
  · rw [if_pos h, if_pos (mem_rowOf.2 ⟨by omega, by omega, by rw [Int.toNat_natCast]; exact h⟩)]
  · rw [if_neg h, if_neg]
    intro g
    have := (mem_rowOf.1 g).2.2
    rw [Int.toNat_natCast] at this
    exact h this
end Go.Proofs.Ytlgiponfcmeiiaa
