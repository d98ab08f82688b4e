/- slices.Sort on a slice of the call's own. -/
import Derived.Test.YtmjoijfafachhaaShelf
import Derived.Sort.OwnSortedInts
import Derived.Test.YtmjoijfafachhaaHeap
import Derived.Test.YtmjoijfafachhaaConM
namespace Go.Proofs.Ytmjoijfafachhaa
open Go Go.RowKit
/-- In order. -/
def srt (xs : List Int) : List Int := xs.mergeSort fun x y => decide (x ≤ y)
theorem srt_len (xs : List Int) : (srt xs).length = xs.length := List.length_mergeSort _
theorem srt_perm (xs : List Int) : (srt xs).Perm xs := List.mergeSort_perm _ _
theorem srt_sorted (xs : List Int) : (srt xs).Pairwise (· ≤ ·) := by
  have := List.pairwise_mergeSort (le := fun (x y : Int) => decide (x ≤ y)) (fun a b c h1 h2 => by simp at *; omega) (fun a b => by simp; omega) xs
  exact this.imp fun h => of_decide_eq_true h
theorem srt_eq {xs ys : List Int} (hp : ys.Perm xs) (hs : ys.Pairwise (· < ·)) : srt xs = ys :=
  List.Perm.eq_of_pairwise (le := (· ≤ ·)) (fun a b _ _ h1 h2 => by omega) (srt_sorted xs) (hs.imp fun h => by omega) ((srt_perm xs).trans hp.symm)
theorem sort_own (xs : List Int) (a : Option Addr) (c B : Nat) (w : World) (h : Own w B 3 a c (ints xs)) (hl2 : xs.length ≤ 1000000) :
    Calls Try.prog 74 #[.slice a xs.length c] w fun e w' => e = .returned (.tuple #[]) ∧ Own w' B 3 a c (ints (srt xs)) ∧ Turned w w' a := by
  rcases Nat.eq_zero_or_pos xs.length with h0 | h0
  · obtain rfl : xs = [] := List.eq_nil_of_length_eq_zero h0
    refine (Try.slices_Sort_int_none a c w).mono ?_
    rintro e w' ⟨rfl, rfl⟩
    have hs : srt [] = [] := List.eq_nil_of_length_eq_zero (by rw [srt_len]; rfl)
    rw [hs]
    exact ⟨rfl, h, rfl, rfl, rfl, Nat.le_refl _, fun _ _ _ => rfl⟩
  rcases h with ⟨_, h, _⟩ | ⟨b, off, cur, rfl, hB, hb, h4, h5, h6⟩
  · rw [← ints_length, h] at h0; cases h0
  have hlen : (ints xs).length = xs.length := ints_length _
  have hsz : b < w.heap.size := (Array.getElem?_eq_some_iff.1 hb).1
  have hH : Go.Sort.Holds (Value.int .i64) w b off xs.toArray := fun j hj => by
    have hj' : j < xs.length := by simpa using hj
    refine ⟨?_, frozen_of_row w b _ cur 3 hb⟩
    rw [cell_of_row w b _ cur 3 (0, 0) hb, h6 j _ (ints_get xs j hj')]
    simp [nth, hj']
  refine (Try.slices_Sort_int b off c xs w hH hsz (by omega)).mono ?_
  rintro e w' ⟨rfl, n, os, rfl⟩
  have hold : ∀ k, k < w.heap.size → b ≠ k → (Go.Sort.grow (Go.Sort.putRow (Value.int .i64) (Go.Sort.ahead w n) b off (srt xs).toArray) os).heap[k]? = w.heap[k]? := fun k hk hne => by
    rw [Go.Sort.heap_grow_old _ _ (by simpa using hk)]
    simp [Go.Sort.putRow, Go.Sort.mapBlock, Go.Sort.ahead, Array.getElem?_modify, hne]
  have hnew : (Go.Sort.grow (Go.Sort.putRow (Value.int .i64) (Go.Sort.ahead w n) b off (srt xs).toArray) os).heap[b]? = some (.cells (Go.Sort.putCells (Value.int .i64) off (srt xs).toArray cur) 3 (0, 0)) := by
    rw [Go.Sort.heap_grow_old _ _ (by simpa using hsz)]
    simp [Go.Sort.putRow, Go.Sort.mapBlock, Go.Sort.ahead, Array.getElem?_modify, hb, Go.Sort.onCells]
  refine ⟨rfl, .inr ⟨b, off, _, rfl, hB, hnew, by rw [ints_length, srt_len]; omega, by simpa [Go.Sort.putCells] using h5, fun i v hv => ?_⟩, ⟨rfl, rfl, rfl, by simp, fun k hk hne => hold k hk fun e => hne _ rfl e⟩⟩
  have hi : i < (srt xs).length := by
    rcases Nat.lt_or_ge i (srt xs).length with g | g
    · exact g
    · rw [List.getElem?_eq_none (by rw [ints_length]; exact g)] at hv; cases hv
  have hi2 : i < xs.length := by rw [srt_len] at hi; exact hi
  have hoff : off + i < cur.size := by omega
  rw [ints_get _ i hi] at hv
  rw [← Option.some.inj hv]
  simp [Go.Sort.putCells, hoff, hi, nth]
end Go.Proofs.Ytmjoijfafachhaa
