/- slices.Sort on a slice of the call's own; the walk of the closure of the law MirrorReverses: the passages of a strand, in order. -/
import Derived.Test.YtkopbcehfbmnmaaShelf
import Derived.Test.YtkopbcehfbmnmaaRevC
import Derived.Sort.OwnSortedInts
import Derived.Test.YtkopbcehfbmnmaaHeap
namespace Go.Proofs.Ytkopbcehfbmnmaa
open Go Go.RowKit
theorem sort_own (xs : List Int) (a : Option Addr) (c B : Nat) (w : World) (h : Own w B 3 a c (ints xs)) (hl : 0 < xs.length) (hl2 : xs.length ≤ 100000) :
    Calls Try.prog 73 #[.slice a xs.length c] w fun e w' => e = .returned (.tuple #[]) ∧ Own w' B 3 a c (ints (srt xs)) ∧ Turned w w' a := by
  rcases h with ⟨_, h, _⟩ | ⟨b, off, cur, rfl, hB, hb, h4, h5, h6⟩
  · rw [← ints_length, h] at hl; cases hl
  have hlen : (ints xs).length = xs.length := ints_length _
  have hsz : b < w.heap.size := (Array.getElem?_eq_some_iff.1 hb).1
  have hH : Go.Sort.Holds (Value.int .i64) w b off xs.toArray := fun j hj => by
    have hj' : j < xs.length := by simpa using hj
    refine ⟨?_, frozen_of_row w b _ cur 3 hb⟩
    rw [cell_of_row w b _ cur 3 (0, 0) hb, h6 j _ (ints_get xs j hj')]
    simp [nth, hj']
  refine (Try.slices_Sort_int b off c xs w hH hsz (by omega)).mono ?_
  rintro e w' ⟨rfl, n, os, rfl⟩
  have hold : ∀ k, k < w.heap.size → b ≠ k → (Go.Sort.grow (Go.Sort.putRow (Value.int .i64) (Go.Sort.ahead w n) b off (srt xs).toArray) os).heap[k]? = w.heap[k]? := fun k hk hne => by
    rw [Go.Sort.heap_grow_old _ _ (by simpa using hk)]
    simp [Go.Sort.putRow, Go.Sort.mapBlock, Go.Sort.ahead, Array.getElem?_modify, hne]
  have hnew : (Go.Sort.grow (Go.Sort.putRow (Value.int .i64) (Go.Sort.ahead w n) b off (srt xs).toArray) os).heap[b]? = some (.cells (Go.Sort.putCells (Value.int .i64) off (srt xs).toArray cur) 3 (0, 0)) := by
    rw [Go.Sort.heap_grow_old _ _ (by simpa using hsz)]
    simp [Go.Sort.putRow, Go.Sort.mapBlock, Go.Sort.ahead, Array.getElem?_modify, hb, Go.Sort.onCells]
  refine ⟨rfl, .inr ⟨b, off, _, rfl, hB, hnew, by rw [ints_length, srt_len]; omega, by simpa [Go.Sort.putCells] using h5, fun i v hv => ?_⟩, ⟨rfl, rfl, rfl, by simp, fun k hk hne => hold k hk fun e => hne _ rfl e⟩⟩
  have hi : i < (srt xs).length := by
    rcases Nat.lt_or_ge i (srt xs).length with g | g
    · exact g
    · rw [List.getElem?_eq_none (by rw [ints_length]; exact g)] at hv; cases hv
  have hi2 : i < xs.length := by rw [srt_len] at hi; exact hi
  have hoff : off + i < cur.size := by omega
  rw [ints_get _ i hi] at hv
  rw [← Option.some.inj hv]
  simp [Go.Sort.putCells, hoff, hi, nth]
theorem strand_pos {S M : List Int} {L : Int} (hv : vldB S M L = true) {i : Nat} {l : List Nat} (hl : (strandsL S M L)[i]? = some l) : 0 < l.length := by
  obtain ⟨x, hx, he⟩ := strand_has hv hl
  have h1 : ix S M (4 * (x / 4) + 2 - x % 2) = i := by rw [← he]; exact ix_par hv (by omega) (by omega) (by omega)
  have h2 := (psg_in hv hl (p := x % 2) (by omega) (by omega)).2 h1
  rw [← psg_len]; exact List.length_pos_of_mem h2
set_option maxRecDepth 100000 in
set_option maxHeartbeats 8000000 in
theorem passages_any (l : List Nat) (a : Option Addr) (c : Nat) (w : World) (hl0 : 0 < l.length) (hl : l.length ≤ 1000) (hlt : ∀ (j : Nat) (x : Nat), l[j]? = some x → x ≤ 1000) (hA : IntsAt w a (nats l)) :
    Calls Try.prog 72 #[.slice a l.length c] w fun e w' => ∃ a' c', e = .returned (.slice a' l.length c') ∧ Own w' w.heap.size 3 a' c' (ints (srt (psg l))) ∧ Below w.heap.size w w' := by
  obtain ⟨i0, hi, hz0, hz1, hz2⟩ := info_parts Try.info3
  obtain ⟨b, off, rfl, hb, hc⟩ := hA.open (by rw [nats_length]; exact hl0)
  have HcA : Hid (∀ W', Below w.heap.size w W' → ∀ (j : Nat) (hj : j < l.length), W'.cell? ⟨b, off + j, none⟩ = some (.int .i64 ((l[j] : Nat) : Int))) := Lib.hid fun W' hW' j hj => by
    have := hc j (by rw [nats_length]; exact hj)
    rw [nth_nats _ _ hj, List.getD_eq_getElem?_getD, List.getElem?_eq_getElem hj] at this
    exact (hW'.cell (p := ⟨b, off + j, none⟩) hb).trans this
  have Hlt := Lib.hid hlt
  have Hl0 := Lib.hid hl0
  clear hA hc hlt hl0
  go_enter Try.func72, Try.ntmps72
  go_wp2_with fail
  go_loopg [3, 5, 8] l.length (fun g s3 _ v wr => ∃ (k : Nat) (a' : Option Addr) (c' : Nat), k ≤ l.length ∧ g = l.length - k ∧ v = .int .i64 k ∧ s3 = .slice a' k c' ∧ HH w wr [] [⟨a', c', 3, ints (psg (l.take k))⟩])
  case atStart => exact ⟨0, none, 0, Nat.zero_le _, rfl, rfl, rfl, (HH.start w).addNil 3⟩
  case round =>
    obtain ⟨k, a', c', hk, rfl, rfl, rfl, hh⟩ := hrel
    have Hh := Lib.hid hh
    clear hh
    by_cases hkl : k < l.length
    · have hcx := HcA.out wr Hh.out.below k hkl
      have hx := Hlt.out k _ (List.getElem?_eq_getElem hkl)
      have Hst : Hid (psg (l.take (k + 1)) = psg (l.take k) ++ [psV l[k]]) := Lib.hid (by rw [List.take_succ_eq_append_getElem hkl]; unfold psg; rw [List.map_append]; rfl)
      have Hn0 : Hid ((ints (psg (l.take k))).length = k) := Lib.hid (by rw [ints_length, psg_len, List.length_take]; omega)
      generalize psg (l.take k) = P at *
      generalize l[k] = x at *
      have HV : Hid (psV x = 2 * ((x : Int) / 4) + (x : Int) % 2) := Lib.hid (by unfold psV; omega)
      have Ha0 := Lib.hid (Hh.out.call ((Below.refl _ _).alloc (Nat.le_refl _) (.cells #[.int .i64 (2 * ((x : Int) / 4) + (x : Int) % 2)] 3)))
      have Hc0 : Hid ((wr.alloc (.cells #[.int .i64 (2 * ((x : Int) / 4) + (x : Int) % 2)] 3)).cell? ⟨wr.heap.size, 0, none⟩ = some (.int .i64 (2 * ((x : Int) / 4) + (x : Int) % 2))) := Lib.hid ((Row.new wr #[.int .i64 (2 * ((x : Int) / 4) + (x : Int) % 2)] 3).cell 0)
      have Hl1 : Hid (w.heap.size ≤ (wr.alloc (.cells #[.int .i64 (2 * ((x : Int) / 4) + (x : Int) % 2)] 3)).heap.size) := Lib.hid Ha0.out.below.size
      go_wp2_with (with_reducible refine wpList_append_one rfl (.tmp 12) (.tmp 19) 22 rfl w.heap.size 3 i0 (.int .i64 0) 8 Try.underlying22 hi hz0 hz1 hz2 rfl a' k c' (ints P) rfl Hn0.out (Ha0.out.sl (k := 0) rfl) _ 1 (.int .i64 (2 * ((x : Int) / 4) + (x : Int) % 2)) rfl Hc0.out rfl (by omega) (by omega) Hl1.out ?_; intro A2 e2 w2 hO2 hT2 hA2; have H2 := Lib.hid (Ha0.out.grow (k := 0) rfl hO2 hT2 hA2); clear hO2 hT2 hA2)
      go_roundg (l.length - (k + 1))
      case measure => omega
      case rel =>
        refine ⟨k + 1, A2, e2, by omega, rfl, by go_num, rfl, ?_⟩
        have h := H2.out
        rw [ints_snoc, ← HV.out, ← Hst.out] at h
        exact h
    · obtain rfl : k = l.length := by omega
      have hsl := Hh.out.sl (k := 0) rfl
      rw [List.take_length] at hsl
      have HS := sort_own (psg l) a' c' w.heap.size wr hsl (by rw [psg_len]; exact Hl0.out) (by rw [psg_len]; omega)
      rw [psg_len] at HS
      have HS := Lib.hid HS
      have Hb := Lib.hid Hh.out.below
      have Hlo : Hid (∀ x, a' = some x → w.heap.size ≤ x.block) := Lib.hid fun x hx => (hsl.lt hx).1
      clear hsl
      go_wp2_with fail
      refine HS.out.mono ?_
      rintro e w2 ⟨rfl, ho2, ht2⟩
      have Hfin := Lib.hid (And.intro ho2 (Hb.out.trans (ht2.below Hb.out.size Hlo.out)))
      clear ho2 ht2
      go_wp2_with fail
      go_ret
      exact ⟨a', c', rfl, Hfin.out.1, Hfin.out.2⟩
end Go.Proofs.Ytkopbcehfbmnmaa
