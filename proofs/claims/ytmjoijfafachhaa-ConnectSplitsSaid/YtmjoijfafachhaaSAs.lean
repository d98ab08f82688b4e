/- Plain law: the nugatory crossings; slices.Compact on a slice of the call's own. slices.Grow of nil, slices.Concat. -/
import Derived.WalkKit
import Derived.WalkSpells
import Derived.WalkLawsBesides
import Derived.Deep.AppendSrc
import Derived.Deep.LoopGhost
import Derived.Deep.QuietTactic
import Derived.Deep.RegionWith
import Derived.Deep.DeepMust
import Derived.Deep.DeepFit
import Derived.BigQuiet
import Derived.Lib.Hide
import Derived.Outline
import Derived.Test.YtmjoijfafachhaaProg
import Derived.Deep.Matrix
import Derived.Deep.DeepCutAuto
import Derived.Deep.RegionLaw
import Derived.Deep.RegionHeld3
import Derived.Shelf.Small.Bits
import Derived.Shelf.Small.Wraps
import Derived.Shelf.Strconv.Itoa0
import Derived.Shelf.Sort.Plain
import Derived.Shelf.Slices.Turned
import Derived.Shelf.Slices.Equal
import Derived.Ground.Names2Prog
import Derived.Shelf.Slices.Clone
import Derived.Shelf.Slices.CompactI
import Derived.Shelf.Slices.SearchI
import Derived.Shelf.Slices.Cells
import Derived.Shelf.Slices.In.SortNone
import Derived.Shelf.Slices.Empties2
import Derived.Ground.SlgnProg
import Derived.Shelf.SlicesE.Clone
import Derived.Sort.OwnSortedInts
import Derived.Lib.AppendZeros
import Derived.Test.YtmjoijfafachhaaSAa
import Derived.Test.YtmjoijfafachhaaSAc
import Derived.Test.YtmjoijfafachhaaSAd
import Derived.Test.YtmjoijfafachhaaSAe
import Derived.Test.YtmjoijfafachhaaSAf
import Derived.Test.YtmjoijfafachhaaSAg
import Derived.Test.YtmjoijfafachhaaSAh
import Derived.Test.YtmjoijfafachhaaSAj
import Derived.Test.YtmjoijfafachhaaSAl
import Derived.Test.YtmjoijfafachhaaSAr
import Derived.Test.YtmjoijfafachhaaSAi
import Derived.Test.YtmjoijfafachhaaSAk
namespace Go.Proofs.Ytmjoijfafachhaa
open Go Go.RowKit
theorem compact_own (xs : List Int) (a : Option Addr) (c B : Nat) (w : World) (h : Own w B 3 a c (ints xs)) (h0 : 0 < xs.length) (hl2 : xs.length ≤ 1000000) :
    Calls Try.prog 75 #[.slice a xs.length c] w fun e w' => e = .returned (.slice a (Lib.compact xs).length c) ∧ Turned w w' a := by
  have hsz := h.size
  rw [ints_length] at hsz
  obtain ⟨b, off, rfl, hB, hlt, hc, hf⟩ := h.open (by rw [ints_length]; exact h0)
  have hc' : ∀ j, j < xs.length → w.cell? ⟨b, off + j, none⟩ = some (.int .i64 (xs.getD j 0)) := fun j hj => hc j _ (ints_get xs j hj)
  refine (Try.slices_Compact_int_cells b off xs.length c xs w (Nat.le_refl _) (by omega) hsz hc' (fun j _ => hf _)).mono ?_
  rintro e w' ⟨he, q, rfl⟩
  rw [List.take_of_length_le (Nat.le_refl _)] at he ⊢
  obtain ⟨g1, g2, g3, g4, g5⟩ := size_setCells b ((Lib.compact xs ++ List.replicate (xs.length - (Lib.compact xs).length) 0).map (Value.int .i64)) off (w.drewN q)
  exact ⟨he, ⟨g2, g3, g4, by rw [g1]; exact Nat.le_refl _, fun k _ hk => g5 k fun e => hk _ rfl e.symm⟩⟩
/-- Do two of the four faces round c agree? -/
def nugB (F : List Int) (c : Nat) : Bool := decide ((Lib.compact (srt [nth F (4 * c), nth F (4 * c + 1), nth F (4 * c + 2), nth F (4 * c + 3)])).length < 4)
theorem compact_lt {xs : List Int} : (Lib.compact xs).length < xs.length ↔ ∃ j, 0 < j ∧ j < xs.length ∧ nth xs j = nth xs (j - 1) := by
  have hg : ∀ j, xs.toArray[j]! = nth xs j := fun j => by
    unfold nth
    rcases Nat.lt_or_ge j xs.length with h | h
    · simp [h]
    · simp [h]
  have hk : ∀ j, Lib.keeps xs.toArray j = false ↔ 0 < j ∧ nth xs j = nth xs (j - 1) := fun j => by
    unfold Lib.keeps
    rw [hg, hg]
    by_cases h0 : j = 0
    · simp [h0]
    · have : 0 < j := by omega
      by_cases h1 : nth xs j = nth xs (j - 1) <;> simp [h0, h1, this]
  unfold Lib.compact Lib.compactUpTo
  rw [List.length_map]
  have h3 := List.length_filter_lt_length_iff_exists (l := List.range xs.length) (p := Lib.keeps xs.toArray)
  rw [List.length_range] at h3
  rw [h3]
  constructor
  · rintro ⟨j, hj, h⟩
    obtain ⟨a, b⟩ := (hk j).1 (by simpa using h)
    exact ⟨j, a, List.mem_range.1 hj, b⟩
  · rintro ⟨j, a, b, c⟩
    exact ⟨j, List.mem_range.2 b, by rw [(hk j).2 ⟨a, c⟩]; simp⟩
theorem srt_dup {xs : List Int} : (Lib.compact (srt xs)).length < xs.length ↔ ¬ xs.Nodup := by
  rw [← srt_len xs, compact_lt]
  have hs := srt_sorted xs
  have hn : xs.Nodup ↔ (srt xs).Nodup := (srt_perm xs).nodup_iff.symm
  rw [hn]
  generalize srt xs = ys at *
  constructor
  · rintro ⟨j, h0, h1, h2⟩ hnd
    have := (List.getElem_inj (h₀ := h1) (h₁ := show j - 1 < ys.length by omega) hnd).1 (by simpa [nth, h1, show j - 1 < ys.length by omega] using h2)
    omega
  · intro hnd
    refine Classical.byContradiction fun hno => hnd ?_
    have hlt : ys.Pairwise (· < ·) := by
      rw [List.pairwise_iff_getElem]
      have step : ∀ j (h : j + 1 < ys.length), ys[j] < ys[j + 1] := fun j h => by
        have h1 := (List.pairwise_iff_getElem.1 hs) j (j + 1) (by omega) h (by omega)
        have h2 : ys[j] ≠ ys[j + 1] := fun e => hno ⟨j + 1, by omega, h, by simp [nth, h, show j < ys.length by omega, e]⟩
        omega
      intro i j hi hj hij
      obtain ⟨d, rfl⟩ : ∃ d, j = i + 1 + d := ⟨j - i - 1, by omega⟩
      clear hij
      induction d with
      | zero => exact step i hj
      | succ d ih =>
        have a := ih (by omega)
        have b := step (i + 1 + d) hj
        have e : i + 1 + (d + 1) = i + 1 + d + 1 := by omega
        simp only [e]
        omega
    exact hlt.imp fun h => by omega
theorem nugB_iff (F : List Int) (c : Nat) : nugB F c = true ↔ (nth F (4 * c) = nth F (4 * c + 2) ∨ nth F (4 * c + 1) = nth F (4 * c + 3) ∨ nth F (4 * c) = nth F (4 * c + 1) ∨ nth F (4 * c + 1) = nth F (4 * c + 2) ∨ nth F (4 * c + 2) = nth F (4 * c + 3) ∨ nth F (4 * c + 3) = nth F (4 * c)) := by
  unfold nugB
  rw [decide_eq_true_iff]
  have h := srt_dup (xs := [nth F (4 * c), nth F (4 * c + 1), nth F (4 * c + 2), nth F (4 * c + 3)])
  simp only [List.length_cons, List.length_nil] at h
  rw [h]
  generalize nth F (4 * c) = a
  generalize nth F (4 * c + 1) = b
  generalize nth F (4 * c + 2) = d
  generalize nth F (4 * c + 3) = e
  simp only [List.nodup_cons, List.mem_cons, List.not_mem_nil, or_false, not_false_eq_true, List.nodup_nil, and_true]
  omega
def nugTo (F : List Int) (k : Nat) : List Nat := (List.range k).filter (nugB F)
theorem nugTo_yes {F : List Int} {k : Nat} (h : nugB F k = true) : nugTo F (k + 1) = nugTo F k ++ [k] := by
  unfold nugTo; rw [List.range_succ, List.filter_append]; simp [h]
theorem nugTo_no {F : List Int} {k : Nat} (h : nugB F k = false) : nugTo F (k + 1) = nugTo F k := by
  unfold nugTo; rw [List.range_succ, List.filter_append]; simp [h]
theorem nugTo_len (F : List Int) (k : Nat) : (nugTo F k).length ≤ k := by
  have := List.length_filter_le (nugB F) (List.range k)
  rwa [List.length_range] at this
/-- The nugatory crossings. -/
def nugL (S M : List Int) : List Nat := nugTo (leftL M S.length) S.length
end Go.Proofs.Ytmjoijfafachhaa

namespace Go.Proofs.Ytmjoijfafachhaa
open Go Go.RowKit
set_option maxRecDepth 100000 in
set_option maxHeartbeats 1000000 in
theorem grow_any (n : Nat) (w : World) (hn : n ≤ 1000000) :
    Calls Try.prog 90 #[.slice none 0 0, .int .i64 (n : Int)] w fun e w' => ∃ a c, e = .returned (.slice a 0 c) ∧ Own w' w.heap.size 3 a c [] ∧ Below w.heap.size w w' := by
  obtain ⟨i0, hi0, hz0, hz1, hz2⟩ := info_parts Try.info3
  rcases Nat.eq_zero_or_pos n with rfl | h0
  · go_enter Try.func90, Try.ntmps90
    go_wp2_with fail
    go_ret
    exact ⟨none, 0, rfl, Own.nil _ _ _, Below.refl _ _⟩
  · have happ := Lib.run_append_nil_zeros (P := Try.prog) w 22 3 22 3 i0 (.int .i64 0) .i64 .i64 Try.underlying22 Try.underlying3 hi0 hz0 n h0 (by omega) (by omega) (by rw [hz2]; omega)
    generalize hcap : grownCap w n 0 3 = cap2 at happ
    have hge : n ≤ cap2 := by rw [← hcap]; exact grownCap_ge w _ 0 3
    have hle : cap2 ≤ maxLen := by rw [← hcap]; exact grownCap_le_maxLen w _ 0 3 (by unfold maxLen; omega)
    generalize hZ : (Builtin.zeroCells (Value.int .i64 0).cells n ++ Builtin.zeroCells (Value.int .i64 0).cells (cap2 - n)) = Z at happ
    have hZs : Z.size = cap2 := by rw [← hZ]; simp [size_zeroCells, Value.cells]; omega
    have hO : Own (w.alloc (.cells Z 3)).drew w.heap.size 3 (some ⟨w.heap.size, 0, none⟩) cap2 [] := .inr ⟨w.heap.size, 0, Z, rfl, Nat.le_refl _, heap_alloc_new w _, Nat.zero_le _, by omega, fun i v h => by simp at h⟩
    have HO := Lib.hid hO
    have HB : Hid (Below w.heap.size w (w.alloc (.cells Z 3)).drew) := Lib.hid (((Below.refl _ _).alloc (Nat.le_refl _) _).drew)
    have d1 : decide ((n : Int) < 0) = false := decide_eq_false (by omega)
    have d2 : decide (0 < (n : Int)) = true := decide_eq_true (by omega)
    clear hO hcap hZ
    go_enter Try.func90, Try.ntmps90
    go_wp2_with (refine Lib.wpList_append_run _ rfl (.tmp 20) (.tmp 21) 22 3 rfl _ _ rfl rfl _ _ happ ?_)
    go_ret
    exact ⟨_, _, rfl, HO.out, HB.out⟩
def lenSum (xss : List (List Int)) : Nat := (xss.map List.length).sum
theorem lenSum_take {xss : List (List Int)} {i : Nat} (h : i < xss.length) : lenSum (xss.take (i + 1)) = lenSum (xss.take i) + (xss.getD i []).length := by
  unfold lenSum
  rw [List.take_add_one, getD_some (d := []) h, List.map_append, List.sum_append]; simp
theorem lenSum_le {xss : List (List Int)} (i : Nat) : lenSum (xss.take i) ≤ lenSum xss := by
  unfold lenSum
  conv => rhs; rw [← List.take_append_drop i xss, List.map_append, List.sum_append]
  omega
theorem flat_take {xss : List (List Int)} {i : Nat} (h : i < xss.length) : (xss.take (i + 1)).flatten = (xss.take i).flatten ++ xss.getD i [] := by
  rw [List.take_add_one, getD_some (d := []) h]; simp
theorem flat_len (xss : List (List Int)) : xss.flatten.length = lenSum xss := by unfold lenSum; rw [List.length_flatten]
/-- Slices that are read. -/
def SlsAt (w : World) (b off : Nat) (xss : List (List Int)) : Prop := ∀ (i : Nat) (row : List Int), xss[i]? = some row → ∃ a c, w.cell? ⟨b, off + i, none⟩ = some (.slice a row.length c) ∧ IntsAt w a row
theorem SlsAt.later {w w' : World} {b off : Nat} {xss : List (List Int)} (h : SlsAt w b off xss) (hb : Below w.heap.size w w') : SlsAt w' b off xss := fun i row hi => by
  obtain ⟨a, c, h1, h2⟩ := h i row hi
  exact ⟨a, c, (hb.cell (p := ⟨b, off + i, none⟩) (World.block_lt_of_cell? w _ h1)).trans h1, h2.later hb⟩
set_option maxRecDepth 100000 in
set_option maxHeartbeats 2000000 in
theorem concat_any (xss : List (List Int)) (b off c : Nat) (w : World) (hx : SlsAt w b off xss) (hl : xss.length ≤ 1000) (hs : lenSum xss ≤ 1000000) :
    Calls Try.prog 81 #[.slice (some ⟨b, off, none⟩) xss.length c] w fun e w' => ∃ a d, e = .returned (.slice a (lenSum xss) d) ∧ Own w' w.heap.size 3 a d (ints xss.flatten) ∧ Below w.heap.size w w' := by
  obtain ⟨i0, hi0, hz0, hz1, hz2⟩ := info_parts Try.info3
  have HX := Lib.hid hx
  have HT : Hid (∀ i, lenSum (xss.take i) ≤ 1000000) := Lib.hid fun i => by have := lenSum_le (xss := xss) i; omega
  have HA : Hid (lenSum (xss.take xss.length) = lenSum xss) := Lib.hid (by rw [List.take_length])
  have HS : Hid (∀ i, i < xss.length → lenSum (xss.take (i + 1)) = lenSum (xss.take i) + (xss.getD i []).length) := Lib.hid fun i h => lenSum_take h
  have HF : Hid (∀ i, i < xss.length → (xss.take (i + 1)).flatten = (xss.take i).flatten ++ xss.getD i []) := Lib.hid fun i h => flat_take h
  have HFl : Hid (∀ i, (ints (xss.take i).flatten).length = lenSum (xss.take i)) := Lib.hid fun i => by rw [ints_length, flat_len]
  have HFa : Hid ((xss.take xss.length).flatten = xss.flatten) := Lib.hid (by rw [List.take_length])
  have HG : Hid (∀ n W', n ≤ 1000000 → Calls Try.prog 90 #[.slice none 0 0, .int .i64 ((n : Nat) : Int)] W' fun e w' => ∃ a c, e = .returned (.slice a 0 c) ∧ Own w' W'.heap.size 3 a c [] ∧ Below W'.heap.size W' w') := Lib.hid fun n W' h => grow_any n W' h
  clear hx hs
  go_enter Try.func81, Try.ntmps81
  go_wp2_with fail
  go_loopg [11, 3] xss.length (fun g v s3 wr => ∃ i : Nat, i ≤ xss.length ∧ g = xss.length - i ∧ v = .int .i64 i ∧ s3 = .int .i64 ((lenSum (xss.take i) : Nat) : Int) ∧ Below w.heap.size w wr)
  case atStart => exact ⟨0, Nat.zero_le _, rfl, rfl, rfl, Below.refl _ _⟩
  case round =>
    obtain ⟨i, hi, rfl, rfl, rfl, hb⟩ := hrel
    have Hb := Lib.hid hb
    clear hb
    by_cases hil : i < xss.length
    · obtain ⟨a', c', hci, _⟩ := (HX.out.later Hb.out) i _ (getD_some (d := []) hil)
      have hT1 := HT.out i
      have hT2 := HT.out (i + 1)
      have hS2 := HS.out i hil
      rw [hS2] at hT2
      have Hn : Hid (((lenSum (xss.take i) : Nat) : Int) + (((xss.getD i []).length : Nat) : Int) = ((lenSum (xss.take (i + 1)) : Nat) : Int)) := Lib.hid (by rw [hS2]; omega)
      clear hS2
      generalize (xss.getD i []).length = rl at *
      generalize lenSum (xss.take i) = T1 at *
      have d1 : decide (((T1 : Int) + (rl : Int)) < 0) = false := decide_eq_false (by omega)
      go_wp2_with fail
      go_roundg (xss.length - (i + 1))
      case measure => omega
      case rel => exact ⟨i + 1, by omega, rfl, by go_num, congrArg _ Hn.out, Hb.out⟩
    · obtain rfl : i = xss.length := by omega
      rw [HA.out]
      have hle : lenSum xss ≤ 1000000 := by have := HT.out xss.length; rw [HA.out] at this; exact this
      have HG2 := Lib.hid (HG.out (lenSum xss) wr hle)
      go_wp2_with fail
      refine HG2.out.mono ?_
      rintro e w2 ⟨a2, c2, rfl, ho, hb2⟩
      have Hb2 := Lib.hid (below_step Hb.out hb2)
      have HO := Lib.hid (ho.mono (B' := w.heap.size) Hb.out.size)
      clear ho hb2 HG HG2 Hb HA HS
      go_wp2_with fail
      go_loopg [27, 6] xss.length (fun g v s6 wr => ∃ (i : Nat) (A : Option Addr) (d : Nat), i ≤ xss.length ∧ g = xss.length - i ∧ v = .int .i64 i ∧ s6 = .slice A (lenSum (xss.take i)) d ∧ Own wr w.heap.size 3 A d (ints (xss.take i).flatten) ∧ Below w.heap.size w wr)
      case atStart => exact ⟨0, a2, c2, Nat.zero_le _, rfl, rfl, rfl, HO.out, Hb2.out⟩
      case round =>
        obtain ⟨i, A, d, hi, rfl, rfl, rfl, ho, hb⟩ := hrel
        replace HO := Lib.hid ho
        replace Hb2 := Lib.hid hb
        clear ho hb
        by_cases hil : i < xss.length
        · obtain ⟨a', c', hci, hrow⟩ := (HX.out.later Hb2.out) i _ (getD_some (d := []) hil)
          have hT1 := HT.out i
          have hT2 := HT.out (i + 1)
          have hS2 : lenSum (xss.take (i + 1)) = lenSum (xss.take i) + (xss.getD i []).length := lenSum_take hil
          have hF2 := HF.out i hil
          have hFl := HFl.out i
          have hdc : lenSum (xss.take i) ≤ d := by have := HO.out.size; omega
          have HO1 : Hid (Own wr w.heap.size 3 A (d * 1) (ints (xss.take i).flatten)) := Lib.hid (by rw [Nat.mul_one]; exact HO.out)
          have Hvl : Hid ((ints (xss.take i).flatten).length = lenSum (xss.take i) * 1) := Lib.hid (by rw [hFl, Nat.mul_one])
          have Hul : Hid ((ints (xss.getD i [])).length = (xss.getD i []).length * 1) := Lib.hid (by rw [ints_length, Nat.mul_one])
          have Hus : Hid (VAt wr a' (ints (xss.getD i []))) := Lib.hid hrow
          have Hu1 : Hid (∀ u ∈ ints (xss.getD i []), u.oneCell' = true) := Lib.hid (by
            intro u hu
            obtain ⟨x, _, rfl⟩ := List.mem_map.1 hu
            rfl)
          have Hn : Hid (lenSum (xss.take i) + (xss.getD i []).length = lenSum (xss.take (i + 1))) := Lib.hid hS2.symm
          have HFn : Hid (ints (xss.take i).flatten ++ ints (xss.getD i []) = ints (xss.take (i + 1)).flatten) := Lib.hid (by rw [hF2]; simp [ints])
          have Hw := Lib.hid Hb2.out.size
          have hT3 : lenSum (xss.take i) + (xss.getD i []).length ≤ 1000000 := by omega
          clear hS2 hF2 hFl hrow hT2
          generalize lenSum (xss.take i) = T1 at *
          generalize ints (xss.take i).flatten = V1 at *
          generalize ints (xss.getD i []) = V2 at *
          generalize (xss.getD i []).length = rl at *
          have Hzc : Hid ((Value.int .i64 0).cells.size = 1) := Lib.hid rfl
          go_wp2_with (with_reducible refine wpList_append_wide rfl (.tmp 31) (.tmp 32) 22 22 rfl w.heap.size 3 i0 _ 8 1 Try.underlying22 Try.underlying22 hi0 hz0 hz1 (by decide) hz2 Hzc.out A T1 d V1 rfl Hvl.out hdc HO1.out a' rl c' V2 rfl Hul.out Hus.out Hu1.out (by omega) (by omega) Hw.out ?_; intro A7 e7 w7 hle hO7 hT7 hA7; have HO7 := Lib.hid hO7; have HT7 := Lib.hid hT7; clear hO7 hT7 hA7)
          have HL : Hid (∀ x, A = some x → w.heap.size ≤ x.block) := Lib.hid fun x hx => (HO1.out.lt hx).1
          go_roundg (xss.length - (i + 1))
          case measure => omega
          case rel =>
            refine ⟨i + 1, A7, e7, by omega, rfl, by go_num, ?_, ?_, Hb2.out.trans (HT7.out.below Hw.out HL.out)⟩
            · rw [Hn.out]
            · have h := HO7.out
              rw [Nat.mul_one, HFn.out] at h
              exact h
        · obtain rfl : i = xss.length := by omega
          have h := HO.out
          rw [HFa.out] at h
          have HO9 := Lib.hid h
          have Hl9 : Hid (lenSum (xss.take xss.length) = lenSum xss) := Lib.hid (by rw [List.take_length])
          rw [Hl9.out]
          go_wp2_with fail
          go_ret
          exact ⟨A, d, rfl, HO9.out, Hb2.out⟩
end Go.Proofs.Ytmjoijfafachhaa

