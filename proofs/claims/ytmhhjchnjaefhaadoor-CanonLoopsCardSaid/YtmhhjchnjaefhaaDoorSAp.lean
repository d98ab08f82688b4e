/- The examples of the chapter, walked: Trefoil, Kink, awake of law05. The walk of diagram.Renumber. Plain: a renumbering of the crossings, as a part. Plain: the canonical form is told by the codes of the pieces. Plain: a renumbered diagram has as many faces, strands and parts. law05's great: whether a diagram is too great. The walk of the law CanonIdempotent. Plain: a key tells the numbers of the code; a code tells its pieces. slices.Clone and diagram.Clone of any slices: the copies are the call's own. law05's beside: two diagrams beside each other; diagram.Valid whatever the number of mates. -/
import Derived.Deep.RegionHeld3
import Derived.WalkKit
import Derived.WalkSpells
import Derived.WalkLawsBesides
import Derived.Deep.AppendSrc
import Derived.Deep.LoopGhost
import Derived.Deep.QuietTactic
import Derived.Deep.RegionWith
import Derived.Deep.DeepMust
import Derived.Deep.DeepFit
import Derived.BigQuiet
import Derived.Lib.Hide
import Derived.Outline
import Derived.Test.YtmhhjchnjaefhaaDoorProg
import Derived.Deep.Matrix
import Derived.Deep.DeepCutAuto
import Derived.Deep.RegionLaw
import Derived.Lib.SliceRun
import Derived.Shelf.Strings.Builder1
import Derived.Shelf.Small.Wraps
import Derived.Shelf.Strings.BuilderF
import Derived.Shelf.Strings.BuilderK
import Derived.Shelf.Strconv.Itoa0
import Derived.Shelf.Strconv.Itoa1
import Derived.Shelf.LaysM
import Derived.Shelf.Strconv.Itoa2
import Derived.Shelf.Strconv.Itoa3
import Derived.Shelf.Slices.Equal
import Derived.Ground.Names2Prog
import Derived.Shelf.Slices.Clone
import Derived.Shelf.Slices.SearchI
import Derived.Shelf.Slices.Empties2
import Derived.Ground.SlgnProg
import Derived.Shelf.SlicesE.Clone
import Derived.Sort.OwnSortedInts
import Derived.Shelf.Small.Bits
import Derived.Shelf.Sort.Plain
import Derived.Shelf.Slices.Turned
import Derived.Shelf.Slices.CompactI
import Derived.Shelf.Slices.Cells
import Derived.Shelf.Slices.In.SortNone
import Derived.Lib.AppendZeros
import Derived.Deep.RegionHeld
import Derived.Lib.Builder
import Derived.Lib.AppendStr
import Derived.Lib.Walk
import Derived.Laws.Externs
import Derived.Lib.AppendIntMem
import Derived.Test.YtmhhjchnjaefhaaDoorSAa
import Derived.Test.YtmhhjchnjaefhaaDoorSAb
import Derived.Test.YtmhhjchnjaefhaaDoorSAc
import Derived.Test.YtmhhjchnjaefhaaDoorSAd
import Derived.Test.YtmhhjchnjaefhaaDoorSAe
import Derived.Test.YtmhhjchnjaefhaaDoorSAf
import Derived.Test.YtmhhjchnjaefhaaDoorSAg
import Derived.Test.YtmhhjchnjaefhaaDoorSAh
import Derived.Test.YtmhhjchnjaefhaaDoorSAi
import Derived.Test.YtmhhjchnjaefhaaDoorSAj
import Derived.Test.YtmhhjchnjaefhaaDoorSAk
import Derived.Test.YtmhhjchnjaefhaaDoorSAl
import Derived.Test.YtmhhjchnjaefhaaDoorSAm
import Derived.Test.YtmhhjchnjaefhaaDoorSAn
import Derived.Test.YtmhhjchnjaefhaaDoorSAo
namespace Go.Proofs.YtmhhjchnjaefhaaDoor
open Go Go.RowKit
def tfS : List Int := [1, 1, 1]
def tfM : List Int := [9, 4, 7, 10, 1, 8, 11, 2, 5, 0, 3, 6]
def kkS : List Int := [1]
def kkM : List Int := [1, 0, 3, 2]
theorem tf_valid : vldB tfS tfM 0 = true := by decide +kernel
theorem kk_valid : vldB kkS kkM 0 = true := by decide +kernel
theorem tf_grp : grpOf tfM tfS.length = [[0, 1, 2]] := by
  rw [← rgroups_eq (vldB_shape tf_valid).mates]
  decide +kernel
theorem kk_grp : grpOf kkM kkS.length = [[0]] := by
  rw [← rgroups_eq (vldB_shape kk_valid).mates]
  decide +kernel
theorem tf_pinf : pinf tfS tfM tfS.length = [([1, 5, 8, 11, 6, 1, 9, 0, 3, 10, 1, 1, 4, 7, 2], 3)] := by
  unfold pinf
  rw [tf_grp]
  decide +kernel
theorem kk_pinf : pinf kkS kkM kkS.length = [([1, 1, 0, 3, 2], 1)] := by
  unfold pinf
  rw [kk_grp]
  decide +kernel
theorem srtC_one (c : List Int) : srtC [c] = [c] := by unfold srtC; exact List.mergeSort_singleton c
theorem tf_codes : codesL tfS tfM tfS.length = [[1, 5, 8, 11, 6, 1, 9, 0, 3, 10, 1, 1, 4, 7, 2]] := by
  unfold codesL; rw [tf_pinf]; exact srtC_one _
theorem kk_codes : codesL kkS kkM kkS.length = [[1, 1, 0, 3, 2]] := by
  unfold codesL; rw [kk_pinf]; exact srtC_one _
theorem tf_code : codeOf tfS tfM 0 = [0, 1, 3, 1, 5, 8, 11, 6, 1, 9, 0, 3, 10, 1, 1, 4, 7, 2] := by
  unfold codeOf; rw [tf_codes]; decide
theorem kk_code : codeOf kkS kkM 0 = [0, 1, 1, 1, 1, 0, 3, 2] := by
  unfold codeOf; rw [kk_codes]; decide
theorem tf_sym : symV tfS tfM tfS.length = 3 := by
  unfold symV; rw [tf_codes, tf_pinf]; decide
theorem dig_one {u : Nat} (h : u < 10) : Lib.decDigits u = [UInt8.ofNat (48 + u)] := by
  rw [Lib.decDigits, dif_pos h]
theorem dig_two {u : Nat} (h : 10 ≤ u) (h2 : u < 100) : Lib.decDigits u = [UInt8.ofNat (48 + u / 10), UInt8.ofNat (48 + u % 10)] := by
  rw [Lib.decDigits, dif_neg (by omega), dig_one (by omega)]; rfl
/-- The numerals that are needed, computed. -/
def itoa2 (x : Int) : List UInt8 := if x < 10 then [UInt8.ofNat (48 + x.toNat)] else [UInt8.ofNat (48 + x.toNat / 10), UInt8.ofNat (48 + x.toNat % 10)]
theorem itoa_2 {x : Int} (h : 0 ≤ x) (h2 : x < 100) : Lib.itoa x = itoa2 x := by
  unfold Lib.itoa itoa2
  rw [if_neg (by omega)]
  split
  · exact dig_one (by omega)
  · exact dig_two (by omega) (by omega)
def keyT2 (l : List Int) : Nat → List UInt8
  | 0 => []
  | i + 1 => keyT2 l i ++ (if 0 < i then [44] else []) ++ itoa2 (nth l i)
theorem keyT_2 {l : List Int} (h : ∀ x, x ∈ l → 0 ≤ x ∧ x < 100) : ∀ i, i ≤ l.length → keyT l i = keyT2 l i
  | 0, _ => rfl
  | i + 1, hi => by
    have hx := h (nth l i) (nth_mem l i hi)
    rw [keyT, keyT2, keyT_2 h i (by omega), itoa_2 hx.1 hx.2]
theorem tf_key : keyOf (cdV tfS tfM 0) = [48, 44, 49, 44, 51, 44, 49, 44, 53, 44, 56, 44, 49, 49, 44, 54, 44, 49, 44, 57, 44, 48, 44, 51, 44, 49, 48, 44, 49, 44, 49, 44, 52, 44, 55, 44, 50] := by
  unfold keyOf
  rw [cdV_yes tf_valid, tf_code, keyT_2 (by decide) _ (Nat.le_refl _)]
  decide +kernel
theorem kk_key : keyOf (cdV kkS kkM 0) = [48, 44, 49, 44, 49, 44, 49, 44, 49, 44, 48, 44, 51, 44, 50] := by
  unfold keyOf
  rw [cdV_yes kk_valid, kk_code, keyT_2 (by decide) _ (Nat.le_refl _)]
  decide +kernel
set_option maxRecDepth 100000 in
set_option maxHeartbeats 2000000 in
theorem tref_any (w : World) : Calls Tryd.prog 38 #[] w fun e w' => ∃ a b c d, e = .returned (.agg #[.slice a 3 c, .slice b 12 d, .int .i64 0]) ∧ Own w' w.heap.size 3 a c (ints tfS) ∧ Own w' w.heap.size 3 b d (ints tfM) ∧ Below w.heap.size w w' := by
  have H9 := Lib.hid ((((HH.start w).alloc #[.slice (some ⟨w.heap.size + 1, 0, none⟩) 3 3, .slice (some ⟨w.heap.size + 1 + 1, 0, none⟩) 12 12, .int .i64 0] 24 rfl rfl).alloc #[.int .i64 1, .int .i64 1, .int .i64 1] 3 (b := w.heap.size + 1) (by simp) rfl).alloc #[.int .i64 9, .int .i64 4, .int .i64 7, .int .i64 10, .int .i64 1, .int .i64 8, .int .i64 11, .int .i64 2, .int .i64 5, .int .i64 0, .int .i64 3, .int .i64 6] 3 (b := w.heap.size + 1 + 1) (by simp) rfl)
  have hF0 := H9.out.cell (k := 0) (i := 0) rfl rfl
  have hF1 := H9.out.cell (k := 0) (i := 1) rfl rfl
  have hF2 := H9.out.cell (k := 0) (i := 2) rfl rfl
  have H8 := Lib.hid (And.intro hF0 (And.intro hF1 hF2))
  clear hF0 hF1 hF2
  go_enter Tryd.func38, Tryd.ntmps38
  go_wp2_with fail
  obtain ⟨hF0, hF1, hF2⟩ := H8.out
  refine bodyPost_ret (v := .agg #[.slice (some ⟨w.heap.size + 1, 0, none⟩) 3 3, .slice (some ⟨w.heap.size + 1 + 1, 0, none⟩) 12 12, .int .i64 0]) (by simp [results, Tryd.results38, go_sem, hF0, hF1, hF2]) rfl ?_
  exact ⟨_, _, 3, 12, rfl, (H9.out.row (k := 1) rfl).own (Nat.le_add_right _ 1), (H9.out.row (k := 2) rfl).own (Nat.le_add_right _ 2), H9.out.below⟩
set_option maxRecDepth 100000 in
set_option maxHeartbeats 2000000 in
theorem kink_any (w : World) : Calls Tryd.prog 39 #[] w fun e w' => ∃ a b c d, e = .returned (.agg #[.slice a 1 c, .slice b 4 d, .int .i64 0]) ∧ Own w' w.heap.size 3 a c (ints kkS) ∧ Own w' w.heap.size 3 b d (ints kkM) ∧ Below w.heap.size w w' := by
  have H9 := Lib.hid ((((HH.start w).alloc #[.slice (some ⟨w.heap.size + 1, 0, none⟩) 1 1, .slice (some ⟨w.heap.size + 1 + 1, 0, none⟩) 4 4, .int .i64 0] 24 rfl rfl).alloc #[.int .i64 1] 3 (b := w.heap.size + 1) (by simp) rfl).alloc #[.int .i64 1, .int .i64 0, .int .i64 3, .int .i64 2] 3 (b := w.heap.size + 1 + 1) (by simp) rfl)
  have hF0 := H9.out.cell (k := 0) (i := 0) rfl rfl
  have hF1 := H9.out.cell (k := 0) (i := 1) rfl rfl
  have hF2 := H9.out.cell (k := 0) (i := 2) rfl rfl
  have H8 := Lib.hid (And.intro hF0 (And.intro hF1 hF2))
  clear hF0 hF1 hF2
  go_enter Tryd.func39, Tryd.ntmps39
  go_wp2_with fail
  obtain ⟨hF0, hF1, hF2⟩ := H8.out
  refine bodyPost_ret (v := .agg #[.slice (some ⟨w.heap.size + 1, 0, none⟩) 1 1, .slice (some ⟨w.heap.size + 1 + 1, 0, none⟩) 4 4, .int .i64 0]) (by simp [results, Tryd.results39, go_sem, hF0, hF1, hF2]) rfl ?_
  exact ⟨_, _, 1, 4, rfl, (H9.out.row (k := 1) rfl).own (Nat.le_add_right _ 1), (H9.out.row (k := 2) rfl).own (Nat.le_add_right _ 2), H9.out.below⟩
set_option maxRecDepth 100000 in
set_option maxHeartbeats 4000000 in
theorem awake_any (w : World) (ht : Pow10 w) : Calls Tryd.prog 11 #[] w fun e w' => e = .returned (.bool true) ∧ Below w.heap.size w w' := by
  have HT : Hid (∀ W', Below w.heap.size w W' → Pow10 W') := Lib.hid fun W' h => ht.later h
  have HR : Hid (∀ W', Calls Tryd.prog 38 #[] W' fun e w' => ∃ a b c d, e = .returned (.agg #[.slice a 3 c, .slice b 12 d, .int .i64 0]) ∧ Own w' W'.heap.size 3 a c (ints tfS) ∧ Own w' W'.heap.size 3 b d (ints tfM) ∧ Below W'.heap.size W' w') := Lib.hid tref_any
  have HK : Hid (∀ W', Calls Tryd.prog 39 #[] W' fun e w' => ∃ a b c d, e = .returned (.agg #[.slice a 1 c, .slice b 4 d, .int .i64 0]) ∧ Own w' W'.heap.size 3 a c (ints kkS) ∧ Own w' W'.heap.size 3 b d (ints kkM) ∧ Below W'.heap.size W' w') := Lib.hid kink_any
  have HS : Hid (∀ W' a b c d, IntsAt W' a tfS → IntsAt W' b tfM → Calls Tryd.prog 15 #[.agg #[.slice a 3 c, .slice b 12 d, .int .i64 0]] W' fun e w' => e = .returned (.int .i64 3) ∧ Below W'.heap.size W' w') := Lib.hid fun W' a b c d h1 h2 => by
    have g := sym_yes tfS tfM 0 a b c d W' tf_valid (by decide) h1 h2
    rw [tf_sym] at g
    exact g
  have HY : Hid (∀ W' a b c d, Pow10 W' → IntsAt W' a tfS → IntsAt W' b tfM → Calls Tryd.prog 24 #[.agg #[.slice a 3 c, .slice b 12 d, .int .i64 0]] W' fun e w' => e = .returned (.string ⟨#[48, 44, 49, 44, 51, 44, 49, 44, 53, 44, 56, 44, 49, 49, 44, 54, 44, 49, 44, 57, 44, 48, 44, 51, 44, 49, 48, 44, 49, 44, 49, 44, 52, 44, 55, 44, 50]⟩) ∧ Below W'.heap.size W' w') := Lib.hid fun W' a b c d h h1 h2 => by
    have g := key_any tfS tfM 0 a b c d W' (by decide) (by decide) h h1 h2
    rw [tf_key] at g
    exact g
  have HZ : Hid (∀ W' a b c d, Pow10 W' → IntsAt W' a kkS → IntsAt W' b kkM → Calls Tryd.prog 24 #[.agg #[.slice a 1 c, .slice b 4 d, .int .i64 0]] W' fun e w' => e = .returned (.string ⟨#[48, 44, 49, 44, 49, 44, 49, 44, 49, 44, 48, 44, 51, 44, 50]⟩) ∧ Below W'.heap.size W' w') := Lib.hid fun W' a b c d h h1 h2 => by
    have g := key_any kkS kkM 0 a b c d W' (by decide) (by decide) h h1 h2
    rw [kk_key] at g
    exact g
  have H0 := Lib.hid (HH.start w)
  go_enter Tryd.func11, Tryd.ntmps11
  go_wp2_with fail
  refine (HR.out _).mono ?_
  rintro e w1 ⟨aK, bK, cK, dK, rfl, ho1, ho2, hb⟩
  have H1 := Lib.hid (H0.out.call hb)
  have O1 := Lib.hid (And.intro ho1.ints ho2.ints)
  clear ho1 ho2 hb H0
  go_wp2_with fail
  refine (HS.out _ aK bK cK dK O1.out.1 O1.out.2).mono ?_
  rintro e w2 ⟨rfl, hb⟩
  have H2 := Lib.hid (H1.out.call hb)
  clear hb H1 O1
  go_wp2_with fail
  refine (HR.out _).mono ?_
  rintro e w3 ⟨aJ, bJ, cJ, dJ, rfl, ho1, ho2, hb⟩
  have H3 := Lib.hid (H2.out.call hb)
  have O3 := Lib.hid (And.intro ho1.ints ho2.ints)
  clear ho1 ho2 hb H2
  go_wp2_with fail
  refine (HY.out _ aJ bJ cJ dJ (HT.out _ H3.out.below) O3.out.1 O3.out.2).mono ?_
  rintro e w4 ⟨rfl, hb⟩
  have H4 := Lib.hid (H3.out.call hb)
  clear hb H3 O3
  go_wp2_with fail
  refine (HK.out _).mono ?_
  rintro e w5 ⟨aI, bI, cI, dI, rfl, ho1, ho2, hb⟩
  have H5 := Lib.hid (H4.out.call hb)
  have O5 := Lib.hid (And.intro ho1.ints ho2.ints)
  clear ho1 ho2 hb H4
  go_wp2_with fail
  refine (HZ.out _ aI bI cI dI (HT.out _ H5.out.below) O5.out.1 O5.out.2).mono ?_
  rintro e w6 ⟨rfl, hb⟩
  have H6 := Lib.hid (H5.out.call hb)
  clear hb H5 O5
  go_wp2_with fail
  go_ret
  exact ⟨rfl, H6.out.below⟩
end Go.Proofs.YtmhhjchnjaefhaaDoor

namespace Go.Proofs.YtmhhjchnjaefhaaDoor
open Go Go.RowKit
theorem nth_row (h : Nat → Int) (K k : Nat) (hk : k < K) : nth ((List.range K).map h) k = h k := by simp [nth, hk]
/-- A sum of the first k. -/
def wsum (g : Nat → Int) : Nat → Int
  | 0 => 0
  | k + 1 => wsum g k + g k
/-- The writhe; the sum of the signs of the crossings of two strands. -/
def wr (S : List Int) : Int := wsum (nth S) S.length
def fillL (n : Nat) (g : Nat → Int) : List Int := (List.range n).map g
/-- The crossing that gets the number i. -/
def ordN (O : List Int) (i : Nat) : Nat := (nth O i).toNat
/-- The numbers, after i crossings. -/
def numTo (O : List Int) (n : Nat) : Nat → List Int
  | 0 => fillL n fun _ => -1
  | i + 1 => (numTo O n i).set (ordN O i) (i : Int)
def goodAt (O : List Int) (n i : Nat) : Prop := 0 ≤ nth O i ∧ nth O i < (n : Int) ∧ nth (numTo O n i) (ordN O i) < 0
/-- While the numbers are made. -/
structure RnA (w wx : World) (box : List Value) (bN : Nat) (xs : List Int) : Prop where
  N : Row wx bN 3 (ints xs)
  box : Row wx w.heap.size 24 box
  res : Row wx (w.heap.size + 1) 24 [.slice none 0 0, .slice none 0 0, .int .i64 0]
  below : Below w.heap.size w wx
  lo : w.heap.size + 2 ≤ bN
theorem RnA.set {w wx : World} {box : List Value} {bN : Nat} {xs : List Int} (h : RnA w wx box bN xs) (i : Nat) (x : Int) : RnA w (wx.setCell ⟨bN, i, none⟩ (.int .i64 x)) box bN (xs.set i x) :=
  ⟨h.N.setInt i x, h.box.setOther _ _ (by have := h.lo; show w.heap.size ≠ bN; omega), h.res.setOther _ _ (by have := h.lo; show w.heap.size + 1 ≠ bN; omega), h.below.setCell (by have := h.lo; show w.heap.size ≤ bN; omega) _, h.lo⟩
theorem RnA.up {w wx wy : World} {box : List Value} {bN : Nat} {ns : List Int} (h : RnA w wx box bN ns) (hb : Below wx.heap.size wx wy) : RnA w wy box bN ns :=
  ⟨h.N.later hb h.N.lt, h.box.later hb h.box.lt, h.res.later hb h.res.lt, below_step h.below hb, h.lo⟩
end Go.Proofs.YtmhhjchnjaefhaaDoor

namespace Go.Proofs.YtmhhjchnjaefhaaDoor
open Go Go.RowKit
/-- The numbers as crossings. -/
def natO (O : List Int) : List Nat := O.map Int.toNat
theorem natO_nats (o : List Nat) : natO (nats o) = o := by
  unfold natO nats
  rw [List.map_map]
  exact List.map_id'' (fun x => rfl) o
end Go.Proofs.YtmhhjchnjaefhaaDoor

namespace Go.Proofs.YtmhhjchnjaefhaaDoor
open Go Go.RowKit
def dec1S (c : List Int) : List Int := (List.range (c.length / 5)).map fun i => nth c (5 * i)
def dec1M (c : List Int) : List Int := (List.range (4 * (c.length / 5))).map fun k => nth c (5 * (k / 4) + 1 + k % 4)
def decS (cs : List (List Int)) : List Int := cs.flatMap dec1S
def decM : List (List Int) → List Int
  | [] => []
  | c :: cs => uniM (dec1M c) (decM cs)
theorem nth_codeTo (S M : List Int) (o : List Nat) : ∀ i j t, j < i → t < 5 → nth (codeTo S M o i) (5 * j + t) = nth (rowC S M o (o.getD j 0) 4) t
  | 0, j, _, h, _ => by omega
  | i + 1, j, t, h, ht => by
    have hl := codeTo_len S M o i
    rw [codeTo_succ]
    rcases Nat.lt_or_ge j i with g | g
    · rw [nth_append_left _ _ _ (by omega)]
      exact nth_codeTo S M o i j t g ht
    · obtain rfl : j = i := by omega
      rw [nth_append_right _ _ _ (by omega), hl, show 5 * j + t - 5 * j = t by omega]
theorem rowC_nth (S M : List Int) (o : List Nat) (c : Nat) {k s : Nat} (h : s < k) : nth (rowC S M o c k) (1 + s) = ((4 * o.idxOf (mt M (4 * c + s) / 4) + mt M (4 * c + s) % 4 : Nat) : Int) := by
  unfold rowC nth
  rw [List.getD_eq_getElem?_getD, Nat.add_comm, List.getElem?_cons_succ, List.getElem?_map, List.getElem?_range h]
  rfl
theorem dec1S_code (S M : List Int) (r n : Nat) : dec1S (codeL S M r n) = partS S (ordL M r n) := by
  have hl := codeL_len S M r n
  refine ext_nth (by simp [dec1S, partS_len, hl]) fun i hi => ?_
  have hi2 : i < (ordL M r n).length := by
    simp [dec1S, hl] at hi; omega
  rw [partS_nth hi2]
  have e : nth (dec1S (codeL S M r n)) i = nth (codeL S M r n) (5 * i) := by
    unfold dec1S
    rw [show nth ((List.range ((codeL S M r n).length / 5)).map fun i => nth (codeL S M r n) (5 * i)) i = _ from nth_row _ _ _ (by omega)]
  rw [e]
  have := nth_codeTo S M (ordL M r n) (ordL M r n).length i 0 hi2 (by omega)
  exact this
theorem dec1M_code (S M : List Int) (r n : Nat) : dec1M (codeL S M r n) = partM M (ordL M r n) := by
  have hl := codeL_len S M r n
  refine ext_nth (by simp [dec1M, partM_len, hl]) fun k hk => ?_
  have hk2 : k < 4 * (ordL M r n).length := by
    simp [dec1M, hl] at hk; omega
  rw [partM_nth hk2]
  have e : nth (dec1M (codeL S M r n)) k = nth (codeL S M r n) (5 * (k / 4) + 1 + k % 4) := by
    unfold dec1M
    exact nth_row _ _ _ (by omega)
  rw [e]
  have := nth_codeTo S M (ordL M r n) (ordL M r n).length (k / 4) (1 + k % 4) (by omega) (by omega)
  rw [← Nat.add_assoc] at this
  unfold codeL
  rw [this, rowC_nth S M _ _ (by omega)]
  unfold partV idxI
  omega
/-- A piece of a diagram. -/
structure PieOk (S M : List Int) (n : Nat) (p : Dgm) : Prop where
  code : dec1S p.1 = partS S (natO p.2.1) ∧ dec1M p.1 = partM M (natO p.2.1)
  whole : Whole M n (natO p.2.1)
def Apart (p q : Dgm) : Prop := ∀ c, c ∈ natO p.2.1 → c ∉ natO q.2.1
def flO (ys : List Dgm) : List Nat := ys.flatMap fun p => natO p.2.1
theorem form_list {S M : List Int} {n : Nat} : ∀ (ys : List Dgm), (∀ p, p ∈ ys → PieOk S M n p) → ys.Pairwise Apart → partS S (flO ys) = decS (ys.map fun p => p.1) ∧ partM M (flO ys) = decM (ys.map fun p => p.1) ∧ Whole M n (flO ys)
  | [], _, _ => ⟨rfl, rfl, ⟨fun c h => by simp [flO] at h, by simp [flO], fun c h => by simp [flO] at h⟩⟩
  | p :: ys, h, hp => by
    rw [List.pairwise_cons] at hp
    obtain ⟨i1, i2, i3⟩ := form_list ys (fun q hq => h q (List.mem_cons_of_mem _ hq)) hp.2
    have hk := h p List.mem_cons_self
    have e : flO (p :: ys) = natO p.2.1 ++ flO ys := by unfold flO; rw [List.flatMap_cons]
    have hd : ∀ c, c ∈ natO p.2.1 → c ∉ flO ys := fun c hc hf => by
      obtain ⟨q, hq, hcq⟩ := List.mem_flatMap.1 hf
      exact hp.1 q hq c hc hcq
    rw [e]
    refine ⟨?_, ?_, ⟨fun c hc => ?_, ?_, fun c hc d hcd => ?_⟩⟩
    · rw [partS_append, i1, ← hk.code.1, List.map_cons]
      unfold decS
      rw [List.flatMap_cons]
    · rw [← part_union hk.whole i3 hd, i2, ← hk.code.2, List.map_cons]
      rfl
    · rcases List.mem_append.1 hc with g | g
      · exact hk.whole.lt c g
      · exact i3.lt c g
    · rw [List.nodup_append]
      exact ⟨hk.whole.nd, i3.nd, fun a ha b hb e => hd a ha (e ▸ hb)⟩
    · rcases List.mem_append.1 hc with g | g
      · exact List.mem_append_left _ (hk.whole.cl c g d hcd)
      · exact List.mem_append_right _ (i3.cl c g d hcd)
noncomputable def fmS (S M : List Int) : List Int := decS (codesL S M S.length)
noncomputable def fmM (S M : List Int) : List Int := decM (codesL S M S.length)
theorem form_plain {S M : List Int} {L : Int} (hs : Shape S M L) {ys : List Dgm} (h : SrtTo ((grpOf M S.length).map (pieOf S M S.length)) ys ys.length) :
    (flO ys).Perm (List.range S.length) ∧ partS S (flO ys) = fmS S M ∧ partM M (flO ys) = fmM S M := by
  have hmo := hs.mates
  have hm : ∀ x, x < 4 * S.length → mt M x < 4 * S.length := fun x hx => hs.mt_lt hx
  have hpG : ∀ G, G ∈ grpOf M S.length → (natO (pieOf S M S.length G).2.1).Perm G ∧ PieOk S M S.length (pieOf S M S.length G) := fun G hG => by
    have hw := grp_whole hmo hG
    obtain ⟨r, hr, e1, e2⟩ := (pie_is S M S.length hw.2).at_
    have hp := ordL_perm hmo hm hG hr
    have e3 : natO (pieOf S M S.length G).2.1 = ordL M r S.length := by rw [e2, natO_nats]
    refine ⟨by rw [e3]; exact hp, ⟨?_, ?_⟩⟩
    · rw [e3, e1]; exact ⟨dec1S_code _ _ _ _, dec1M_code _ _ _ _⟩
    · rw [e3]
      exact ⟨fun c hc => hw.1.lt c (hp.mem_iff.1 hc), hp.nodup_iff.2 hw.1.nd, fun c hc d hcd => hp.mem_iff.2 (hw.1.cl c (hp.mem_iff.1 hc) d hcd)⟩
  have hok : ∀ p, p ∈ ys → PieOk S M S.length p := fun p hp => by
    obtain ⟨G, hG, rfl⟩ := List.mem_map.1 (h.perm.mem_iff.1 hp)
    exact (hpG G hG).2
  have hpw : ((grpOf M S.length).map (pieOf S M S.length)).Pairwise Apart := by
    rw [List.pairwise_map]
    refine List.Pairwise.imp_of_mem (fun {G H} hG hH hne c hc hd => hne ?_) (List.nodup_iff_pairwise_ne.1 (grp_nodup hmo))
    have h1 := (hpG G hG).1.mem_iff.1 hc
    have h2 := (hpG H hH).1.mem_iff.1 hd
    have hl := (grp_whole hmo hG).1.lt c h1
    rw [grp_of hmo hl hG h1, grp_of hmo hl hH h2]
  have hap : ys.Pairwise Apart := (h.perm.symm.pairwise_iff (fun {p q} (g : Apart p q) => fun c hc hd => g c hd hc)).1 hpw
  obtain ⟨f1, f2, f3⟩ := form_list ys hok hap
  have hc := (srtTo_codes h).1
  refine ⟨(List.perm_ext_iff_of_nodup f3.nd List.nodup_range).2 fun c => ⟨fun hc => List.mem_range.2 (f3.lt c hc), fun hc => ?_⟩, ?_, ?_⟩
  · have hc := List.mem_range.1 hc
    have hg := grp_has hmo c hc
    refine List.mem_flatMap.2 ⟨pieOf S M S.length (clsN M S.length c), h.perm.mem_iff.2 (List.mem_map.2 ⟨_, hg, rfl⟩), (hpG _ hg).1.mem_iff.2 (cls_self hc)⟩
  · unfold fmS; rw [f1, hc]
  · unfold fmM; rw [f2, hc]
/-- Pieces can be sorted. -/
theorem srt_some (T : List Dgm) : ∃ ys, SrtTo T ys ys.length := by
  have tr : ∀ a b c : Dgm, decide (pc a b ≤ 0) = true → decide (pc b c ≤ 0) = true → decide (pc a c ≤ 0) = true := fun a b c h g => decide_eq_true (pc_trans (of_decide_eq_true h) (of_decide_eq_true g))
  have tt : ∀ a b : Dgm, (decide (pc a b ≤ 0) || decide (pc b a ≤ 0)) = true := fun a b => by
    rw [Bool.or_eq_true, decide_eq_true_eq, decide_eq_true_eq, pc_swap a b]; omega
  have hs := List.pairwise_mergeSort tr tt T
  refine ⟨T.mergeSort fun a b => decide (pc a b ≤ 0), List.mergeSort_perm _ _, fun p q h1 h2 => ?_⟩
  have := List.pairwise_iff_getElem.1 hs p q (by omega) h2 h1
  have e : ∀ j (hj : j < (T.mergeSort fun a b => decide (pc a b ≤ 0)).length), dg (T.mergeSort fun a b => decide (pc a b ≤ 0)) j = (T.mergeSort fun a b => decide (pc a b ≤ 0))[j] := fun j hj => by
    have := dg_get hj; rw [List.getElem?_eq_getElem hj] at this; exact (Option.some.inj this).symm
  rw [e p (by omega), e q h2]
  exact of_decide_eq_true this
end Go.Proofs.YtmhhjchnjaefhaaDoor

namespace Go.Proofs.YtmhhjchnjaefhaaDoor
open Go Go.RowKit
theorem ct_grp {M : List Int} {n : Nat} (hm : MateOk M n) : CT M n = (grpOf M n).length := by
  unfold CT cnt grpOf leadsN
  rw [List.length_map, List.countP_eq_length_filter]
  congr 1
  refine List.filter_congr fun c hc => ?_
  have hc := List.mem_range.1 hc
  rw [Bool.eq_iff_iff, decide_eq_true_eq, okC_iff]
  constructor
  · intro h d hd hdc
    have := rep_le M (hm.conn_symm (by omega) hdc)
    omega
  · intro h
    have h1 := rep_conn M c
    have h2 : rep M c ≤ c := rep_le M (Conn.refl M c)
    rcases Nat.lt_or_ge (rep M c) c with g | g
    · exact absurd (hm.conn_symm hc h1) (h _ g)
    · omega
theorem faces_len {S M : List Int} {L : Int} (hv : vldB S M L = true) : (facesL M S.length).length = S.length + 2 * (grpOf M S.length).length := by
  obtain ⟨hs, hsp⟩ := vldB_iff.1 hv
  have hm := hs.mates2
  rw [← ct_grp hm.ok, ← (sph_total hm).1 hsp]
  unfold facesL
  rw [cycs_eq hm.inj (fun x hx => perOf_spec hm.inj x hx) _ (fun _ _ => rfl)]
  unfold clTo FT cnt
  rw [List.length_map, List.countP_eq_length_filter]
  simp
theorem grp_pinf (S M : List Int) (n : Nat) : (pinf S M n).length = (grpOf M n).length := by unfold pinf; rw [List.length_map]
theorem codes_grp (S M : List Int) (n : Nat) : (codesL S M n).length = (grpOf M n).length := by
  unfold codesL srtC
  rw [List.length_mergeSort, List.length_map, grp_pinf]
end Go.Proofs.YtmhhjchnjaefhaaDoor

namespace Go.Proofs.YtmhhjchnjaefhaaDoor
open Go Go.RowKit
/-- More than 20 crossings or 80 half-edges. -/
def greatB (S M : List Int) (_ : Int) : Bool := decide (20 < S.length) || decide (80 < M.length)
theorem greatB_no {S M : List Int} {L : Int} (h : greatB S M L = false) : S.length ≤ 20 ∧ M.length ≤ 80 := by
  unfold greatB at h
  simp only [Bool.or_eq_false_iff, decide_eq_false_iff_not] at h
  omega
set_option maxRecDepth 100000 in
set_option maxHeartbeats 1000000 in
theorem great_a (S M : List Int) (L : Int) (aS aM : Option Addr) (cS cM : Nat) (w : World) (h : 20 < S.length) :
    Calls Tryd.prog 12 #[.agg #[.slice aS S.length cS, .slice aM M.length cM, .int .i64 L]] w fun e w' => e = .returned (.bool true) ∧ Below w.heap.size w w' := by
  have t1 : decide ((20 : Int) < (S.length : Int)) = true := decide_eq_true (by omega)
  have t2 : decide (20 < S.length) = true := decide_eq_true h
  have H0 := Lib.hid ((HH.start w).alloc #[.slice aS S.length cS, .slice aM M.length cM, .int .i64 L] 24 rfl rfl)
  clear h
  generalize S.length = n at *
  generalize M.length = N at *
  go_enter Tryd.func12, Tryd.ntmps12
  have k00 := H0.out.cell (k := 0) (i := 0) rfl rfl
  have k01 := H0.out.cell (k := 0) (i := 1) rfl rfl
  have k02 := H0.out.cell (k := 0) (i := 2) rfl rfl
  go_wp2_with fail
  go_ret
  exact ⟨rfl, H0.out.below⟩
set_option maxRecDepth 100000 in
set_option maxHeartbeats 1000000 in
theorem great_b (S M : List Int) (L : Int) (aS aM : Option Addr) (cS cM : Nat) (w : World) (h : S.length ≤ 20) (h2 : 80 < M.length) :
    Calls Tryd.prog 12 #[.agg #[.slice aS S.length cS, .slice aM M.length cM, .int .i64 L]] w fun e w' => e = .returned (.bool true) ∧ Below w.heap.size w w' := by
  have t1 : decide ((20 : Int) < (S.length : Int)) = false := decide_eq_false (by omega)
  have t2 : decide (20 < S.length) = false := decide_eq_false (by omega)
  have t3 : decide ((80 : Int) < (M.length : Int)) = true := decide_eq_true (by omega)
  have t4 : decide (80 < M.length) = true := decide_eq_true h2
  have H0 := Lib.hid ((HH.start w).alloc #[.slice aS S.length cS, .slice aM M.length cM, .int .i64 L] 24 rfl rfl)
  clear h h2
  generalize S.length = n at *
  generalize M.length = N at *
  go_enter Tryd.func12, Tryd.ntmps12
  have k00 := H0.out.cell (k := 0) (i := 0) rfl rfl
  have k01 := H0.out.cell (k := 0) (i := 1) rfl rfl
  have k02 := H0.out.cell (k := 0) (i := 2) rfl rfl
  go_wp2_with fail
  go_ret
  exact ⟨rfl, H0.out.below⟩
set_option maxRecDepth 100000 in
set_option maxHeartbeats 1000000 in
theorem great_c (S M : List Int) (L : Int) (aS aM : Option Addr) (cS cM : Nat) (w : World) (h : S.length ≤ 20) (h2 : M.length ≤ 80) :
    Calls Tryd.prog 12 #[.agg #[.slice aS S.length cS, .slice aM M.length cM, .int .i64 L]] w fun e w' => e = .returned (.bool false) ∧ Below w.heap.size w w' := by
  have t1 : decide ((20 : Int) < (S.length : Int)) = false := decide_eq_false (by omega)
  have t2 : decide (20 < S.length) = false := decide_eq_false (by omega)
  have t3 : decide ((80 : Int) < (M.length : Int)) = false := decide_eq_false (by omega)
  have t4 : decide (80 < M.length) = false := decide_eq_false (by omega)
  have H0 := Lib.hid ((HH.start w).alloc #[.slice aS S.length cS, .slice aM M.length cM, .int .i64 L] 24 rfl rfl)
  clear h h2
  generalize S.length = n at *
  generalize M.length = N at *
  go_enter Tryd.func12, Tryd.ntmps12
  have k00 := H0.out.cell (k := 0) (i := 0) rfl rfl
  have k01 := H0.out.cell (k := 0) (i := 1) rfl rfl
  have k02 := H0.out.cell (k := 0) (i := 2) rfl rfl
  go_wp2_with fail
  go_ret
  exact ⟨rfl, H0.out.below⟩
theorem great_any (S M : List Int) (L : Int) (aS aM : Option Addr) (cS cM : Nat) (w : World) : Calls Tryd.prog 12 #[.agg #[.slice aS S.length cS, .slice aM M.length cM, .int .i64 L]] w fun e w' => e = .returned (.bool (greatB S M L)) ∧ Below w.heap.size w w' := by
  unfold greatB
  by_cases h : 20 < S.length
  · rw [decide_eq_true h, Bool.true_or]; exact great_a S M L aS aM cS cM w h
  · rw [decide_eq_false h, Bool.false_or]
    by_cases h2 : 80 < M.length
    · rw [decide_eq_true h2]; exact great_b S M L aS aM cS cM w (by omega) h2
    · rw [decide_eq_false h2]; exact great_c S M L aS aM cS cM w (by omega) (by omega)
end Go.Proofs.YtmhhjchnjaefhaaDoor

namespace Go.Proofs.YtmhhjchnjaefhaaDoor
open Go Go.RowKit
/-- The form is a renumbered diagram. -/
theorem fm_perm {S M : List Int} {L : Int} (hv : vldB S M L = true) : ∃ o : List Nat, o.Perm (List.range S.length) ∧ partS S o = fmS S M ∧ partM M o = fmM S M := by
  obtain ⟨ys, hy⟩ := srt_some ((grpOf M S.length).map (pieOf S M S.length))
  exact ⟨flO ys, form_plain (vldB_shape hv) hy⟩
end Go.Proofs.YtmhhjchnjaefhaaDoor

namespace Go.Proofs.YtmhhjchnjaefhaaDoor
open Go Go.RowKit
/-- The number that a numeral tells. -/
def tokD (l : List UInt8) : Int := if l = [45, 49] then -1 else l.foldl (fun a d => 10 * a + ((d.toNat : Int) - 48)) 0
theorem tok_nat : ∀ n : Nat, n < 100 → tokD (itoa2 (n : Int)) = (n : Int) ∧ (44 : UInt8) ∉ itoa2 (n : Int) := by decide +kernel
theorem itoa_m1 : Lib.itoa (-1) = [45, 49] := by
  unfold Lib.itoa
  rw [if_pos (by decide), show (-1 : Int).natAbs = 1 from rfl, dig_one (by decide)]; rfl
theorem tok_itoa {x : Int} (h : Sml x) : tokD (Lib.itoa x) = x ∧ (44 : UInt8) ∉ Lib.itoa x := by
  rcases h with rfl | ⟨h1, h2⟩
  · rw [itoa_m1]; decide +kernel
  · rw [itoa_2 h1 h2]
    have := tok_nat x.toNat (by omega)
    rw [Int.toNat_of_nonneg h1] at this
    exact this
theorem itoa_inj {x y : Int} (hx : Sml x) (hy : Sml y) (h : Lib.itoa x = Lib.itoa y) : x = y := by
  rw [← (tok_itoa hx).1, ← (tok_itoa hy).1, h]
theorem split_at {a b : List UInt8} {r s : List UInt8} (ha : (44 : UInt8) ∉ a) (hb : (44 : UInt8) ∉ b) (h : a ++ 44 :: r = b ++ 44 :: s) : a = b ∧ r = s := by
  induction a generalizing b with
  | nil =>
    cases b with
    | nil => simp at h; exact ⟨rfl, h⟩
    | cons y b => simp at h; exact absurd (by rw [h.1]; exact List.mem_cons_self) hb
  | cons x a ih =>
    cases b with
    | nil => simp at h; exact absurd (by rw [h.1]; exact List.mem_cons_self) ha
    | cons y b =>
      simp at h
      obtain ⟨i1, i2⟩ := ih (fun k => ha (List.mem_cons_of_mem _ k)) (fun k => hb (List.mem_cons_of_mem _ k)) h.2
      exact ⟨by rw [h.1, i1], i2⟩
/-- The key from the front. -/
def keyC : List Int → List UInt8
  | [] => []
  | [x] => Lib.itoa x
  | x :: y :: l => Lib.itoa x ++ 44 :: keyC (y :: l)
theorem keyC_snoc : ∀ (l : List Int) (x : Int), keyC (l ++ [x]) = keyC l ++ (if 0 < l.length then [44] else []) ++ Lib.itoa x
  | [], x => by simp [keyC]
  | [y], x => by simp [keyC]
  | y :: z :: l, x => by
    have ih := keyC_snoc (z :: l) x
    show keyC (y :: z :: (l ++ [x])) = keyC (y :: z :: l) ++ _ ++ _
    rw [keyC, keyC, show z :: (l ++ [x]) = (z :: l) ++ [x] from rfl, ih, if_pos (by simp), if_pos (by simp)]
    simp
theorem keyT_C (l : List Int) : ∀ i, i ≤ l.length → keyT l i = keyC (l.take i)
  | 0, _ => by rw [List.take_zero]; rfl
  | i + 1, h => by
    have e : nth l i = l[i] := by unfold nth; simp [show i < l.length by omega]
    rw [keyT, keyT_C l i (by omega), List.take_add_one, List.getElem?_eq_getElem (by omega), Option.toList_some, keyC_snoc, List.length_take, e]
    congr 2
    by_cases g : 0 < i
    · rw [if_pos g, if_pos (by omega)]
    · rw [if_neg g, if_neg (by omega)]
theorem keyOf_C (l : List Int) : keyOf l = keyC l := by
  unfold keyOf
  rw [keyT_C l _ (Nat.le_refl _), List.take_length]
theorem keyC_inj : ∀ (l m : List Int), (∀ x, x ∈ l → Sml x) → (∀ x, x ∈ m → Sml x) → l ≠ [] → m ≠ [] → keyC l = keyC m → l = m
  | [], _, _, _, h, _, _ => absurd rfl h
  | _, [], _, _, _, h, _ => absurd rfl h
  | [x], [y], hl, hm, _, _, h => by
    rw [itoa_inj (hl x (by simp)) (hm y (by simp)) h]
  | [x], y :: z :: m, hl, _, _, _, h => by
    have := (tok_itoa (hl x (by simp))).2
    rw [keyC, keyC] at h
    exact absurd (by rw [h]; simp) this
  | x :: z :: l, [y], _, hm, _, _, h => by
    have := (tok_itoa (hm y (by simp))).2
    rw [keyC, keyC] at h
    exact absurd (by rw [← h]; simp) this
  | x :: x2 :: l, y :: y2 :: m, hl, hm, _, _, h => by
    rw [keyC, keyC] at h
    obtain ⟨h1, h2⟩ := split_at (tok_itoa (hl x (by simp))).2 (tok_itoa (hm y (by simp))).2 h
    rw [itoa_inj (hl x (by simp)) (hm y (by simp)) h1, keyC_inj (x2 :: l) (y2 :: m) (fun z hz => hl z (List.mem_cons_of_mem _ hz)) (fun z hz => hm z (List.mem_cons_of_mem _ hz)) (by simp) (by simp) h2]
theorem keyOf_inj {l m : List Int} (hl : ∀ x, x ∈ l → Sml x) (hm : ∀ x, x ∈ m → Sml x) (h0 : l ≠ []) (h1 : m ≠ []) (h : keyOf l = keyOf m) : l = m :=
  keyC_inj l m hl hm h0 h1 (by rw [← keyOf_C, ← keyOf_C]; exact h)
theorem codeOf_ne (S M : List Int) (L : Int) : codeOf S M L ≠ [] := by unfold codeOf encC; simp
theorem flat_inj : ∀ (cs ds : List (List Int)), cs.length = ds.length → (∀ c, c ∈ cs → ∃ k, c.length = 5 * k) → (∀ c, c ∈ ds → ∃ k, c.length = 5 * k) → (cs.flatMap fun c => ((c.length / 5 : Nat) : Int) :: c) = (ds.flatMap fun c => ((c.length / 5 : Nat) : Int) :: c) → cs = ds
  | [], [], _, _, _, _ => rfl
  | [], _ :: _, h, _, _, _ => by simp at h
  | _ :: _, [], h, _, _, _ => by simp at h
  | c :: cs, d :: ds, hl, hc, hd, h => by
    rw [List.flatMap_cons, List.flatMap_cons] at h
    obtain ⟨k, hk⟩ := hc c List.mem_cons_self
    obtain ⟨j, hj⟩ := hd d List.mem_cons_self
    simp only [List.cons_append, List.cons.injEq] at h
    have e : c.length = d.length := by have := h.1; omega
    obtain ⟨h1, h2⟩ := List.append_inj h.2 e
    rw [h1, flat_inj cs ds (by simpa using hl) (fun x hx => hc x (List.mem_cons_of_mem _ hx)) (fun x hx => hd x (List.mem_cons_of_mem _ hx)) h2]
theorem codes_five (S M : List Int) (n : Nat) : ∀ c, c ∈ codesL S M n → ∃ k, c.length = 5 * k := fun c hc => by
  have hc := (List.mergeSort_perm _ _).mem_iff.1 hc
  obtain ⟨q, hq, rfl⟩ := List.mem_map.1 hc
  obtain ⟨G, hG, rfl⟩ := List.mem_map.1 hq
  obtain ⟨d, hd, rfl⟩ := List.mem_map.1 hG
  exact ⟨_, pie_len (pie_is S M n (cls_pos (M := M) (n := n) (mem_leadsN.1 hd).1))⟩
theorem code_inj {S M T N : List Int} {L K : Int} (h : codeOf S M L = codeOf T N K) : L = K ∧ codesL S M S.length = codesL T N T.length := by
  unfold codeOf encC at h
  simp only [List.cons.injEq] at h
  exact ⟨h.1, flat_inj _ _ (by have := h.2.1; omega) (codes_five _ _ _) (codes_five _ _ _) h.2.2⟩
def sumI : List Int → Int
  | [] => 0
  | x :: l => x + sumI l
theorem sumI_append (a b : List Int) : sumI (a ++ b) = sumI a + sumI b := by
  induction a with
  | nil => simp [sumI]
  | cons x a ih => rw [List.cons_append, sumI, sumI, ih, Int.add_assoc]
theorem sumI_perm {a b : List Int} (h : a.Perm b) : sumI a = sumI b := by
  induction h with
  | nil => rfl
  | cons x _ ih => rw [sumI, sumI, ih]
  | swap x y l => rw [sumI, sumI, sumI, sumI, ← Int.add_assoc, ← Int.add_assoc, Int.add_comm y x]
  | trans _ _ h1 h2 => rw [h1, h2]
theorem part_perm {S : List Int} {o : List Nat} (h : o.Perm (List.range S.length)) : (partS S o).Perm S := by
  unfold partS
  refine (h.map _).trans (List.Perm.of_eq ?_)
  refine ext_nth (by simp) fun i hi => ?_
  rw [List.length_map, List.length_range] at hi
  exact nth_row _ _ _ hi
/-- Two diagrams of one code. -/
theorem same_code {S M T N : List Int} {L K : Int} (hv : vldB S M L = true) (hw : vldB T N K = true) (h : codeOf S M L = codeOf T N K) :
    L = K ∧ S.length = T.length ∧ sumI S = sumI T ∧ (facesL M S.length).length = (facesL N T.length).length ∧ fmS S M = fmS T N ∧ fmM S M = fmM T N := by
  obtain ⟨h1, h2⟩ := code_inj h
  have e1 : fmS S M = fmS T N := by unfold fmS; rw [h2]
  have e2 : fmM S M = fmM T N := by unfold fmM; rw [h2]
  obtain ⟨o, hp, f1, _⟩ := fm_perm hv
  obtain ⟨p, hq, g1, _⟩ := fm_perm hw
  have p1 := part_perm hp
  have p2 := part_perm hq
  rw [f1] at p1
  rw [g1, ← e1] at p2
  have hl : S.length = T.length := by rw [← p1.length_eq, p2.length_eq]
  refine ⟨h1, hl, by rw [← sumI_perm p1, sumI_perm p2], ?_, e1, e2⟩
  have k1 := codes_grp S M S.length
  have k2 := codes_grp T N T.length
  rw [faces_len hv, faces_len hw, ← k1, ← k2, h2, hl]
end Go.Proofs.YtmhhjchnjaefhaaDoor

namespace Go.Proofs.YtmhhjchnjaefhaaDoor
open Go Go.RowKit
theorem sclone_all (xs : List Int) (a : Option Addr) (c : Nat) (w : World) (hl : xs.length ≤ 1000000) (hx : IntsAt w a xs) :
    Calls Tryd.prog 56 #[.slice a xs.length c] w fun e w' => ∃ a' c', e = .returned (.slice a' xs.length c') ∧ Own w' w.heap.size 3 a' c' (ints xs) ∧ Below w.heap.size w w' := by
  rcases Nat.eq_zero_or_pos xs.length with h0 | h0
  · obtain rfl := List.eq_nil_of_length_eq_zero h0
    cases a with
    | none =>
      refine (Tryd.slices_Clone_int_nil 0 c w).mono ?_
      rintro e w' ⟨rfl, rfl⟩
      exact ⟨none, 0, rfl, Own.nil _ _ _, Below.refl _ _⟩
    | some x =>
      refine (Tryd.slices_Clone_int_zero x c w).mono ?_
      rintro e w' ⟨v', rfl, ⟨_, h⟩, hne, hb⟩
      rcases h with ⟨h, _⟩ | ⟨g, cap, cur, rfl, h1, h2, _, _, h3, _⟩
      · exact absurd h hne
      · exact ⟨some ⟨g, 0, none⟩, cap, rfl, .inr ⟨g, 0, cur, rfl, h1, h2, Nat.zero_le _, by omega, fun i v hv => by simp [ints] at hv⟩, hb⟩
  · exact sclone_own xs a c w hl h0 hx
set_option maxRecDepth 100000 in
set_option maxHeartbeats 4000000 in
theorem dclone_all (S M : List Int) (L : Int) (aS aM : Option Addr) (cS cM : Nat) (w : World) (hSl : S.length ≤ 1000000) (hMl : M.length ≤ 1000000) (hS : IntsAt w aS S) (hM : IntsAt w aM M) :
    Calls Tryd.prog 32 #[.agg #[.slice aS S.length cS, .slice aM M.length cM, .int .i64 L]] w fun e w' => ∃ a b c d, e = .returned (.agg #[.slice a S.length c, .slice b M.length d, .int .i64 L]) ∧ Own w' w.heap.size 3 a c (ints S) ∧ Own w' w.heap.size 3 b d (ints M) ∧ (∀ p q, a = some p → b = some q → p.block ≠ q.block) ∧ Below w.heap.size w w' := by
  have HS := Lib.hid hS
  have HM := Lib.hid hM
  have HcS : Hid (∀ W', Below w.heap.size w W' → Calls Tryd.prog 56 #[.slice aS S.length cS] W' fun e w' => ∃ a' c', e = .returned (.slice a' S.length c') ∧ Own w' W'.heap.size 3 a' c' (ints S) ∧ Below W'.heap.size W' w') := Lib.hid fun W' h => sclone_all S aS cS W' hSl (hS.later h)
  have HcM : Hid (∀ W', Below w.heap.size w W' → Calls Tryd.prog 56 #[.slice aM M.length cM] W' fun e w' => ∃ a' c', e = .returned (.slice a' M.length c') ∧ Own w' W'.heap.size 3 a' c' (ints M) ∧ Below W'.heap.size W' w') := Lib.hid fun W' h => sclone_all M aM cM W' hMl (hM.later h)
  have H0 := Lib.hid (((HH.start w).alloc #[.slice aS S.length cS, .slice aM M.length cM, .int .i64 L] 24 rfl rfl).alloc #[.slice none 0 0, .slice none 0 0, .int .i64 0] 24 (b := w.heap.size + 1) (by simp) rfl)
  have HKS : Hid (∀ (W' : World) (l : Kn) (s : List SlO), HH w W' ((w.heap.size, rowO 24 [.slice aS S.length cS, .slice aM M.length cM, .int .i64 L]) :: l) s → W'.cell? ⟨w.heap.size, 0, none⟩ = some (.slice aS S.length cS) ∧ W'.cell? ⟨w.heap.size, 1, none⟩ = some (.slice aM M.length cM) ∧ W'.cell? ⟨w.heap.size, 2, none⟩ = some (.int .i64 L)) := Lib.hid fun W' l s h => ⟨h.cell (k := 0) (i := 0) rfl rfl, h.cell (k := 0) (i := 1) rfl rfl, h.cell (k := 0) (i := 2) rfl rfl⟩
  clear hS hM hSl hMl
  go_enter Tryd.func32, Tryd.ntmps32
  go_upto_region 1 with fail
  have Hd := Lib.hid H0.out.drew
  clear H0
  generalize ((w.alloc (.cells #[.slice aS S.length cS, .slice aM M.length cM, .int .i64 L] 24)).alloc (.cells #[.slice none 0 0, .slice none 0 0, .int .i64 0] 24)) = W at *
  have Q0 := Lib.hid (HKS.out _ _ _ Hd.out)
  have hq0 := Q0.out
  go_region_held3 (fun W' => W'.cell? ⟨w.heap.size, 0, none⟩ = some (.slice aS S.length cS) ∧ W'.cell? ⟨w.heap.size, 1, none⟩ = some (.slice aM M.length cM) ∧ W'.cell? ⟨w.heap.size, 2, none⟩ = some (.int .i64 L))
    (first
      | with_reducible exact Q0.out
      | with_reducible exact Q1.out
      | with_reducible exact Q2.out
      | with_reducible exact Q9.out)
    (first
      | ((with_reducible refine (HcS.out _ Hd.out.below).mono ?_); rintro e w1 ⟨a1, c1, rfl, ho1, hb1⟩; have H1 := Lib.hid (Hd.out.addSl hb1 ho1); have Q1 := Lib.hid (HKS.out _ _ _ H1.out); clear ho1 hb1)
      | ((with_reducible refine (HcM.out _ Hd.out.below).mono ?_); rintro e w1 ⟨a2, c2, rfl, ho1, hb1⟩; have H1 := Lib.hid (Hd.out.addSl hb1 ho1); have Q1 := Lib.hid (HKS.out _ _ _ H1.out); clear ho1 hb1)
      | ((with_reducible refine (HcM.out _ H1.out.below).mono ?_); rintro e w2 ⟨a2, c2, rfl, ho2, hb2⟩; have H2 := Lib.hid (H1.out.addSl hb2 ho2); have Q2 := Lib.hid (HKS.out _ _ _ H2.out); clear ho2 hb2; have hd0 := H2.out.cell (k := 1) (i := 0) rfl rfl; have hf0 := H2.out.frozen (k := 1) rfl 0; have hd1 := H2.out.cell (k := 1) (i := 1) rfl rfl; have hf1 := H2.out.frozen (k := 1) rfl 1; have hd2 := H2.out.cell (k := 1) (i := 2) rfl rfl; have hf2 := H2.out.frozen (k := 1) rfl 2; have H9 := Lib.hid (((H2.out.set (k := 1) rfl 0 (.slice a1 S.length c1)).set (k := 1) rfl 1 (.slice a2 M.length c2)).set (k := 1) rfl 2 (.int .i64 L)); have Q9 := Lib.hid (HKS.out _ _ _ H9.out))
      | ((with_reducible refine (HcS.out _ H1.out.below).mono ?_); rintro e w2 ⟨a1, c1, rfl, ho2, hb2⟩; have H2 := Lib.hid (H1.out.addSl hb2 ho2); have Q2 := Lib.hid (HKS.out _ _ _ H2.out); clear ho2 hb2; have hd0 := H2.out.cell (k := 1) (i := 0) rfl rfl; have hf0 := H2.out.frozen (k := 1) rfl 0; have hd1 := H2.out.cell (k := 1) (i := 1) rfl rfl; have hf1 := H2.out.frozen (k := 1) rfl 1; have hd2 := H2.out.cell (k := 1) (i := 2) rfl rfl; have hf2 := H2.out.frozen (k := 1) rfl 2; have H9 := Lib.hid (((H2.out.set (k := 1) rfl 0 (.slice a1 S.length c1)).set (k := 1) rfl 1 (.slice a2 M.length c2)).set (k := 1) rfl 2 (.int .i64 L)); have Q9 := Lib.hid (HKS.out _ _ _ H9.out)))
  all_goals
    clear hd0 hd1 hd2 hf0 hf1 hf2
    have hF0 := H9.out.cell (k := 1) (i := 0) rfl rfl
    have hF1 := H9.out.cell (k := 1) (i := 1) rfl rfl
    have hF2 := H9.out.cell (k := 1) (i := 2) rfl rfl
    go_wp2_with fail
    refine bodyPost_ret (v := .agg #[.slice a1 S.length c1, .slice a2 M.length c2, .int .i64 L]) (by simp [results, Tryd.results32, go_sem, hF0, hF1, hF2]) rfl ?_
    have hp := H9.out.nd2
    simp only [List.nil_append, List.cons_append, List.pairwise_cons, List.mem_cons, List.not_mem_nil, or_false, forall_eq, false_imp_iff, implies_true, List.Pairwise.nil, and_true] at hp
  · exact ⟨_, _, _, _, rfl, H9.out.sl (k := 0) rfl, H9.out.sl (k := 1) rfl, hp, H9.out.below⟩
end Go.Proofs.YtmhhjchnjaefhaaDoor


namespace Go.Proofs.YtmhhjchnjaefhaaDoor
open Go Go.RowKit
set_option maxRecDepth 100000 in
set_option maxHeartbeats 1000000 in
theorem valid_long (S M : List Int) (L : Int) (aS aM : Option Addr) (cS cM : Nat) (w : World) (hS20 : S.length ≤ 64) (hn : M.length ≠ 4 * S.length) :
    Calls Tryd.prog 18 #[.agg #[.slice aS S.length cS, .slice aM M.length cM, .int .i64 L]] w fun e w' => e = .returned (.bool false) ∧ Below w.heap.size w w' := by
  have t1 : decide ((64 : Int) < (S.length : Int)) = false := decide_eq_false (by omega)
  have t2 : decide (64 < S.length) = false := decide_eq_false (by omega)
  have w1 : IntKind.i64.wrap (4 * (S.length : Int)) = 4 * (S.length : Int) := wrapi_mid (by omega) (by omega)
  have t3 : ((M.length : Int) != 4 * (S.length : Int)) = true := by simp; omega
  have H0 := Lib.hid ((HH.start w).alloc #[.slice aS S.length cS, .slice aM M.length cM, .int .i64 L] 24 rfl rfl)
  clear hn
  generalize S.length = n at *
  generalize M.length = N at *
  go_enter Tryd.func18, Tryd.ntmps18
  have k00 := H0.out.cell (k := 0) (i := 0) rfl rfl
  have k01 := H0.out.cell (k := 0) (i := 1) rfl rfl
  have k02 := H0.out.cell (k := 0) (i := 2) rfl rfl
  go_wp2_with fail
  go_ret
  exact ⟨rfl, H0.out.below⟩
theorem valid_all (S M : List Int) (L : Int) (aS aM : Option Addr) (cS cM : Nat) (w : World) (hS20 : S.length ≤ 20) (hS : IntsAt w aS S) (hM : IntsAt w aM M) :
    Calls Tryd.prog 18 #[.agg #[.slice aS S.length cS, .slice aM M.length cM, .int .i64 L]] w fun e w' => e = .returned (.bool (vldB S M L)) ∧ Below w.heap.size w w' := by
  by_cases h : M.length = 4 * S.length
  · exact valid_any S M L aS aM cS cM w (by omega) (by omega) hS hM
  · rw [vldB_no fun hs => h hs.len]
    exact valid_long S M L aS aM cS cM w (by omega) h
theorem HH.addSl2 {w0 w w' : World} {l : Kn} {s : List SlO} (h : HH w0 w l s) (hb : Below w.heap.size w w') {a a' : Option Addr} {c c' : Nat} {E E' : TypeId} {vs vs' : List Value} (h1 : Own w' w.heap.size E a c vs) (h2 : Own w' w.heap.size E' a' c' vs') (hne : ∀ p q, a = some p → a' = some q → p.block ≠ q.block) :
    HH w0 w' l (s ++ [⟨a, c, E, vs⟩, ⟨a', c', E', vs'⟩]) := by
  have g := h.addSl hb h1
  refine ⟨g.below, g.blk, fun x hx => ?_, g.nd1, ?_, fun x hx y hy q hq => ?_⟩
  · simp only [List.mem_append, List.mem_cons, List.not_mem_nil, or_false] at hx
    rcases hx with hx | rfl | rfl
    · exact g.own x (by simp [hx])
    · exact g.own _ (by simp)
    · exact h2.mono h.below.size
  · rw [show s ++ [⟨a, c, E, vs⟩, ⟨a', c', E', vs'⟩] = (s ++ [⟨a, c, E, vs⟩]) ++ [⟨a', c', E', vs'⟩] by simp, List.pairwise_append]
    refine ⟨g.nd2, List.pairwise_singleton _ _, fun x hx y hy p q hp hq => ?_⟩
    obtain rfl := List.mem_singleton.1 hy
    rcases List.mem_append.1 hx with e | e
    · have k1 := ((h.own x e).lt hp).2
      have k2 := (h2.lt hq).1
      omega
    · obtain rfl := List.mem_singleton.1 e
      exact hne p q hp hq
  · simp only [List.mem_append, List.mem_cons, List.not_mem_nil, or_false] at hy
    rcases hy with hy | rfl | rfl
    · exact g.nd3 x hx y (by simp [hy]) q hq
    · exact g.nd3 x hx _ (by simp) q hq
    · have k1 := h.lt hx
      have k2 := (h2.lt hq).1
      omega
end Go.Proofs.YtmhhjchnjaefhaaDoor

