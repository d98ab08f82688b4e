/- connect.beside: two diagrams beside each other. -/
import Derived.WalkKit
import Derived.WalkSpells
import Derived.WalkLawsBesides
import Derived.Deep.AppendSrc
import Derived.Deep.LoopGhost
import Derived.Deep.QuietTactic
import Derived.Deep.RegionWith
import Derived.Deep.DeepMust
import Derived.Deep.DeepFit
import Derived.BigQuiet
import Derived.Lib.Hide
import Derived.Outline
import Derived.Test.YtmjoijfafachhaaGreatDoorProg
import Derived.Deep.Matrix
import Derived.Deep.DeepCutAuto
import Derived.Deep.RegionLaw
import Derived.Deep.RegionHeld3
import Derived.Lib.AppendZeros
import Derived.Test.YtmjoijfafachhaaGreatDoorZuAa
import Derived.Test.YtmjoijfafachhaaGreatDoorZuAb
import Derived.Test.YtmjoijfafachhaaGreatDoorZuAc
import Derived.Test.YtmjoijfafachhaaGreatDoorZuAd
import Derived.Test.YtmjoijfafachhaaGreatDoorZuAe
import Derived.Test.YtmjoijfafachhaaGreatDoorZuAf
import Derived.Test.YtmjoijfafachhaaGreatDoorZuAg
import Derived.Test.YtmjoijfafachhaaGreatDoorZuAh
import Derived.Test.YtmjoijfafachhaaGreatDoorZuAj
import Derived.Test.YtmjoijfafachhaaGreatDoorZuAk
import Derived.Test.YtmjoijfafachhaaGreatDoorZuAo
namespace Go.Proofs.YtmjoijfafachhaaGreatDoor
open Go Go.RowKit
/-- The mates of both of which k of the second are turned. -/
def uniP (A B : List Int) (k : Nat) : List Int := A ++ (List.range B.length).map fun i => if i < k then (A.length : Int) + nth B i else nth B i
theorem uniP_len (A B : List Int) (k : Nat) : (uniP A B k).length = A.length + B.length := by simp [uniP]
theorem uniP_zero (A B : List Int) : uniP A B 0 = A ++ B := by
  unfold uniP
  congr 1
  apply List.ext_getElem
  · simp
  · intro i h1 h2; simp [nth, h2]
theorem uniP_all (A B : List Int) : uniP A B B.length = uniM A B := by
  unfold uniP uniM
  congr 1
  apply List.ext_getElem
  · simp
  · intro i h1 h2
    have h : i < B.length := by simpa using h1
    simp [nth, h]
theorem uniP_at {A B : List Int} {i : Nat} (h : i < B.length) : nth (uniP A B i) (A.length + i) = nth B i := by
  unfold uniP
  rw [nth_append_right _ _ _ (by omega), Nat.add_sub_cancel_left]
  simp [nth, h]
theorem uniP_set {A B : List Int} {i : Nat} (_ : i < B.length) : (uniP A B i).set (A.length + i) ((A.length : Int) + nth B i) = uniP A B (i + 1) := by
  unfold uniP
  rw [List.set_append_right (h := by omega), Nat.add_sub_cancel_left]
  congr 1
  apply List.ext_getElem
  · simp
  · intro j h1 h2
    rw [List.getElem_set]
    simp only [List.getElem_map, List.getElem_range]
    by_cases e : i = j
    · subst e; rw [if_pos rfl, if_pos (by omega)]
    · rw [if_neg e]
      by_cases g : j < i
      · rw [if_pos g, if_pos (by omega)]
      · rw [if_neg g, if_neg (by omega)]
theorem slsAt_two {w : World} {b : Nat} {a1 a2 : Option Addr} {c1 c2 : Nat} {xs ys : List Int} (hr : Row w b 22 [.slice a1 xs.length c1, .slice a2 ys.length c2]) (h1 : IntsAt w a1 xs) (h2 : IntsAt w a2 ys) : SlsAt w b 0 [xs, ys] := fun i row hi => by
  match i, hi with
  | 0, hi => cases hi; exact ⟨a1, c1, by rw [Nat.zero_add, hr.cell]; rfl, h1⟩
  | 1, hi => cases hi; exact ⟨a2, c2, by rw [Nat.zero_add, hr.cell]; rfl, h2⟩
  | i + 2, hi => simp at hi
set_option maxRecDepth 100000 in
set_option maxHeartbeats 2000000 in
theorem beside_yes (Sa Ma Sb Mb : List Int) (La Lb K : Int) (aSa aMa aSb aMb : Option Addr) (cSa cMa cSb cMb : Nat) (w : World) (hn : Sa.length + Sb.length ≤ 64) (hK : K ≤ 64) (hMa : Ma.length ≤ 256) (hMb : Mb.length ≤ 256) (hrb : ∀ h, h < Mb.length → 0 ≤ nth Mb h ∧ nth Mb h < 256) (h1 : IntsAt w aSa Sa) (h2 : IntsAt w aMa Ma) (h3 : IntsAt w aSb Sb) (h4 : IntsAt w aMb Mb) :
    Calls Tryz.prog 21 #[.agg #[.slice aSa Sa.length cSa, .slice aMa Ma.length cMa, .int .i64 La], .agg #[.slice aSb Sb.length cSb, .slice aMb Mb.length cMb, .int .i64 Lb], .int .i64 K] w fun e w' => ∃ a b c d, e = .returned (.tuple #[.agg #[.slice a (Sa.length + Sb.length) c, .slice b (Ma.length + Mb.length) d, .int .i64 K], .int .i64 0]) ∧ Own w' w.heap.size 3 a c (ints (Sa ++ Sb)) ∧ Own w' w.heap.size 3 b d (ints (uniM Ma Mb)) ∧ (∀ p q, a = some p → b = some q → p.block ≠ q.block) ∧ Below w.heap.size w w' := by
  have h0 := (((HH.start w).alloc #[.slice aSa Sa.length cSa, .slice aMa Ma.length cMa, .int .i64 La] 24 rfl rfl).alloc #[.slice aSb Sb.length cSb, .slice aMb Mb.length cMb, .int .i64 Lb] 24 (b := w.heap.size + 1) (by simp) rfl).alloc #[.slice none 0 0, .slice none 0 0, .int .i64 0] 24 (b := w.heap.size + 2) (by simp) rfl
  have H0 := Lib.hid h0
  have c0 := h0.cell (k := 0) (i := 0) rfl rfl
  have c1 := h0.cell (k := 1) (i := 0) rfl rfl
  clear h0
  have HX1 : Hid (∀ W' blk, Below w.heap.size w W' → Row W' blk 22 [.slice aSa Sa.length cSa, .slice aSb Sb.length cSb] → Calls Tryz.prog 40 #[.slice (some ⟨blk, 0, none⟩) 2 2] W' fun e w' => ∃ a d, e = .returned (.slice a (Sa.length + Sb.length) d) ∧ Own w' W'.heap.size 3 a d (ints (Sa ++ Sb)) ∧ Below W'.heap.size W' w') := Lib.hid fun W' blk hb hr => by
    have h := concat_any [Sa, Sb] blk 0 2 W' (slsAt_two hr (h1.later hb) (h3.later hb)) (by simp) (by simp [lenSum]; omega)
    simpa [lenSum] using h
  have HX2 : Hid (∀ W' blk, Below w.heap.size w W' → Row W' blk 22 [.slice aMa Ma.length cMa, .slice aMb Mb.length cMb] → Calls Tryz.prog 40 #[.slice (some ⟨blk, 0, none⟩) 2 2] W' fun e w' => ∃ a d, e = .returned (.slice a (Ma.length + Mb.length) d) ∧ Own w' W'.heap.size 3 a d (ints (Ma ++ Mb)) ∧ Below W'.heap.size W' w') := Lib.hid fun W' blk hb hr => by
    have h := concat_any [Ma, Mb] blk 0 2 W' (slsAt_two hr (h2.later hb) (h4.later hb)) (by simp) (by simp [lenSum]; omega)
    simpa [lenSum] using h
  clear h1 h2 h3 h4
  have d1 : decide (64 < (Sa.length : Int) + (Sb.length : Int)) = false := decide_eq_false (by omega)
  have d2 : decide (64 < K) = false := decide_eq_false (by omega)
  go_enter Tryz.func21, Tryz.ntmps21
  go_wp2_with fail
  obtain ⟨v, hv⟩ : ∃ v, v = ((w.alloc (.cells #[.slice aSa Sa.length cSa, .slice aMa Ma.length cMa, .int .i64 La] 24)).alloc (.cells #[.slice aSb Sb.length cSb, .slice aMb Mb.length cMb, .int .i64 Lb] 24)).alloc (.cells #[.slice none 0 0, .slice none 0 0, .int .i64 0] 24) := ⟨_, rfl⟩
  rw [← hv]
  rw [← hv] at H0
  clear hv c0 c1
  have H1 : Hid (HH w v [(w.heap.size, rowO 24 [.slice aSa Sa.length cSa, .slice aMa Ma.length cMa, .int .i64 La]), (w.heap.size + 1, rowO 24 [.slice aSb Sb.length cSb, .slice aMb Mb.length cMb, .int .i64 Lb]), (w.heap.size + 2, rowO 24 [.slice none 0 0, .slice none 0 0, .int .i64 0])] []) := Lib.hid H0.out
  clear H0
  have HKS : Hid (∀ (W' : World) (x : Kn) (y : List SlO), HH w W' ((w.heap.size, rowO 24 [.slice aSa Sa.length cSa, .slice aMa Ma.length cMa, .int .i64 La]) :: (w.heap.size + 1, rowO 24 [.slice aSb Sb.length cSb, .slice aMb Mb.length cMb, .int .i64 Lb]) :: (w.heap.size + 2, rowO 24 [.slice none 0 0, .slice none 0 0, .int .i64 0]) :: x) y → W'.cell? ⟨w.heap.size, 0, none⟩ = some (.slice aSa Sa.length cSa) ∧ W'.cell? ⟨w.heap.size, 1, none⟩ = some (.slice aMa Ma.length cMa) ∧ W'.cell? ⟨w.heap.size + 1, 0, none⟩ = some (.slice aSb Sb.length cSb) ∧ W'.cell? ⟨w.heap.size + 1, 1, none⟩ = some (.slice aMb Mb.length cMb)) := Lib.hid fun W' x y g =>
    ⟨g.cell (k := 0) (i := 0) rfl rfl, g.cell (k := 0) (i := 1) rfl rfl, g.cell (k := 1) (i := 0) rfl rfl, g.cell (k := 1) (i := 1) rfl rfl⟩
  have q0 := HKS.out _ _ _ H1.out
  have G0 : Hid (HH w v.drew [(w.heap.size, rowO 24 [.slice aSa Sa.length cSa, .slice aMa Ma.length cMa, .int .i64 La]), (w.heap.size + 1, rowO 24 [.slice aSb Sb.length cSb, .slice aMb Mb.length cMb, .int .i64 Lb]), (w.heap.size + 2, rowO 24 [.slice none 0 0, .slice none 0 0, .int .i64 0])] []) := Lib.hid (H1.out.drew)
  have Q0 := Lib.hid (HKS.out _ _ _ G0.out)
  have GT : Hid (HH w (v.alloc (.cells #[.slice aSa Sa.length cSa, .slice aSb Sb.length cSb] 22)).drew [(w.heap.size, rowO 24 [.slice aSa Sa.length cSa, .slice aMa Ma.length cMa, .int .i64 La]), (w.heap.size + 1, rowO 24 [.slice aSb Sb.length cSb, .slice aMb Mb.length cMb, .int .i64 Lb]), (w.heap.size + 2, rowO 24 [.slice none 0 0, .slice none 0 0, .int .i64 0])] []) := Lib.hid ((H1.out.call ((Below.refl _ _).alloc (Nat.le_refl _) (.cells #[.slice aSa Sa.length cSa, .slice aSb Sb.length cSb] 22))).drew)
  have QT := Lib.hid (HKS.out _ _ _ GT.out)
  have GU : Hid (HH w (v.alloc (.cells #[.slice aMa Ma.length cMa, .slice aMb Mb.length cMb] 22)).drew [(w.heap.size, rowO 24 [.slice aSa Sa.length cSa, .slice aMa Ma.length cMa, .int .i64 La]), (w.heap.size + 1, rowO 24 [.slice aSb Sb.length cSb, .slice aMb Mb.length cMb, .int .i64 Lb]), (w.heap.size + 2, rowO 24 [.slice none 0 0, .slice none 0 0, .int .i64 0])] []) := Lib.hid ((H1.out.call ((Below.refl _ _).alloc (Nat.le_refl _) (.cells #[.slice aMa Ma.length cMa, .slice aMb Mb.length cMb] 22))).drew)
  have QU := Lib.hid (HKS.out _ _ _ GU.out)
  have GZ : Hid (HH w (v.alloc (.cells #[.slice none 0 0, .slice none 0 0, .int .i64 0] 24)).drew [(w.heap.size, rowO 24 [.slice aSa Sa.length cSa, .slice aMa Ma.length cMa, .int .i64 La]), (w.heap.size + 1, rowO 24 [.slice aSb Sb.length cSb, .slice aMb Mb.length cMb, .int .i64 Lb]), (w.heap.size + 2, rowO 24 [.slice none 0 0, .slice none 0 0, .int .i64 0]), (v.heap.size, rowO 24 [.slice none 0 0, .slice none 0 0, .int .i64 0])] []) := Lib.hid ((H1.out.alloc #[.slice none 0 0, .slice none 0 0, .int .i64 0] 24 (b := v.heap.size) rfl rfl).drew)
  have QZ := Lib.hid (HKS.out _ _ _ GZ.out)
  have GTU : Hid (HH w ((v.alloc (.cells #[.slice aSa Sa.length cSa, .slice aSb Sb.length cSb] 22)).alloc (.cells #[.slice aMa Ma.length cMa, .slice aMb Mb.length cMb] 22)).drew [(w.heap.size, rowO 24 [.slice aSa Sa.length cSa, .slice aMa Ma.length cMa, .int .i64 La]), (w.heap.size + 1, rowO 24 [.slice aSb Sb.length cSb, .slice aMb Mb.length cMb, .int .i64 Lb]), (w.heap.size + 2, rowO 24 [.slice none 0 0, .slice none 0 0, .int .i64 0])] []) := Lib.hid (((H1.out.call ((Below.refl _ _).alloc (Nat.le_refl _) (.cells #[.slice aSa Sa.length cSa, .slice aSb Sb.length cSb] 22))).call ((Below.refl _ _).alloc (Nat.le_refl _) (.cells #[.slice aMa Ma.length cMa, .slice aMb Mb.length cMb] 22))).drew)
  have QTU := Lib.hid (HKS.out _ _ _ GTU.out)
  have GTZ : Hid (HH w ((v.alloc (.cells #[.slice aSa Sa.length cSa, .slice aSb Sb.length cSb] 22)).alloc (.cells #[.slice none 0 0, .slice none 0 0, .int .i64 0] 24)).drew [(w.heap.size, rowO 24 [.slice aSa Sa.length cSa, .slice aMa Ma.length cMa, .int .i64 La]), (w.heap.size + 1, rowO 24 [.slice aSb Sb.length cSb, .slice aMb Mb.length cMb, .int .i64 Lb]), (w.heap.size + 2, rowO 24 [.slice none 0 0, .slice none 0 0, .int .i64 0]), (v.heap.size + 1, rowO 24 [.slice none 0 0, .slice none 0 0, .int .i64 0])] []) := Lib.hid (((H1.out.call ((Below.refl _ _).alloc (Nat.le_refl _) (.cells #[.slice aSa Sa.length cSa, .slice aSb Sb.length cSb] 22))).alloc #[.slice none 0 0, .slice none 0 0, .int .i64 0] 24 (b := v.heap.size + 1) (by simp) rfl).drew)
  have QTZ := Lib.hid (HKS.out _ _ _ GTZ.out)
  have GUT : Hid (HH w ((v.alloc (.cells #[.slice aMa Ma.length cMa, .slice aMb Mb.length cMb] 22)).alloc (.cells #[.slice aSa Sa.length cSa, .slice aSb Sb.length cSb] 22)).drew [(w.heap.size, rowO 24 [.slice aSa Sa.length cSa, .slice aMa Ma.length cMa, .int .i64 La]), (w.heap.size + 1, rowO 24 [.slice aSb Sb.length cSb, .slice aMb Mb.length cMb, .int .i64 Lb]), (w.heap.size + 2, rowO 24 [.slice none 0 0, .slice none 0 0, .int .i64 0])] []) := Lib.hid (((H1.out.call ((Below.refl _ _).alloc (Nat.le_refl _) (.cells #[.slice aMa Ma.length cMa, .slice aMb Mb.length cMb] 22))).call ((Below.refl _ _).alloc (Nat.le_refl _) (.cells #[.slice aSa Sa.length cSa, .slice aSb Sb.length cSb] 22))).drew)
  have QUT := Lib.hid (HKS.out _ _ _ GUT.out)
  have GUZ : Hid (HH w ((v.alloc (.cells #[.slice aMa Ma.length cMa, .slice aMb Mb.length cMb] 22)).alloc (.cells #[.slice none 0 0, .slice none 0 0, .int .i64 0] 24)).drew [(w.heap.size, rowO 24 [.slice aSa Sa.length cSa, .slice aMa Ma.length cMa, .int .i64 La]), (w.heap.size + 1, rowO 24 [.slice aSb Sb.length cSb, .slice aMb Mb.length cMb, .int .i64 Lb]), (w.heap.size + 2, rowO 24 [.slice none 0 0, .slice none 0 0, .int .i64 0]), (v.heap.size + 1, rowO 24 [.slice none 0 0, .slice none 0 0, .int .i64 0])] []) := Lib.hid (((H1.out.call ((Below.refl _ _).alloc (Nat.le_refl _) (.cells #[.slice aMa Ma.length cMa, .slice aMb Mb.length cMb] 22))).alloc #[.slice none 0 0, .slice none 0 0, .int .i64 0] 24 (b := v.heap.size + 1) (by simp) rfl).drew)
  have QUZ := Lib.hid (HKS.out _ _ _ GUZ.out)
  have GZT : Hid (HH w ((v.alloc (.cells #[.slice none 0 0, .slice none 0 0, .int .i64 0] 24)).alloc (.cells #[.slice aSa Sa.length cSa, .slice aSb Sb.length cSb] 22)).drew [(w.heap.size, rowO 24 [.slice aSa Sa.length cSa, .slice aMa Ma.length cMa, .int .i64 La]), (w.heap.size + 1, rowO 24 [.slice aSb Sb.length cSb, .slice aMb Mb.length cMb, .int .i64 Lb]), (w.heap.size + 2, rowO 24 [.slice none 0 0, .slice none 0 0, .int .i64 0]), (v.heap.size, rowO 24 [.slice none 0 0, .slice none 0 0, .int .i64 0])] []) := Lib.hid (((H1.out.alloc #[.slice none 0 0, .slice none 0 0, .int .i64 0] 24 (b := v.heap.size) rfl rfl).call ((Below.refl _ _).alloc (Nat.le_refl _) (.cells #[.slice aSa Sa.length cSa, .slice aSb Sb.length cSb] 22))).drew)
  have QZT := Lib.hid (HKS.out _ _ _ GZT.out)
  have GZU : Hid (HH w ((v.alloc (.cells #[.slice none 0 0, .slice none 0 0, .int .i64 0] 24)).alloc (.cells #[.slice aMa Ma.length cMa, .slice aMb Mb.length cMb] 22)).drew [(w.heap.size, rowO 24 [.slice aSa Sa.length cSa, .slice aMa Ma.length cMa, .int .i64 La]), (w.heap.size + 1, rowO 24 [.slice aSb Sb.length cSb, .slice aMb Mb.length cMb, .int .i64 Lb]), (w.heap.size + 2, rowO 24 [.slice none 0 0, .slice none 0 0, .int .i64 0]), (v.heap.size, rowO 24 [.slice none 0 0, .slice none 0 0, .int .i64 0])] []) := Lib.hid (((H1.out.alloc #[.slice none 0 0, .slice none 0 0, .int .i64 0] 24 (b := v.heap.size) rfl rfl).call ((Below.refl _ _).alloc (Nat.le_refl _) (.cells #[.slice aMa Ma.length cMa, .slice aMb Mb.length cMb] 22))).drew)
  have QZU := Lib.hid (HKS.out _ _ _ GZU.out)
  have GTUZ : Hid (HH w (((v.alloc (.cells #[.slice aSa Sa.length cSa, .slice aSb Sb.length cSb] 22)).alloc (.cells #[.slice aMa Ma.length cMa, .slice aMb Mb.length cMb] 22)).alloc (.cells #[.slice none 0 0, .slice none 0 0, .int .i64 0] 24)).drew [(w.heap.size, rowO 24 [.slice aSa Sa.length cSa, .slice aMa Ma.length cMa, .int .i64 La]), (w.heap.size + 1, rowO 24 [.slice aSb Sb.length cSb, .slice aMb Mb.length cMb, .int .i64 Lb]), (w.heap.size + 2, rowO 24 [.slice none 0 0, .slice none 0 0, .int .i64 0]), (v.heap.size + 1 + 1, rowO 24 [.slice none 0 0, .slice none 0 0, .int .i64 0])] []) := Lib.hid ((((H1.out.call ((Below.refl _ _).alloc (Nat.le_refl _) (.cells #[.slice aSa Sa.length cSa, .slice aSb Sb.length cSb] 22))).call ((Below.refl _ _).alloc (Nat.le_refl _) (.cells #[.slice aMa Ma.length cMa, .slice aMb Mb.length cMb] 22))).alloc #[.slice none 0 0, .slice none 0 0, .int .i64 0] 24 (b := v.heap.size + 1 + 1) (by simp) rfl).drew)
  have QTUZ := Lib.hid (HKS.out _ _ _ GTUZ.out)
  have GTZU : Hid (HH w (((v.alloc (.cells #[.slice aSa Sa.length cSa, .slice aSb Sb.length cSb] 22)).alloc (.cells #[.slice none 0 0, .slice none 0 0, .int .i64 0] 24)).alloc (.cells #[.slice aMa Ma.length cMa, .slice aMb Mb.length cMb] 22)).drew [(w.heap.size, rowO 24 [.slice aSa Sa.length cSa, .slice aMa Ma.length cMa, .int .i64 La]), (w.heap.size + 1, rowO 24 [.slice aSb Sb.length cSb, .slice aMb Mb.length cMb, .int .i64 Lb]), (w.heap.size + 2, rowO 24 [.slice none 0 0, .slice none 0 0, .int .i64 0]), (v.heap.size + 1, rowO 24 [.slice none 0 0, .slice none 0 0, .int .i64 0])] []) := Lib.hid ((((H1.out.call ((Below.refl _ _).alloc (Nat.le_refl _) (.cells #[.slice aSa Sa.length cSa, .slice aSb Sb.length cSb] 22))).alloc #[.slice none 0 0, .slice none 0 0, .int .i64 0] 24 (b := v.heap.size + 1) (by simp) rfl).call ((Below.refl _ _).alloc (Nat.le_refl _) (.cells #[.slice aMa Ma.length cMa, .slice aMb Mb.length cMb] 22))).drew)
  have QTZU := Lib.hid (HKS.out _ _ _ GTZU.out)
  have GUTZ : Hid (HH w (((v.alloc (.cells #[.slice aMa Ma.length cMa, .slice aMb Mb.length cMb] 22)).alloc (.cells #[.slice aSa Sa.length cSa, .slice aSb Sb.length cSb] 22)).alloc (.cells #[.slice none 0 0, .slice none 0 0, .int .i64 0] 24)).drew [(w.heap.size, rowO 24 [.slice aSa Sa.length cSa, .slice aMa Ma.length cMa, .int .i64 La]), (w.heap.size + 1, rowO 24 [.slice aSb Sb.length cSb, .slice aMb Mb.length cMb, .int .i64 Lb]), (w.heap.size + 2, rowO 24 [.slice none 0 0, .slice none 0 0, .int .i64 0]), (v.heap.size + 1 + 1, rowO 24 [.slice none 0 0, .slice none 0 0, .int .i64 0])] []) := Lib.hid ((((H1.out.call ((Below.refl _ _).alloc (Nat.le_refl _) (.cells #[.slice aMa Ma.length cMa, .slice aMb Mb.length cMb] 22))).call ((Below.refl _ _).alloc (Nat.le_refl _) (.cells #[.slice aSa Sa.length cSa, .slice aSb Sb.length cSb] 22))).alloc #[.slice none 0 0, .slice none 0 0, .int .i64 0] 24 (b := v.heap.size + 1 + 1) (by simp) rfl).drew)
  have QUTZ := Lib.hid (HKS.out _ _ _ GUTZ.out)
  have GUZT : Hid (HH w (((v.alloc (.cells #[.slice aMa Ma.length cMa, .slice aMb Mb.length cMb] 22)).alloc (.cells #[.slice none 0 0, .slice none 0 0, .int .i64 0] 24)).alloc (.cells #[.slice aSa Sa.length cSa, .slice aSb Sb.length cSb] 22)).drew [(w.heap.size, rowO 24 [.slice aSa Sa.length cSa, .slice aMa Ma.length cMa, .int .i64 La]), (w.heap.size + 1, rowO 24 [.slice aSb Sb.length cSb, .slice aMb Mb.length cMb, .int .i64 Lb]), (w.heap.size + 2, rowO 24 [.slice none 0 0, .slice none 0 0, .int .i64 0]), (v.heap.size + 1, rowO 24 [.slice none 0 0, .slice none 0 0, .int .i64 0])] []) := Lib.hid ((((H1.out.call ((Below.refl _ _).alloc (Nat.le_refl _) (.cells #[.slice aMa Ma.length cMa, .slice aMb Mb.length cMb] 22))).alloc #[.slice none 0 0, .slice none 0 0, .int .i64 0] 24 (b := v.heap.size + 1) (by simp) rfl).call ((Below.refl _ _).alloc (Nat.le_refl _) (.cells #[.slice aSa Sa.length cSa, .slice aSb Sb.length cSb] 22))).drew)
  have QUZT := Lib.hid (HKS.out _ _ _ GUZT.out)
  have GZTU : Hid (HH w (((v.alloc (.cells #[.slice none 0 0, .slice none 0 0, .int .i64 0] 24)).alloc (.cells #[.slice aSa Sa.length cSa, .slice aSb Sb.length cSb] 22)).alloc (.cells #[.slice aMa Ma.length cMa, .slice aMb Mb.length cMb] 22)).drew [(w.heap.size, rowO 24 [.slice aSa Sa.length cSa, .slice aMa Ma.length cMa, .int .i64 La]), (w.heap.size + 1, rowO 24 [.slice aSb Sb.length cSb, .slice aMb Mb.length cMb, .int .i64 Lb]), (w.heap.size + 2, rowO 24 [.slice none 0 0, .slice none 0 0, .int .i64 0]), (v.heap.size, rowO 24 [.slice none 0 0, .slice none 0 0, .int .i64 0])] []) := Lib.hid ((((H1.out.alloc #[.slice none 0 0, .slice none 0 0, .int .i64 0] 24 (b := v.heap.size) rfl rfl).call ((Below.refl _ _).alloc (Nat.le_refl _) (.cells #[.slice aSa Sa.length cSa, .slice aSb Sb.length cSb] 22))).call ((Below.refl _ _).alloc (Nat.le_refl _) (.cells #[.slice aMa Ma.length cMa, .slice aMb Mb.length cMb] 22))).drew)
  have QZTU := Lib.hid (HKS.out _ _ _ GZTU.out)
  have GZUT : Hid (HH w (((v.alloc (.cells #[.slice none 0 0, .slice none 0 0, .int .i64 0] 24)).alloc (.cells #[.slice aMa Ma.length cMa, .slice aMb Mb.length cMb] 22)).alloc (.cells #[.slice aSa Sa.length cSa, .slice aSb Sb.length cSb] 22)).drew [(w.heap.size, rowO 24 [.slice aSa Sa.length cSa, .slice aMa Ma.length cMa, .int .i64 La]), (w.heap.size + 1, rowO 24 [.slice aSb Sb.length cSb, .slice aMb Mb.length cMb, .int .i64 Lb]), (w.heap.size + 2, rowO 24 [.slice none 0 0, .slice none 0 0, .int .i64 0]), (v.heap.size, rowO 24 [.slice none 0 0, .slice none 0 0, .int .i64 0])] []) := Lib.hid ((((H1.out.alloc #[.slice none 0 0, .slice none 0 0, .int .i64 0] 24 (b := v.heap.size) rfl rfl).call ((Below.refl _ _).alloc (Nat.le_refl _) (.cells #[.slice aMa Ma.length cMa, .slice aMb Mb.length cMb] 22))).call ((Below.refl _ _).alloc (Nat.le_refl _) (.cells #[.slice aSa Sa.length cSa, .slice aSb Sb.length cSb] 22))).drew)
  have QZUT := Lib.hid (HKS.out _ _ _ GZUT.out)
  have AT := Lib.hid (HX1.out (v.alloc (.cells #[.slice aSa Sa.length cSa, .slice aSb Sb.length cSb] 22)).drew (v.heap.size) GT.out.below (by
    have h := Row.new v #[.slice aSa Sa.length cSa, .slice aSb Sb.length cSb] 22
    exact h))
  have ATU := Lib.hid (HX1.out ((v.alloc (.cells #[.slice aSa Sa.length cSa, .slice aSb Sb.length cSb] 22)).alloc (.cells #[.slice aMa Ma.length cMa, .slice aMb Mb.length cMb] 22)).drew (v.heap.size) GTU.out.below (by
    have h := Row.new v #[.slice aSa Sa.length cSa, .slice aSb Sb.length cSb] 22
    exact (h.alloc _)))
  have ATZ := Lib.hid (HX1.out ((v.alloc (.cells #[.slice aSa Sa.length cSa, .slice aSb Sb.length cSb] 22)).alloc (.cells #[.slice none 0 0, .slice none 0 0, .int .i64 0] 24)).drew (v.heap.size) GTZ.out.below (by
    have h := Row.new v #[.slice aSa Sa.length cSa, .slice aSb Sb.length cSb] 22
    exact (h.alloc _)))
  have AUT := Lib.hid (HX1.out ((v.alloc (.cells #[.slice aMa Ma.length cMa, .slice aMb Mb.length cMb] 22)).alloc (.cells #[.slice aSa Sa.length cSa, .slice aSb Sb.length cSb] 22)).drew (v.heap.size + 1) GUT.out.below (by
    have h := Row.new (v.alloc (.cells #[.slice aMa Ma.length cMa, .slice aMb Mb.length cMb] 22)) #[.slice aSa Sa.length cSa, .slice aSb Sb.length cSb] 22
    rw [show (v.alloc (.cells #[.slice aMa Ma.length cMa, .slice aMb Mb.length cMb] 22)).heap.size = v.heap.size + 1 by simp] at h
    exact h))
  have AZT := Lib.hid (HX1.out ((v.alloc (.cells #[.slice none 0 0, .slice none 0 0, .int .i64 0] 24)).alloc (.cells #[.slice aSa Sa.length cSa, .slice aSb Sb.length cSb] 22)).drew (v.heap.size + 1) GZT.out.below (by
    have h := Row.new (v.alloc (.cells #[.slice none 0 0, .slice none 0 0, .int .i64 0] 24)) #[.slice aSa Sa.length cSa, .slice aSb Sb.length cSb] 22
    rw [show (v.alloc (.cells #[.slice none 0 0, .slice none 0 0, .int .i64 0] 24)).heap.size = v.heap.size + 1 by simp] at h
    exact h))
  have ATUZ := Lib.hid (HX1.out (((v.alloc (.cells #[.slice aSa Sa.length cSa, .slice aSb Sb.length cSb] 22)).alloc (.cells #[.slice aMa Ma.length cMa, .slice aMb Mb.length cMb] 22)).alloc (.cells #[.slice none 0 0, .slice none 0 0, .int .i64 0] 24)).drew (v.heap.size) GTUZ.out.below (by
    have h := Row.new v #[.slice aSa Sa.length cSa, .slice aSb Sb.length cSb] 22
    exact ((h.alloc _).alloc _)))
  have ATZU := Lib.hid (HX1.out (((v.alloc (.cells #[.slice aSa Sa.length cSa, .slice aSb Sb.length cSb] 22)).alloc (.cells #[.slice none 0 0, .slice none 0 0, .int .i64 0] 24)).alloc (.cells #[.slice aMa Ma.length cMa, .slice aMb Mb.length cMb] 22)).drew (v.heap.size) GTZU.out.below (by
    have h := Row.new v #[.slice aSa Sa.length cSa, .slice aSb Sb.length cSb] 22
    exact ((h.alloc _).alloc _)))
  have AUTZ := Lib.hid (HX1.out (((v.alloc (.cells #[.slice aMa Ma.length cMa, .slice aMb Mb.length cMb] 22)).alloc (.cells #[.slice aSa Sa.length cSa, .slice aSb Sb.length cSb] 22)).alloc (.cells #[.slice none 0 0, .slice none 0 0, .int .i64 0] 24)).drew (v.heap.size + 1) GUTZ.out.below (by
    have h := Row.new (v.alloc (.cells #[.slice aMa Ma.length cMa, .slice aMb Mb.length cMb] 22)) #[.slice aSa Sa.length cSa, .slice aSb Sb.length cSb] 22
    rw [show (v.alloc (.cells #[.slice aMa Ma.length cMa, .slice aMb Mb.length cMb] 22)).heap.size = v.heap.size + 1 by simp] at h
    exact (h.alloc _)))
  have AUZT := Lib.hid (HX1.out (((v.alloc (.cells #[.slice aMa Ma.length cMa, .slice aMb Mb.length cMb] 22)).alloc (.cells #[.slice none 0 0, .slice none 0 0, .int .i64 0] 24)).alloc (.cells #[.slice aSa Sa.length cSa, .slice aSb Sb.length cSb] 22)).drew (v.heap.size + 1 + 1) GUZT.out.below (by
    have h := Row.new ((v.alloc (.cells #[.slice aMa Ma.length cMa, .slice aMb Mb.length cMb] 22)).alloc (.cells #[.slice none 0 0, .slice none 0 0, .int .i64 0] 24)) #[.slice aSa Sa.length cSa, .slice aSb Sb.length cSb] 22
    rw [show ((v.alloc (.cells #[.slice aMa Ma.length cMa, .slice aMb Mb.length cMb] 22)).alloc (.cells #[.slice none 0 0, .slice none 0 0, .int .i64 0] 24)).heap.size = v.heap.size + 1 + 1 by simp] at h
    exact h))
  have AZTU := Lib.hid (HX1.out (((v.alloc (.cells #[.slice none 0 0, .slice none 0 0, .int .i64 0] 24)).alloc (.cells #[.slice aSa Sa.length cSa, .slice aSb Sb.length cSb] 22)).alloc (.cells #[.slice aMa Ma.length cMa, .slice aMb Mb.length cMb] 22)).drew (v.heap.size + 1) GZTU.out.below (by
    have h := Row.new (v.alloc (.cells #[.slice none 0 0, .slice none 0 0, .int .i64 0] 24)) #[.slice aSa Sa.length cSa, .slice aSb Sb.length cSb] 22
    rw [show (v.alloc (.cells #[.slice none 0 0, .slice none 0 0, .int .i64 0] 24)).heap.size = v.heap.size + 1 by simp] at h
    exact (h.alloc _)))
  have AZUT := Lib.hid (HX1.out (((v.alloc (.cells #[.slice none 0 0, .slice none 0 0, .int .i64 0] 24)).alloc (.cells #[.slice aMa Ma.length cMa, .slice aMb Mb.length cMb] 22)).alloc (.cells #[.slice aSa Sa.length cSa, .slice aSb Sb.length cSb] 22)).drew (v.heap.size + 1 + 1) GZUT.out.below (by
    have h := Row.new ((v.alloc (.cells #[.slice none 0 0, .slice none 0 0, .int .i64 0] 24)).alloc (.cells #[.slice aMa Ma.length cMa, .slice aMb Mb.length cMb] 22)) #[.slice aSa Sa.length cSa, .slice aSb Sb.length cSb] 22
    rw [show ((v.alloc (.cells #[.slice none 0 0, .slice none 0 0, .int .i64 0] 24)).alloc (.cells #[.slice aMa Ma.length cMa, .slice aMb Mb.length cMb] 22)).heap.size = v.heap.size + 1 + 1 by simp] at h
    exact h))
  go_cut [8] (fun s8 wx => ∃ (a b : Option Addr) (c d r : Nat), s8 = .pointer (some ⟨r, 0, none⟩) ∧ HH w wx [(w.heap.size, rowO 24 [.slice aSa Sa.length cSa, .slice aMa Ma.length cMa, .int .i64 La]), (w.heap.size + 1, rowO 24 [.slice aSb Sb.length cSb, .slice aMb Mb.length cMb, .int .i64 Lb]), (w.heap.size + 2, rowO 24 [.slice none 0 0, .slice none 0 0, .int .i64 0]), (r, rowO 24 [.slice a (Sa.length + Sb.length) c, .slice b (Ma.length + Mb.length) d, .int .i64 K])] [⟨a, c, 3, ints (Sa ++ Sb)⟩, ⟨b, d, 3, ints (Ma ++ Mb)⟩])
  case first =>
    go_region_held3 (fun W' => W'.cell? ⟨w.heap.size, 0, none⟩ = some (.slice aSa Sa.length cSa) ∧ W'.cell? ⟨w.heap.size, 1, none⟩ = some (.slice aMa Ma.length cMa) ∧ W'.cell? ⟨w.heap.size + 1, 0, none⟩ = some (.slice aSb Sb.length cSb) ∧ W'.cell? ⟨w.heap.size + 1, 1, none⟩ = some (.slice aMb Mb.length cMb))
      (first
        | with_reducible exact Q0.out
        | with_reducible exact QT.out
        | with_reducible exact QU.out
        | with_reducible exact QZ.out
        | with_reducible exact QTU.out
        | with_reducible exact QTZ.out
        | with_reducible exact QUT.out
        | with_reducible exact QUZ.out
        | with_reducible exact QZT.out
        | with_reducible exact QZU.out
        | with_reducible exact QTUZ.out
        | with_reducible exact QTZU.out
        | with_reducible exact QUTZ.out
        | with_reducible exact QUZT.out
        | with_reducible exact QZTU.out
        | with_reducible exact QZUT.out
        | with_reducible exact R0.out
        | with_reducible exact RU.out
        | with_reducible exact RZ.out
        | with_reducible exact RUZ.out
        | with_reducible exact RZU.out
        | with_reducible exact Y0.out
        | with_reducible exact Y9.out
        | with_reducible exact YZ.out _)
      (first
        | ((with_reducible refine AT.out.mono ?_); rintro e w5 ⟨a5, c5, rfl, ho5, hb5⟩; have F0 := Lib.hid (GT.out.addSl hb5 ho5); have R0 := Lib.hid (HKS.out _ _ _ F0.out); have FU := Lib.hid (F0.out.call ((Below.refl _ _).alloc (Nat.le_refl _) (.cells #[.slice aMa Ma.length cMa, .slice aMb Mb.length cMb] 22))); have RU := Lib.hid (HKS.out _ _ _ FU.out); have CU := Lib.hid (HX2.out (w5.alloc (.cells #[.slice aMa Ma.length cMa, .slice aMb Mb.length cMb] 22)) (w5.heap.size) FU.out.below (by have h := Row.new w5 #[.slice aMa Ma.length cMa, .slice aMb Mb.length cMb] 22; exact h)); have FZ := Lib.hid (F0.out.alloc #[.slice none 0 0, .slice none 0 0, .int .i64 0] 24 (b := w5.heap.size) rfl rfl); have RZ := Lib.hid (HKS.out _ _ _ FZ.out); have FUZ := Lib.hid ((F0.out.call ((Below.refl _ _).alloc (Nat.le_refl _) (.cells #[.slice aMa Ma.length cMa, .slice aMb Mb.length cMb] 22))).alloc #[.slice none 0 0, .slice none 0 0, .int .i64 0] 24 (b := w5.heap.size + 1) (by simp) rfl); have RUZ := Lib.hid (HKS.out _ _ _ FUZ.out); have CUZ := Lib.hid (HX2.out ((w5.alloc (.cells #[.slice aMa Ma.length cMa, .slice aMb Mb.length cMb] 22)).alloc (.cells #[.slice none 0 0, .slice none 0 0, .int .i64 0] 24)) (w5.heap.size) FUZ.out.below (by have h := Row.new w5 #[.slice aMa Ma.length cMa, .slice aMb Mb.length cMb] 22; exact (h.alloc _))); have FZU := Lib.hid ((F0.out.alloc #[.slice none 0 0, .slice none 0 0, .int .i64 0] 24 (b := w5.heap.size) rfl rfl).call ((Below.refl _ _).alloc (Nat.le_refl _) (.cells #[.slice aMa Ma.length cMa, .slice aMb Mb.length cMb] 22))); have RZU := Lib.hid (HKS.out _ _ _ FZU.out); have CZU := Lib.hid (HX2.out ((w5.alloc (.cells #[.slice none 0 0, .slice none 0 0, .int .i64 0] 24)).alloc (.cells #[.slice aMa Ma.length cMa, .slice aMb Mb.length cMb] 22)) (w5.heap.size + 1) FZU.out.below (by have h := Row.new (w5.alloc (.cells #[.slice none 0 0, .slice none 0 0, .int .i64 0] 24)) #[.slice aMa Ma.length cMa, .slice aMb Mb.length cMb] 22; rw [show (w5.alloc (.cells #[.slice none 0 0, .slice none 0 0, .int .i64 0] 24)).heap.size = w5.heap.size + 1 by simp] at h; exact h)); clear hb5 ho5)
        | ((with_reducible refine ATU.out.mono ?_); rintro e w5 ⟨a5, c5, rfl, ho5, hb5⟩; have F0 := Lib.hid (GTU.out.addSl hb5 ho5); have R0 := Lib.hid (HKS.out _ _ _ F0.out); have C0 := Lib.hid (HX2.out w5 (v.heap.size + 1) F0.out.below (by have h2 : Row ((v.alloc (.cells #[.slice aSa Sa.length cSa, .slice aSb Sb.length cSb] 22)).alloc (.cells #[.slice aMa Ma.length cMa, .slice aMb Mb.length cMb] 22)).drew (v.heap.size + 1) 22 _ := (by have h := Row.new (v.alloc (.cells #[.slice aSa Sa.length cSa, .slice aSb Sb.length cSb] 22)) #[.slice aMa Ma.length cMa, .slice aMb Mb.length cMb] 22; rw [show (v.alloc (.cells #[.slice aSa Sa.length cSa, .slice aSb Sb.length cSb] 22)).heap.size = v.heap.size + 1 by simp] at h; exact h); have h3 := h2.later hb5 (by simp <;> omega); exact h3)); have FZ := Lib.hid (F0.out.alloc #[.slice none 0 0, .slice none 0 0, .int .i64 0] 24 (b := w5.heap.size) rfl rfl); have RZ := Lib.hid (HKS.out _ _ _ FZ.out); have CZ := Lib.hid (HX2.out (w5.alloc (.cells #[.slice none 0 0, .slice none 0 0, .int .i64 0] 24)) (v.heap.size + 1) FZ.out.below (by have h2 : Row ((v.alloc (.cells #[.slice aSa Sa.length cSa, .slice aSb Sb.length cSb] 22)).alloc (.cells #[.slice aMa Ma.length cMa, .slice aMb Mb.length cMb] 22)).drew (v.heap.size + 1) 22 _ := (by have h := Row.new (v.alloc (.cells #[.slice aSa Sa.length cSa, .slice aSb Sb.length cSb] 22)) #[.slice aMa Ma.length cMa, .slice aMb Mb.length cMb] 22; rw [show (v.alloc (.cells #[.slice aSa Sa.length cSa, .slice aSb Sb.length cSb] 22)).heap.size = v.heap.size + 1 by simp] at h; exact h); have h3 := h2.later hb5 (by simp <;> omega); exact h3.alloc _)); clear hb5 ho5)
        | ((with_reducible refine ATZ.out.mono ?_); rintro e w5 ⟨a5, c5, rfl, ho5, hb5⟩; have F0 := Lib.hid (GTZ.out.addSl hb5 ho5); have R0 := Lib.hid (HKS.out _ _ _ F0.out); have FU := Lib.hid (F0.out.call ((Below.refl _ _).alloc (Nat.le_refl _) (.cells #[.slice aMa Ma.length cMa, .slice aMb Mb.length cMb] 22))); have RU := Lib.hid (HKS.out _ _ _ FU.out); have CU := Lib.hid (HX2.out (w5.alloc (.cells #[.slice aMa Ma.length cMa, .slice aMb Mb.length cMb] 22)) (w5.heap.size) FU.out.below (by have h := Row.new w5 #[.slice aMa Ma.length cMa, .slice aMb Mb.length cMb] 22; exact h)); clear hb5 ho5)
        | ((with_reducible refine AUT.out.mono ?_); rintro e w5 ⟨a5, c5, rfl, ho5, hb5⟩; have F0 := Lib.hid (GUT.out.addSl hb5 ho5); have R0 := Lib.hid (HKS.out _ _ _ F0.out); have C0 := Lib.hid (HX2.out w5 (v.heap.size) F0.out.below (by have h2 : Row ((v.alloc (.cells #[.slice aMa Ma.length cMa, .slice aMb Mb.length cMb] 22)).alloc (.cells #[.slice aSa Sa.length cSa, .slice aSb Sb.length cSb] 22)).drew (v.heap.size) 22 _ := (by have h := Row.new v #[.slice aMa Ma.length cMa, .slice aMb Mb.length cMb] 22; exact (h.alloc _)); have h3 := h2.later hb5 (by simp <;> omega); exact h3)); have FZ := Lib.hid (F0.out.alloc #[.slice none 0 0, .slice none 0 0, .int .i64 0] 24 (b := w5.heap.size) rfl rfl); have RZ := Lib.hid (HKS.out _ _ _ FZ.out); have CZ := Lib.hid (HX2.out (w5.alloc (.cells #[.slice none 0 0, .slice none 0 0, .int .i64 0] 24)) (v.heap.size) FZ.out.below (by have h2 : Row ((v.alloc (.cells #[.slice aMa Ma.length cMa, .slice aMb Mb.length cMb] 22)).alloc (.cells #[.slice aSa Sa.length cSa, .slice aSb Sb.length cSb] 22)).drew (v.heap.size) 22 _ := (by have h := Row.new v #[.slice aMa Ma.length cMa, .slice aMb Mb.length cMb] 22; exact (h.alloc _)); have h3 := h2.later hb5 (by simp <;> omega); exact h3.alloc _)); clear hb5 ho5)
        | ((with_reducible refine AZT.out.mono ?_); rintro e w5 ⟨a5, c5, rfl, ho5, hb5⟩; have F0 := Lib.hid (GZT.out.addSl hb5 ho5); have R0 := Lib.hid (HKS.out _ _ _ F0.out); have FU := Lib.hid (F0.out.call ((Below.refl _ _).alloc (Nat.le_refl _) (.cells #[.slice aMa Ma.length cMa, .slice aMb Mb.length cMb] 22))); have RU := Lib.hid (HKS.out _ _ _ FU.out); have CU := Lib.hid (HX2.out (w5.alloc (.cells #[.slice aMa Ma.length cMa, .slice aMb Mb.length cMb] 22)) (w5.heap.size) FU.out.below (by have h := Row.new w5 #[.slice aMa Ma.length cMa, .slice aMb Mb.length cMb] 22; exact h)); clear hb5 ho5)
        | ((with_reducible refine ATUZ.out.mono ?_); rintro e w5 ⟨a5, c5, rfl, ho5, hb5⟩; have F0 := Lib.hid (GTUZ.out.addSl hb5 ho5); have R0 := Lib.hid (HKS.out _ _ _ F0.out); have C0 := Lib.hid (HX2.out w5 (v.heap.size + 1) F0.out.below (by have h2 : Row (((v.alloc (.cells #[.slice aSa Sa.length cSa, .slice aSb Sb.length cSb] 22)).alloc (.cells #[.slice aMa Ma.length cMa, .slice aMb Mb.length cMb] 22)).alloc (.cells #[.slice none 0 0, .slice none 0 0, .int .i64 0] 24)).drew (v.heap.size + 1) 22 _ := (by have h := Row.new (v.alloc (.cells #[.slice aSa Sa.length cSa, .slice aSb Sb.length cSb] 22)) #[.slice aMa Ma.length cMa, .slice aMb Mb.length cMb] 22; rw [show (v.alloc (.cells #[.slice aSa Sa.length cSa, .slice aSb Sb.length cSb] 22)).heap.size = v.heap.size + 1 by simp] at h; exact (h.alloc _)); have h3 := h2.later hb5 (by simp <;> omega); exact h3)); clear hb5 ho5)
        | ((with_reducible refine ATZU.out.mono ?_); rintro e w5 ⟨a5, c5, rfl, ho5, hb5⟩; have F0 := Lib.hid (GTZU.out.addSl hb5 ho5); have R0 := Lib.hid (HKS.out _ _ _ F0.out); have C0 := Lib.hid (HX2.out w5 (v.heap.size + 1 + 1) F0.out.below (by have h2 : Row (((v.alloc (.cells #[.slice aSa Sa.length cSa, .slice aSb Sb.length cSb] 22)).alloc (.cells #[.slice none 0 0, .slice none 0 0, .int .i64 0] 24)).alloc (.cells #[.slice aMa Ma.length cMa, .slice aMb Mb.length cMb] 22)).drew (v.heap.size + 1 + 1) 22 _ := (by have h := Row.new ((v.alloc (.cells #[.slice aSa Sa.length cSa, .slice aSb Sb.length cSb] 22)).alloc (.cells #[.slice none 0 0, .slice none 0 0, .int .i64 0] 24)) #[.slice aMa Ma.length cMa, .slice aMb Mb.length cMb] 22; rw [show ((v.alloc (.cells #[.slice aSa Sa.length cSa, .slice aSb Sb.length cSb] 22)).alloc (.cells #[.slice none 0 0, .slice none 0 0, .int .i64 0] 24)).heap.size = v.heap.size + 1 + 1 by simp] at h; exact h); have h3 := h2.later hb5 (by simp <;> omega); exact h3)); clear hb5 ho5)
        | ((with_reducible refine AUTZ.out.mono ?_); rintro e w5 ⟨a5, c5, rfl, ho5, hb5⟩; have F0 := Lib.hid (GUTZ.out.addSl hb5 ho5); have R0 := Lib.hid (HKS.out _ _ _ F0.out); have C0 := Lib.hid (HX2.out w5 (v.heap.size) F0.out.below (by have h2 : Row (((v.alloc (.cells #[.slice aMa Ma.length cMa, .slice aMb Mb.length cMb] 22)).alloc (.cells #[.slice aSa Sa.length cSa, .slice aSb Sb.length cSb] 22)).alloc (.cells #[.slice none 0 0, .slice none 0 0, .int .i64 0] 24)).drew (v.heap.size) 22 _ := (by have h := Row.new v #[.slice aMa Ma.length cMa, .slice aMb Mb.length cMb] 22; exact ((h.alloc _).alloc _)); have h3 := h2.later hb5 (by simp <;> omega); exact h3)); clear hb5 ho5)
        | ((with_reducible refine AUZT.out.mono ?_); rintro e w5 ⟨a5, c5, rfl, ho5, hb5⟩; have F0 := Lib.hid (GUZT.out.addSl hb5 ho5); have R0 := Lib.hid (HKS.out _ _ _ F0.out); have C0 := Lib.hid (HX2.out w5 (v.heap.size) F0.out.below (by have h2 : Row (((v.alloc (.cells #[.slice aMa Ma.length cMa, .slice aMb Mb.length cMb] 22)).alloc (.cells #[.slice none 0 0, .slice none 0 0, .int .i64 0] 24)).alloc (.cells #[.slice aSa Sa.length cSa, .slice aSb Sb.length cSb] 22)).drew (v.heap.size) 22 _ := (by have h := Row.new v #[.slice aMa Ma.length cMa, .slice aMb Mb.length cMb] 22; exact ((h.alloc _).alloc _)); have h3 := h2.later hb5 (by simp <;> omega); exact h3)); clear hb5 ho5)
        | ((with_reducible refine AZTU.out.mono ?_); rintro e w5 ⟨a5, c5, rfl, ho5, hb5⟩; have F0 := Lib.hid (GZTU.out.addSl hb5 ho5); have R0 := Lib.hid (HKS.out _ _ _ F0.out); have C0 := Lib.hid (HX2.out w5 (v.heap.size + 1 + 1) F0.out.below (by have h2 : Row (((v.alloc (.cells #[.slice none 0 0, .slice none 0 0, .int .i64 0] 24)).alloc (.cells #[.slice aSa Sa.length cSa, .slice aSb Sb.length cSb] 22)).alloc (.cells #[.slice aMa Ma.length cMa, .slice aMb Mb.length cMb] 22)).drew (v.heap.size + 1 + 1) 22 _ := (by have h := Row.new ((v.alloc (.cells #[.slice none 0 0, .slice none 0 0, .int .i64 0] 24)).alloc (.cells #[.slice aSa Sa.length cSa, .slice aSb Sb.length cSb] 22)) #[.slice aMa Ma.length cMa, .slice aMb Mb.length cMb] 22; rw [show ((v.alloc (.cells #[.slice none 0 0, .slice none 0 0, .int .i64 0] 24)).alloc (.cells #[.slice aSa Sa.length cSa, .slice aSb Sb.length cSb] 22)).heap.size = v.heap.size + 1 + 1 by simp] at h; exact h); have h3 := h2.later hb5 (by simp <;> omega); exact h3)); clear hb5 ho5)
        | ((with_reducible refine AZUT.out.mono ?_); rintro e w5 ⟨a5, c5, rfl, ho5, hb5⟩; have F0 := Lib.hid (GZUT.out.addSl hb5 ho5); have R0 := Lib.hid (HKS.out _ _ _ F0.out); have C0 := Lib.hid (HX2.out w5 (v.heap.size + 1) F0.out.below (by have h2 : Row (((v.alloc (.cells #[.slice none 0 0, .slice none 0 0, .int .i64 0] 24)).alloc (.cells #[.slice aMa Ma.length cMa, .slice aMb Mb.length cMb] 22)).alloc (.cells #[.slice aSa Sa.length cSa, .slice aSb Sb.length cSb] 22)).drew (v.heap.size + 1) 22 _ := (by have h := Row.new (v.alloc (.cells #[.slice none 0 0, .slice none 0 0, .int .i64 0] 24)) #[.slice aMa Ma.length cMa, .slice aMb Mb.length cMb] 22; rw [show (v.alloc (.cells #[.slice none 0 0, .slice none 0 0, .int .i64 0] 24)).heap.size = v.heap.size + 1 by simp] at h; exact (h.alloc _)); have h3 := h2.later hb5 (by simp <;> omega); exact h3)); clear hb5 ho5)
        | ((with_reducible refine C0.out.mono ?_); rintro e w6 ⟨a6, c6, rfl, ho6, hb6⟩; have E := Lib.hid (F0.out.addSl hb6 ho6); clear ho6 hb6; have Y0 := Lib.hid (HKS.out _ _ _ E.out); have YZ : Hid (∀ o : Obj, (w6.alloc o).cell? ⟨w.heap.size, 0, none⟩ = some (.slice aSa Sa.length cSa) ∧ (w6.alloc o).cell? ⟨w.heap.size, 1, none⟩ = some (.slice aMa Ma.length cMa) ∧ (w6.alloc o).cell? ⟨w.heap.size + 1, 0, none⟩ = some (.slice aSb Sb.length cSb) ∧ (w6.alloc o).cell? ⟨w.heap.size + 1, 1, none⟩ = some (.slice aMb Mb.length cMb)) := Lib.hid fun o => HKS.out _ _ _ (E.out.call ((Below.refl _ _).alloc (Nat.le_refl _) o)); first | (have hd0 := E.out.cell (k := 3) (i := 0) rfl rfl; have hd1 := E.out.cell (k := 3) (i := 1) rfl rfl; have hd2 := E.out.cell (k := 3) (i := 2) rfl rfl; have hf0 := E.out.frozen (k := 3) rfl 0; have hf1 := E.out.frozen (k := 3) rfl 1; have hf2 := E.out.frozen (k := 3) rfl 2; have E9 := Lib.hid (((E.out.set (k := 3) rfl 0 (.slice a5 (Sa.length + Sb.length) c5)).set (k := 3) rfl 1 (.slice a6 (Ma.length + Mb.length) c6)).set (k := 3) rfl 2 (.int .i64 K)); have Y9 := Lib.hid (HKS.out _ _ _ E9.out)) | (have E9 := Lib.hid (E.out.alloc #[.slice a5 (Sa.length + Sb.length) c5, .slice a6 (Ma.length + Mb.length) c6, .int .i64 K] 24 rfl rfl)))
        | ((with_reducible refine CU.out.mono ?_); rintro e w6 ⟨a6, c6, rfl, ho6, hb6⟩; have E := Lib.hid (FU.out.addSl hb6 ho6); clear ho6 hb6; have Y0 := Lib.hid (HKS.out _ _ _ E.out); have YZ : Hid (∀ o : Obj, (w6.alloc o).cell? ⟨w.heap.size, 0, none⟩ = some (.slice aSa Sa.length cSa) ∧ (w6.alloc o).cell? ⟨w.heap.size, 1, none⟩ = some (.slice aMa Ma.length cMa) ∧ (w6.alloc o).cell? ⟨w.heap.size + 1, 0, none⟩ = some (.slice aSb Sb.length cSb) ∧ (w6.alloc o).cell? ⟨w.heap.size + 1, 1, none⟩ = some (.slice aMb Mb.length cMb)) := Lib.hid fun o => HKS.out _ _ _ (E.out.call ((Below.refl _ _).alloc (Nat.le_refl _) o)); first | (have hd0 := E.out.cell (k := 3) (i := 0) rfl rfl; have hd1 := E.out.cell (k := 3) (i := 1) rfl rfl; have hd2 := E.out.cell (k := 3) (i := 2) rfl rfl; have hf0 := E.out.frozen (k := 3) rfl 0; have hf1 := E.out.frozen (k := 3) rfl 1; have hf2 := E.out.frozen (k := 3) rfl 2; have E9 := Lib.hid (((E.out.set (k := 3) rfl 0 (.slice a5 (Sa.length + Sb.length) c5)).set (k := 3) rfl 1 (.slice a6 (Ma.length + Mb.length) c6)).set (k := 3) rfl 2 (.int .i64 K)); have Y9 := Lib.hid (HKS.out _ _ _ E9.out)) | (have E9 := Lib.hid (E.out.alloc #[.slice a5 (Sa.length + Sb.length) c5, .slice a6 (Ma.length + Mb.length) c6, .int .i64 K] 24 rfl rfl)))
        | ((with_reducible refine CZ.out.mono ?_); rintro e w6 ⟨a6, c6, rfl, ho6, hb6⟩; have E := Lib.hid (FZ.out.addSl hb6 ho6); clear ho6 hb6; have Y0 := Lib.hid (HKS.out _ _ _ E.out); have YZ : Hid (∀ o : Obj, (w6.alloc o).cell? ⟨w.heap.size, 0, none⟩ = some (.slice aSa Sa.length cSa) ∧ (w6.alloc o).cell? ⟨w.heap.size, 1, none⟩ = some (.slice aMa Ma.length cMa) ∧ (w6.alloc o).cell? ⟨w.heap.size + 1, 0, none⟩ = some (.slice aSb Sb.length cSb) ∧ (w6.alloc o).cell? ⟨w.heap.size + 1, 1, none⟩ = some (.slice aMb Mb.length cMb)) := Lib.hid fun o => HKS.out _ _ _ (E.out.call ((Below.refl _ _).alloc (Nat.le_refl _) o)); first | (have hd0 := E.out.cell (k := 3) (i := 0) rfl rfl; have hd1 := E.out.cell (k := 3) (i := 1) rfl rfl; have hd2 := E.out.cell (k := 3) (i := 2) rfl rfl; have hf0 := E.out.frozen (k := 3) rfl 0; have hf1 := E.out.frozen (k := 3) rfl 1; have hf2 := E.out.frozen (k := 3) rfl 2; have E9 := Lib.hid (((E.out.set (k := 3) rfl 0 (.slice a5 (Sa.length + Sb.length) c5)).set (k := 3) rfl 1 (.slice a6 (Ma.length + Mb.length) c6)).set (k := 3) rfl 2 (.int .i64 K)); have Y9 := Lib.hid (HKS.out _ _ _ E9.out)) | (have E9 := Lib.hid (E.out.alloc #[.slice a5 (Sa.length + Sb.length) c5, .slice a6 (Ma.length + Mb.length) c6, .int .i64 K] 24 rfl rfl)))
        | ((with_reducible refine CUZ.out.mono ?_); rintro e w6 ⟨a6, c6, rfl, ho6, hb6⟩; have E := Lib.hid (FUZ.out.addSl hb6 ho6); clear ho6 hb6; have Y0 := Lib.hid (HKS.out _ _ _ E.out); have YZ : Hid (∀ o : Obj, (w6.alloc o).cell? ⟨w.heap.size, 0, none⟩ = some (.slice aSa Sa.length cSa) ∧ (w6.alloc o).cell? ⟨w.heap.size, 1, none⟩ = some (.slice aMa Ma.length cMa) ∧ (w6.alloc o).cell? ⟨w.heap.size + 1, 0, none⟩ = some (.slice aSb Sb.length cSb) ∧ (w6.alloc o).cell? ⟨w.heap.size + 1, 1, none⟩ = some (.slice aMb Mb.length cMb)) := Lib.hid fun o => HKS.out _ _ _ (E.out.call ((Below.refl _ _).alloc (Nat.le_refl _) o)); first | (have hd0 := E.out.cell (k := 3) (i := 0) rfl rfl; have hd1 := E.out.cell (k := 3) (i := 1) rfl rfl; have hd2 := E.out.cell (k := 3) (i := 2) rfl rfl; have hf0 := E.out.frozen (k := 3) rfl 0; have hf1 := E.out.frozen (k := 3) rfl 1; have hf2 := E.out.frozen (k := 3) rfl 2; have E9 := Lib.hid (((E.out.set (k := 3) rfl 0 (.slice a5 (Sa.length + Sb.length) c5)).set (k := 3) rfl 1 (.slice a6 (Ma.length + Mb.length) c6)).set (k := 3) rfl 2 (.int .i64 K)); have Y9 := Lib.hid (HKS.out _ _ _ E9.out)) | (have E9 := Lib.hid (E.out.alloc #[.slice a5 (Sa.length + Sb.length) c5, .slice a6 (Ma.length + Mb.length) c6, .int .i64 K] 24 rfl rfl)))
        | ((with_reducible refine CZU.out.mono ?_); rintro e w6 ⟨a6, c6, rfl, ho6, hb6⟩; have E := Lib.hid (FZU.out.addSl hb6 ho6); clear ho6 hb6; have Y0 := Lib.hid (HKS.out _ _ _ E.out); have YZ : Hid (∀ o : Obj, (w6.alloc o).cell? ⟨w.heap.size, 0, none⟩ = some (.slice aSa Sa.length cSa) ∧ (w6.alloc o).cell? ⟨w.heap.size, 1, none⟩ = some (.slice aMa Ma.length cMa) ∧ (w6.alloc o).cell? ⟨w.heap.size + 1, 0, none⟩ = some (.slice aSb Sb.length cSb) ∧ (w6.alloc o).cell? ⟨w.heap.size + 1, 1, none⟩ = some (.slice aMb Mb.length cMb)) := Lib.hid fun o => HKS.out _ _ _ (E.out.call ((Below.refl _ _).alloc (Nat.le_refl _) o)); first | (have hd0 := E.out.cell (k := 3) (i := 0) rfl rfl; have hd1 := E.out.cell (k := 3) (i := 1) rfl rfl; have hd2 := E.out.cell (k := 3) (i := 2) rfl rfl; have hf0 := E.out.frozen (k := 3) rfl 0; have hf1 := E.out.frozen (k := 3) rfl 1; have hf2 := E.out.frozen (k := 3) rfl 2; have E9 := Lib.hid (((E.out.set (k := 3) rfl 0 (.slice a5 (Sa.length + Sb.length) c5)).set (k := 3) rfl 1 (.slice a6 (Ma.length + Mb.length) c6)).set (k := 3) rfl 2 (.int .i64 K)); have Y9 := Lib.hid (HKS.out _ _ _ E9.out)) | (have E9 := Lib.hid (E.out.alloc #[.slice a5 (Sa.length + Sb.length) c5, .slice a6 (Ma.length + Mb.length) c6, .int .i64 K] 24 rfl rfl))))
    all_goals (go_wp2_with fail; go_meet)
    all_goals exact ⟨a5, a6, c5, c6, _, rfl, E9.out⟩
  case rest =>
  clear G0 Q0 GT QT GU QU GZ QZ GTU QTU GTZ QTZ GUT QUT GUZ QUZ GZT QZT GZU QZU GTUZ QTUZ GTZU QTZU GUTZ QUTZ GUZT QUZT GZTU QZTU GZUT QZUT AT ATU ATZ AUT AZT ATUZ ATZU AUTZ AUZT AZTU AZUT q0 HKS HX1 HX2
  obtain ⟨a5, b5, c5, d5, r, rfl, hh⟩ := hcut
  have Hc : Hid (HH w wc [(w.heap.size, rowO 24 [.slice aSa Sa.length cSa, .slice aMa Ma.length cMa, .int .i64 La]), (w.heap.size + 1, rowO 24 [.slice aSb Sb.length cSb, .slice aMb Mb.length cMb, .int .i64 Lb]), (w.heap.size + 2, rowO 24 [.slice none 0 0, .slice none 0 0, .int .i64 0]), (r, rowO 24 [.slice a5 (Sa.length + Sb.length) c5, .slice b5 (Ma.length + Mb.length) d5, .int .i64 K])] [⟨a5, c5, 3, ints (Sa ++ Sb)⟩, ⟨b5, d5, 3, ints (uniP Ma Mb 0)⟩]) := Lib.hid (by rw [uniP_zero]; exact hh)
  clear hh H1
  have k1 := Hc.out.cell (k := 1) (i := 1) rfl rfl
  go_wp2_with fail
  clear k1
  go_loopg [40] Mb.length (fun g v wr => ∃ i : Nat, i ≤ Mb.length ∧ g = Mb.length - i ∧ v = .int .i64 i ∧ HH w wr [(w.heap.size, rowO 24 [.slice aSa Sa.length cSa, .slice aMa Ma.length cMa, .int .i64 La]), (w.heap.size + 1, rowO 24 [.slice aSb Sb.length cSb, .slice aMb Mb.length cMb, .int .i64 Lb]), (w.heap.size + 2, rowO 24 [.slice none 0 0, .slice none 0 0, .int .i64 0]), (r, rowO 24 [.slice a5 (Sa.length + Sb.length) c5, .slice b5 (Ma.length + Mb.length) d5, .int .i64 K])] [⟨a5, c5, 3, ints (Sa ++ Sb)⟩, ⟨b5, d5, 3, ints (uniP Ma Mb i)⟩])
  case atStart => exact ⟨0, Nat.zero_le _, rfl, rfl, Hc.out⟩
  case round =>
    obtain ⟨i, hi, rfl, rfl, hh⟩ := hrel
    have Hh := Lib.hid hh
    clear hh Hc
    by_cases hil : i < Mb.length
    · have hml : Ma.length + i < (uniP Ma Mb i).length := by rw [uniP_len]; omega
      obtain ⟨bb, oo, rfl, _, _, hcR, hfR⟩ := (Hh.out.sl (k := 1) rfl).open (by show 0 < (ints (uniP Ma Mb i)).length; rw [ints_length, uniP_len]; omega)
      have hcx := hcR (Ma.length + i) _ (ints_get _ _ hml)
      rw [uniP_at hil] at hcx
      have hfx := hfR (oo + (Ma.length + i))
      have HN := Lib.hid (Hh.out.slSet (k := 1) rfl (Ma.length + i) (by rw [ints_length]; exact hml) (.int .i64 ((Ma.length : Int) + nth Mb i)))
      have Hs : Hid ((ints (uniP Ma Mb i)).set (Ma.length + i) (.int .i64 ((Ma.length : Int) + nth Mb i)) = ints (uniP Ma Mb (i + 1))) := Lib.hid (by rw [ints_set, uniP_set hil])
      have k0 := Hh.out.cell (k := 3) (i := 1) rfl rfl
      have k2 := Hh.out.cell (k := 0) (i := 1) rfl rfl
      obtain ⟨r1, r2⟩ := hrb i hil
      obtain ⟨mv, hmv⟩ : ∃ mv : Nat, nth Mb i = (mv : Int) := ⟨(nth Mb i).toNat, by omega⟩
      rw [hmv] at hcx HN Hs r2
      clear hcR hfR hml hmv r1
      obtain ⟨ix, hix⟩ : ∃ ix, ix = Ma.length + i := ⟨_, rfl⟩
      have w1 : IntKind.i64.wrap ((Ma.length : Int) + (i : Int)) = (ix : Int) := by rw [wrapi_mid (by omega) (by omega)]; omega
      have w2 : IntKind.i64.wrap ((mv : Int) + (Ma.length : Int)) = (Ma.length : Int) + (mv : Int) := by rw [wrapi_mid (by omega) (by omega)]; omega
      have l1 : ix < Ma.length + Mb.length := by omega
      rw [← hix] at hcx hfx HN Hs
      clear hix
      go_wp2_with fail
      go_region
      all_goals
        clear hcx hfx k0 k2 w1 w2 l1
        go_wp2_with fail
        go_roundg (Mb.length - (i + 1))
        case measure => omega
        case rel =>
          refine ⟨i + 1, by omega, rfl, by go_num, ?_⟩
          have h := HN.out.drew
          rw [Hs.out] at h
          exact h
    · obtain rfl : i = Mb.length := by omega
      have k0 := Hh.out.cell (k := 3) (i := 0) rfl rfl
      have k1 := Hh.out.cell (k := 3) (i := 1) rfl rfl
      have k2 := Hh.out.cell (k := 3) (i := 2) rfl rfl
      have d0 := Hh.out.cell (k := 2) (i := 0) rfl rfl
      have d1 := Hh.out.cell (k := 2) (i := 1) rfl rfl
      have d2 := Hh.out.cell (k := 2) (i := 2) rfl rfl
      have f0 := Hh.out.frozen (k := 2) rfl 0
      have f1 := Hh.out.frozen (k := 2) rfl 1
      have f2 := Hh.out.frozen (k := 2) rfl 2
      have H9 := ((Hh.out.set (k := 2) rfl 0 (.slice a5 (Sa.length + Sb.length) c5)).set (k := 2) rfl 1 (.slice b5 (Ma.length + Mb.length) d5)).set (k := 2) rfl 2 (.int .i64 K)
      have hF0 := H9.cell (k := 2) (i := 0) rfl rfl
      have hF1 := H9.cell (k := 2) (i := 1) rfl rfl
      have hF2 := H9.cell (k := 2) (i := 2) rfl rfl
      have Hfin := Lib.hid H9
      clear H9
      go_wp2_with fail
      refine bodyPost_ret (v := .tuple #[.agg #[.slice a5 (Sa.length + Sb.length) c5, .slice b5 (Ma.length + Mb.length) d5, .int .i64 K], .int .i64 0]) (by simp [results, Tryz.results21, go_sem, hF0, hF1, hF2]) rfl ?_
      have hnd := Hfin.out.nd2
      have h := Hfin.out.sl (k := 1) rfl
      rw [uniP_all] at h
      exact ⟨_, _, _, _, rfl, Hfin.out.sl (k := 0) rfl, h, fun p q hp hq => (List.pairwise_cons.1 hnd).1 _ List.mem_cons_self p q hp hq, Hfin.out.below⟩
end Go.Proofs.YtmjoijfafachhaaGreatDoor


