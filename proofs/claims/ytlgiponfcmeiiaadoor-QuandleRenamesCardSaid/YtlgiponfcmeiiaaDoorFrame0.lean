/- The frame of a law's proof: tables among the arguments. -/
import Derived.Test.YtlgiponfcmeiiaaDoorRows
import Derived.Test.YtlgiponfcmeiiaaDoorTab
import Derived.ProofKit
import Derived.OpenShut
import Derived.ShutString
import Derived.ChangeOld
import Derived.Below
import Derived.Lib.SmallJoins
namespace Go.Proofs.YtlgiponfcmeiiaaDoor
open Go Go.RowKit Go.ChangeShapes Go.WideShapes Go.ChangeAt Go.Joins
theorem own : ownKnob Tryd.prog.godebug = none := by kernel_rfl
theorem laidOut : laidOutB Tryd.prog = true := by kernel_rfl
theorem intsAt_of_trod {H : Type} {enc : TypeId × Value → H} {W : World} {n : Nat} {v : Value} {y : DataW H × List MemPlace} {spare : Nat → Bool} {held : Bool} (h : DataW.trod enc Tryd.prog W 0 spare held n 36 [v] = some y) :
    ∃ a xs c, v = .slice a xs.length c ∧ IntsAt W a xs ∧ xs.length ≤ maxLen := by
  rcases open_ints Tryd.underlying36 Tryd.underlying3 (by kernel_rfl) h with ⟨hcs, _⟩ | ⟨x, l, c, zs, hcs, _, hl, hm, hz, _, hcell, hwz⟩
  · simp only [List.cons.injEq, and_true] at hcs
    exact ⟨none, [], 0, hcs, IntsAt.nil _ _, Nat.zero_le _⟩
  · simp only [List.cons.injEq, and_true] at hcs
    have hzl : l ≤ zs.length := by rw [hz]; split <;> omega
    have htl : (zs.take l).length = l := by rw [List.length_take]; omega
    refine ⟨some x, zs.take l, c, by rw [htl]; exact hcs, ?_, by omega⟩
    intro i u hu
    have hi : i < l := by
      have := (List.getElem?_eq_some_iff.1 hu).1
      rwa [ints_length, htl] at this
    rw [ints_get _ _ (by rw [htl]; exact hi)] at hu
    simp only [Option.some.injEq] at hu
    subst hu
    have hc := hcell i (by omega)
    have hc0 := hcell 0 (by omega)
    obtain ⟨b, off, spot⟩ := x
    have hspot : spot = none := by simpa [Addr.add] using World.cell?_spot hc0
    subst hspot
    rw [Addr.add_lit] at hc
    refine ⟨b, off, rfl, ?_⟩
    have hn : nth (zs.take l) i = zs.getD i 0 := by simp [nth, hi]
    rw [hn]
    exact hc
set_option maxRecDepth 100000 in
/-- A table that came in. -/
theorem open_tab {H : Type} {enc : TypeId × Value → H} {W : World} {r : Reach} {b0 : Nat} {v : Value} {d : DataW H} {p : List MemPlace} {held : Bool} (hv : Value.okWide Tryd.prog W r b0 23 v) (h : DataW.Trod enc Tryd.prog W 0 (fun _ => true) held 23 v d p) :
    ∃ (T : List (List Int)) (a : Option Addr) (c : Nat), v = .slice a T.length c ∧ TabAt W a T ∧ T.length ≤ maxLen ∧ (∀ l ∈ T, l.length ≤ maxLen) ∧ T.length ≤ c := by
  obtain ⟨a0, len0, cap0, rfl⟩ := okWide_slice Tryd.underlying23 hv
  obtain ⟨fuel, hf⟩ := h
  have hc : (Value.slice a0 len0 cap0).cells.toList = [Value.slice a0 len0 cap0] := by simp [Value.cells]
  rw [hc] at hf
  rcases Go.Deep.open_int_rows Tryd.underlying23 Tryd.underlying36 Tryd.underlying3 (by kernel_rfl) (by kernel_rfl) hf with ⟨hcs, _⟩ | ⟨a, len, cap, A, L, C, Z, hcs, _, hlc, hcm, _, hrow⟩
  · simp only [List.cons.injEq, and_true] at hcs
    exact ⟨[], none, 0, hcs, TabAt.nil _ _, Nat.zero_le _, (fun l h => by cases h), Nat.le_refl _⟩
  · simp only [List.cons.injEq, and_true] at hcs
    refine ⟨(List.range len).map fun r => (Z r).take (L r), some a, cap, by rw [List.length_map, List.length_range]; exact hcs, fun i row hi => ?_, by rw [List.length_map, List.length_range]; omega, fun l hl => ?_, by rw [List.length_map, List.length_range]; exact hlc⟩
    · have hil : i < len := by
        have := (List.getElem?_eq_some_iff.1 hi).1
        rwa [List.length_map, List.length_range] at this
      rw [List.getElem?_map, List.getElem?_range hil, Option.map_some, Option.some.injEq] at hi
      subst hi
      obtain ⟨h1, h2, h3, h4, _, _, h7⟩ := hrow i (by omega)
      have hrl : ((Z i).take (L i)).length = L i := by rw [List.length_take]; omega
      obtain ⟨b, off, spot⟩ := a
      have hspot : spot = none := by simpa [Addr.add] using World.cell?_spot (hrow 0 (by omega)).1
      subst hspot
      rw [Addr.add_lit] at h1
      refine ⟨b, off, A i, C i, rfl, by rw [hrl]; exact h1, by rw [hrl]; exact h2, fun j u hu => ?_⟩
      have hj : j < L i := by
        have := (List.getElem?_eq_some_iff.1 hu).1
        rwa [ints_length, hrl] at this
      rw [ints_get _ _ (by rw [hrl]; exact hj), Option.some.injEq] at hu
      subst hu
      cases hA : A i with
      | none => have := h4; obtain ⟨_, _, _, _, _, h6, _⟩ := hrow i (by omega); have := h6 hA; omega
      | some x =>
        obtain ⟨_, hcx⟩ := h7 x hA
        have hcj := hcx j (by omega)
        obtain ⟨b1, off1, spot1⟩ := x
        have hspot1 : spot1 = none := by simpa [Addr.add] using World.cell?_spot (hcx 0 (by omega))
        subst hspot1
        rw [Addr.add_lit] at hcj
        refine ⟨b1, off1, rfl, ?_⟩
        have hn : nth ((Z i).take (L i)) j = (Z i).getD j 0 := by simp [nth, hj]
        rw [hn]
        exact hcj
    · obtain ⟨i, hi, rfl⟩ := List.mem_map.1 hl
      obtain ⟨_, h2, h3, _⟩ := hrow i (by have := List.mem_range.1 hi; omega)
      rw [List.length_take]; omega
/-! ### The translation's head line: the closed facts that hang on it -/
set_option maxRecDepth 100000 in
def headText : String := "harness 80a1b384fda0cb5ff6f79141b5cb5edcab0e3e35b331f8e81d08cf96b960c75e cut at unravel/unravellaw28.QuandleFamilies unravel/unravellaw28.QuandleInverse unravel/unravellaw28.QuandleOrbits unravel/unravellaw28.QuandleRenames unravel/unravellaw28.QuandleDihedral unravel/unravellaw28.QuandleValid unravel/unravellaw28.QuandleAutomorphisms"
theorem head_text : Tryd.prog.initOrder = headText := by kernel_rfl
def headSigns : List Char := [Char.ofNat 104, Char.ofNat 97, Char.ofNat 114, Char.ofNat 110, Char.ofNat 101, Char.ofNat 115, Char.ofNat 115, Char.ofNat 32, Char.ofNat 56, Char.ofNat 48, Char.ofNat 97, Char.ofNat 49, Char.ofNat 98, Char.ofNat 51, Char.ofNat 56, Char.ofNat 52, Char.ofNat 102, Char.ofNat 100, Char.ofNat 97, Char.ofNat 48, Char.ofNat 99, Char.ofNat 98, Char.ofNat 53, Char.ofNat 102, Char.ofNat 102, Char.ofNat 54, Char.ofNat 102, Char.ofNat 55, Char.ofNat 57, Char.ofNat 49, Char.ofNat 52, Char.ofNat 49, Char.ofNat 98, Char.ofNat 53, Char.ofNat 99, Char.ofNat 98, Char.ofNat 53, Char.ofNat 101, Char.ofNat 100, Char.ofNat 99, Char.ofNat 97, Char.ofNat 98, Char.ofNat 48, Char.ofNat 101, Char.ofNat 51, Char.ofNat 101, Char.ofNat 51, Char.ofNat 53, Char.ofNat 98, Char.ofNat 51, Char.ofNat 51, Char.ofNat 49, Char.ofNat 102, Char.ofNat 56, Char.ofNat 101, Char.ofNat 56, Char.ofNat 49, Char.ofNat 100, Char.ofNat 48, Char.ofNat 56, Char.ofNat 99, Char.ofNat 102, Char.ofNat 57, Char.ofNat 54, Char.ofNat 98, Char.ofNat 57, Char.ofNat 54, Char.ofNat 48, Char.ofNat 99, Char.ofNat 55, Char.ofNat 53, Char.ofNat 101, Char.ofNat 32, Char.ofNat 99, Char.ofNat 117, Char.ofNat 116, Char.ofNat 32, Char.ofNat 97, Char.ofNat 116, Char.ofNat 32, Char.ofNat 117, Char.ofNat 110, Char.ofNat 114, Char.ofNat 97, Char.ofNat 118, Char.ofNat 101, Char.ofNat 108, Char.ofNat 47, Char.ofNat 117, Char.ofNat 110, Char.ofNat 114, Char.ofNat 97, Char.ofNat 118, Char.ofNat 101, Char.ofNat 108, Char.ofNat 108, Char.ofNat 97, Char.ofNat 119, Char.ofNat 50, Char.ofNat 56, Char.ofNat 46, Char.ofNat 81, Char.ofNat 117, Char.ofNat 97, Char.ofNat 110, Char.ofNat 100, Char.ofNat 108, Char.ofNat 101, Char.ofNat 70, Char.ofNat 97, Char.ofNat 109, Char.ofNat 105, Char.ofNat 108, Char.ofNat 105, Char.ofNat 101, Char.ofNat 115, Char.ofNat 32, Char.ofNat 117, Char.ofNat 110, Char.ofNat 114, Char.ofNat 97, Char.ofNat 118, Char.ofNat 101, Char.ofNat 108, Char.ofNat 47, Char.ofNat 117, Char.ofNat 110, Char.ofNat 114, Char.ofNat 97, Char.ofNat 118, Char.ofNat 101, Char.ofNat 108, Char.ofNat 108, Char.ofNat 97, Char.ofNat 119, Char.ofNat 50, Char.ofNat 56, Char.ofNat 46, Char.ofNat 81, Char.ofNat 117, Char.ofNat 97, Char.ofNat 110, Char.ofNat 100, Char.ofNat 108, Char.ofNat 101, Char.ofNat 73, Char.ofNat 110, Char.ofNat 118, Char.ofNat 101, Char.ofNat 114, Char.ofNat 115, Char.ofNat 101, Char.ofNat 32, Char.ofNat 117, Char.ofNat 110, Char.ofNat 114, Char.ofNat 97, Char.ofNat 118, Char.ofNat 101, Char.ofNat 108, Char.ofNat 47, Char.ofNat 117, Char.ofNat 110, Char.ofNat 114, Char.ofNat 97, Char.ofNat 118, Char.ofNat 101, Char.ofNat 108, Char.ofNat 108, Char.ofNat 97, Char.ofNat 119, Char.ofNat 50, Char.ofNat 56, Char.ofNat 46, Char.ofNat 81, Char.ofNat 117, Char.ofNat 97, Char.ofNat 110, Char.ofNat 100, Char.ofNat 108, Char.ofNat 101, Char.ofNat 79, Char.ofNat 114, Char.ofNat 98, Char.ofNat 105, Char.ofNat 116, Char.ofNat 115, Char.ofNat 32, Char.ofNat 117, Char.ofNat 110, Char.ofNat 114, Char.ofNat 97, Char.ofNat 118, Char.ofNat 101, Char.ofNat 108, Char.ofNat 47, Char.ofNat 117, Char.ofNat 110, Char.ofNat 114, Char.ofNat 97, Char.ofNat 118, Char.ofNat 101, Char.ofNat 108, Char.ofNat 108, Char.ofNat 97, Char.ofNat 119, Char.ofNat 50, Char.ofNat 56, Char.ofNat 46, Char.ofNat 81, Char.ofNat 117, Char.ofNat 97, Char.ofNat 110, Char.ofNat 100, Char.ofNat 108, Char.ofNat 101, Char.ofNat 82, Char.ofNat 101, Char.ofNat 110, Char.ofNat 97, Char.ofNat 109, Char.ofNat 101, Char.ofNat 115, Char.ofNat 32, Char.ofNat 117, Char.ofNat 110, Char.ofNat 114, Char.ofNat 97, Char.ofNat 118, Char.ofNat 101, Char.ofNat 108, Char.ofNat 47, Char.ofNat 117, Char.ofNat 110, Char.ofNat 114, Char.ofNat 97, Char.ofNat 118, Char.ofNat 101, Char.ofNat 108, Char.ofNat 108, Char.ofNat 97, Char.ofNat 119, Char.ofNat 50, Char.ofNat 56, Char.ofNat 46, Char.ofNat 81, Char.ofNat 117, Char.ofNat 97, Char.ofNat 110, Char.ofNat 100, Char.ofNat 108, Char.ofNat 101, Char.ofNat 68, Char.ofNat 105, Char.ofNat 104, Char.ofNat 101, Char.ofNat 100, Char.ofNat 114, Char.ofNat 97, Char.ofNat 108, Char.ofNat 32, Char.ofNat 117, Char.ofNat 110, Char.ofNat 114, Char.ofNat 97, Char.ofNat 118, Char.ofNat 101, Char.ofNat 108, Char.ofNat 47, Char.ofNat 117, Char.ofNat 110, Char.ofNat 114, Char.ofNat 97, Char.ofNat 118, Char.ofNat 101, Char.ofNat 108, Char.ofNat 108, Char.ofNat 97, Char.ofNat 119, Char.ofNat 50, Char.ofNat 56, Char.ofNat 46, Char.ofNat 81, Char.ofNat 117, Char.ofNat 97, Char.ofNat 110, Char.ofNat 100, Char.ofNat 108, Char.ofNat 101, Char.ofNat 86, Char.ofNat 97, Char.ofNat 108, Char.ofNat 105, Char.ofNat 100, Char.ofNat 32, Char.ofNat 117, Char.ofNat 110, Char.ofNat 114, Char.ofNat 97, Char.ofNat 118, Char.ofNat 101, Char.ofNat 108, Char.ofNat 47, Char.ofNat 117, Char.ofNat 110, Char.ofNat 114, Char.ofNat 97, Char.ofNat 118, Char.ofNat 101, Char.ofNat 108, Char.ofNat 108, Char.ofNat 97, Char.ofNat 119, Char.ofNat 50, Char.ofNat 56, Char.ofNat 46, Char.ofNat 81, Char.ofNat 117, Char.ofNat 97, Char.ofNat 110, Char.ofNat 100, Char.ofNat 108, Char.ofNat 101, Char.ofNat 65, Char.ofNat 117, Char.ofNat 116, Char.ofNat 111, Char.ofNat 109, Char.ofNat 111, Char.ofNat 114, Char.ofNat 112, Char.ofNat 104, Char.ofNat 105, Char.ofNat 115, Char.ofNat 109, Char.ofNat 115]
theorem head_of : headText = String.ofList headSigns := by kernel_rfl
theorem head_signs : headText.toList = headSigns := by rw [head_of, String.toList_ofList]
def headWords : List (List Char) := [[Char.ofNat 99, Char.ofNat 117, Char.ofNat 116], [Char.ofNat 97, Char.ofNat 116], [Char.ofNat 117, Char.ofNat 110, Char.ofNat 114, Char.ofNat 97, Char.ofNat 118, Char.ofNat 101, Char.ofNat 108, Char.ofNat 47, Char.ofNat 117, Char.ofNat 110, Char.ofNat 114, Char.ofNat 97, Char.ofNat 118, Char.ofNat 101, Char.ofNat 108, Char.ofNat 108, Char.ofNat 97, Char.ofNat 119, Char.ofNat 50, Char.ofNat 56, Char.ofNat 46, Char.ofNat 81, Char.ofNat 117, Char.ofNat 97, Char.ofNat 110, Char.ofNat 100, Char.ofNat 108, Char.ofNat 101, Char.ofNat 70, Char.ofNat 97, Char.ofNat 109, Char.ofNat 105, Char.ofNat 108, Char.ofNat 105, Char.ofNat 101, Char.ofNat 115], [Char.ofNat 117, Char.ofNat 110, Char.ofNat 114, Char.ofNat 97, Char.ofNat 118, Char.ofNat 101, Char.ofNat 108, Char.ofNat 47, Char.ofNat 117, Char.ofNat 110, Char.ofNat 114, Char.ofNat 97, Char.ofNat 118, Char.ofNat 101, Char.ofNat 108, Char.ofNat 108, Char.ofNat 97, Char.ofNat 119, Char.ofNat 50, Char.ofNat 56, Char.ofNat 46, Char.ofNat 81, Char.ofNat 117, Char.ofNat 97, Char.ofNat 110, Char.ofNat 100, Char.ofNat 108, Char.ofNat 101, Char.ofNat 73, Char.ofNat 110, Char.ofNat 118, Char.ofNat 101, Char.ofNat 114, Char.ofNat 115, Char.ofNat 101], [Char.ofNat 117, Char.ofNat 110, Char.ofNat 114, Char.ofNat 97, Char.ofNat 118, Char.ofNat 101, Char.ofNat 108, Char.ofNat 47, Char.ofNat 117, Char.ofNat 110, Char.ofNat 114, Char.ofNat 97, Char.ofNat 118, Char.ofNat 101, Char.ofNat 108, Char.ofNat 108, Char.ofNat 97, Char.ofNat 119, Char.ofNat 50, Char.ofNat 56, Char.ofNat 46, Char.ofNat 81, Char.ofNat 117, Char.ofNat 97, Char.ofNat 110, Char.ofNat 100, Char.ofNat 108, Char.ofNat 101, Char.ofNat 79, Char.ofNat 114, Char.ofNat 98, Char.ofNat 105, Char.ofNat 116, Char.ofNat 115], [Char.ofNat 117, Char.ofNat 110, Char.ofNat 114, Char.ofNat 97, Char.ofNat 118, Char.ofNat 101, Char.ofNat 108, Char.ofNat 47, Char.ofNat 117, Char.ofNat 110, Char.ofNat 114, Char.ofNat 97, Char.ofNat 118, Char.ofNat 101, Char.ofNat 108, Char.ofNat 108, Char.ofNat 97, Char.ofNat 119, Char.ofNat 50, Char.ofNat 56, Char.ofNat 46, Char.ofNat 81, Char.ofNat 117, Char.ofNat 97, Char.ofNat 110, Char.ofNat 100, Char.ofNat 108, Char.ofNat 101, Char.ofNat 82, Char.ofNat 101, Char.ofNat 110, Char.ofNat 97, Char.ofNat 109, Char.ofNat 101, Char.ofNat 115], [Char.ofNat 117, Char.ofNat 110, Char.ofNat 114, Char.ofNat 97, Char.ofNat 118, Char.ofNat 101, Char.ofNat 108, Char.ofNat 47, Char.ofNat 117, Char.ofNat 110, Char.ofNat 114, Char.ofNat 97, Char.ofNat 118, Char.ofNat 101, Char.ofNat 108, Char.ofNat 108, Char.ofNat 97, Char.ofNat 119, Char.ofNat 50, Char.ofNat 56, Char.ofNat 46, Char.ofNat 81, Char.ofNat 117, Char.ofNat 97, Char.ofNat 110, Char.ofNat 100, Char.ofNat 108, Char.ofNat 101, Char.ofNat 68, Char.ofNat 105, Char.ofNat 104, Char.ofNat 101, Char.ofNat 100, Char.ofNat 114, Char.ofNat 97, Char.ofNat 108], [Char.ofNat 117, Char.ofNat 110, Char.ofNat 114, Char.ofNat 97, Char.ofNat 118, Char.ofNat 101, Char.ofNat 108, Char.ofNat 47, Char.ofNat 117, Char.ofNat 110, Char.ofNat 114, Char.ofNat 97, Char.ofNat 118, Char.ofNat 101, Char.ofNat 108, Char.ofNat 108, Char.ofNat 97, Char.ofNat 119, Char.ofNat 50, Char.ofNat 56, Char.ofNat 46, Char.ofNat 81, Char.ofNat 117, Char.ofNat 97, Char.ofNat 110, Char.ofNat 100, Char.ofNat 108, Char.ofNat 101, Char.ofNat 86, Char.ofNat 97, Char.ofNat 108, Char.ofNat 105, Char.ofNat 100], [Char.ofNat 117, Char.ofNat 110, Char.ofNat 114, Char.ofNat 97, Char.ofNat 118, Char.ofNat 101, Char.ofNat 108, Char.ofNat 47, Char.ofNat 117, Char.ofNat 110, Char.ofNat 114, Char.ofNat 97, Char.ofNat 118, Char.ofNat 101, Char.ofNat 108, Char.ofNat 108, Char.ofNat 97, Char.ofNat 119, Char.ofNat 50, Char.ofNat 56, Char.ofNat 46, Char.ofNat 81, Char.ofNat 117, Char.ofNat 97, Char.ofNat 110, Char.ofNat 100, Char.ofNat 108, Char.ofNat 101, Char.ofNat 65, Char.ofNat 117, Char.ofNat 116, Char.ofNat 111, Char.ofNat 109, Char.ofNat 111, Char.ofNat 114, Char.ofNat 112, Char.ofNat 104, Char.ofNat 105, Char.ofNat 115, Char.ofNat 109, Char.ofNat 115]]
theorem head_words : behindMainWord (wordsSigns headSigns) = headWords := by kernel_rfl
theorem head_main : behindMainWord (wordsSigns Tryd.prog.initOrder.toList) = headWords := by rw [head_text, head_signs, head_words]
def cutW : List Char := [Char.ofNat 99, Char.ofNat 117, Char.ofNat 116]
theorem head_cons : headWords = cutW :: headWords.tail := by kernel_rfl
theorem cut_first : (cutW == "gc".toList || cutW == "spec".toList) = false := by kernel_rfl
theorem cut_is : (cutW == "cut".toList) = true := by kernel_rfl
theorem cut_carried : (cutW == "carried".toList) = false := by kernel_rfl
theorem strip_cut (w : List (List Char)) : stripLifts liftWords (cutW :: w) = ([], cutW :: w) := by kernel_rfl
theorem make_of (P : Program) (w : List (List Char)) (h : behindMainWord (wordsSigns P.initOrder.toList) = cutW :: w) : P.make = some .cut := by
  unfold Program.make
  rw [h]
  show (if (cutW == "gc".toList || cutW == "spec".toList) = true then some Make.whole else if (cutW == "cut".toList || (cutW == "finals".toList && w.head? == some "cut".toList)) = true then some Make.cut else _) = _
  rw [cut_first, cut_is]
  rfl
theorem lifts_of (P : Program) (w : List (List Char)) (h : behindMainWord (wordsSigns P.initOrder.toList) = cutW :: w) : P.headLifts = [] := by
  unfold Program.headLifts
  rw [h, strip_cut]
  show (if (some cutW == some "cut".toList) = true then [] else []) = []
  split <;> rfl
theorem final_of (P : Program) (w : List (List Char)) (h : behindMainWord (wordsSigns P.initOrder.toList) = cutW :: w) : P.liftsFinal = false := by
  unfold Program.liftsFinal
  rw [h, lifts_of P w h]
  show ((cutW == "carried".toList) && _ || false) = false
  rw [cut_carried]
  rfl
theorem enter_of (P : Program) (w : List (List Char)) (h : behindMainWord (wordsSigns P.initOrder.toList) = cutW :: w) (h1 : P.laysLater = false) (h2 : P.bearsReflect = false) (h3 : P.doorFits [] = true) : P.mayEnter = true := by
  unfold Program.mayEnter
  rw [h, h1, h2]
  show (_ || (((stripLifts liftWords (cutW :: w)).2.head? == some "cut".toList) && _ && _ && _ && P.doorFits (stripLifts liftWords (cutW :: w)).1)) = true
  rw [strip_cut, h3]
  simp
  exact .inr rfl
theorem later_no : Tryd.prog.laysLater = false := by kernel_rfl
theorem reflect_no : Tryd.prog.bearsReflect = false := by kernel_rfl
theorem door_fits : Tryd.prog.doorFits [] = true := by kernel_rfl
theorem prog_make : Tryd.prog.make = some .cut := make_of _ _ (head_main.trans head_cons)
theorem prog_final : Tryd.prog.liftsFinal = false := final_of _ _ (head_main.trans head_cons)
theorem prog_enter : Tryd.prog.mayEnter = true := enter_of _ _ (head_main.trans head_cons) later_no reflect_no door_fits
theorem prog_maps : mapsRowed Tryd.prog = true := by kernel_rfl
theorem prog_stops : (Tryd.prog.stops == []) = true := by kernel_rfl
theorem prog_knobs : (Tryd.prog.stopKnobs == []) = true := by kernel_rfl
theorem prog_keys : Tryd.prog.plainKeys = true := by kernel_rfl
theorem prog_heard : Tryd.prog.stopsHeard = true := by kernel_rfl
theorem and2 {a b : Bool} (h1 : a = true) (h2 : b = true) : (a && b) = true := by rw [h1, h2]; rfl
set_option maxRecDepth 100000 in
/-- A slice of numbers that came in. -/
theorem open_list {H : Type} {enc : TypeId × Value → H} {W : World} {r : Reach} {b0 : Nat} {v : Value} {d : DataW H} {p : List MemPlace} {spare : Nat → Bool} {held : Bool} (hv : Value.okWide Tryd.prog W r b0 36 v) (h : DataW.Trod enc Tryd.prog W 0 spare held 36 v d p) :
    ∃ (X : List Int) (a : Option Addr) (c : Nat), v = .slice a X.length c ∧ IntsAt W a X ∧ X.length ≤ maxLen := by
  obtain ⟨a0, len0, cap0, rfl⟩ := okWide_slice Tryd.underlying36 hv
  obtain ⟨fuel, hf⟩ := h
  have hc : (Value.slice a0 len0 cap0).cells.toList = [Value.slice a0 len0 cap0] := by simp [Value.cells]
  rw [hc] at hf
  obtain ⟨a, xs, c, he, h1, h2⟩ := intsAt_of_trod hf
  exact ⟨xs, a, c, he, h1, h2⟩
end Go.Proofs.YtlgiponfcmeiiaaDoor
