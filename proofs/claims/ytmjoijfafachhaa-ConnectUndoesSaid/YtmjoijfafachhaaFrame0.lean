/- The frame of a law's proof: a diagram among the arguments. -/
import Derived.Test.YtmjoijfafachhaaRows
import Derived.Test.YtmjoijfafachhaaBase
import Derived.ProofKit
import Derived.OpenShut
import Derived.ShutString
import Derived.ChangeOld
import Derived.Below
import Derived.Lib.SmallJoins
namespace Go.Proofs.Ytmjoijfafachhaa
open Go Go.RowKit Go.ChangeShapes Go.WideShapes Go.ChangeAt Go.Joins
theorem own : ownKnob Try.prog.godebug = none := by kernel_rfl
theorem laidOut : laidOutB Try.prog = true := by kernel_rfl
theorem cells24 : Try.prog.cellsOf 24 = 3 := by kernel_rfl
theorem intsAt_of_trod {H : Type} {enc : TypeId × Value → H} {W : World} {n : Nat} {v : Value} {y : DataW H × List MemPlace} {spare : Nat → Bool} {held : Bool} (h : DataW.trod enc Try.prog W 0 spare held n 22 [v] = some y) :
    ∃ a xs c, v = .slice a xs.length c ∧ IntsAt W a xs ∧ xs.length ≤ maxLen := by
  rcases open_ints Try.underlying22 Try.underlying3 (by kernel_rfl) h with ⟨hcs, _⟩ | ⟨x, l, c, zs, hcs, _, hl, hm, hz, _, hcell, hwz⟩
  · simp only [List.cons.injEq, and_true] at hcs
    exact ⟨none, [], 0, hcs, IntsAt.nil _ _, Nat.zero_le _⟩
  · simp only [List.cons.injEq, and_true] at hcs
    have hzl : l ≤ zs.length := by rw [hz]; split <;> omega
    have htl : (zs.take l).length = l := by rw [List.length_take]; omega
    refine ⟨some x, zs.take l, c, by rw [htl]; exact hcs, ?_, by omega⟩
    intro i u hu
    have hi : i < l := by
      have := (List.getElem?_eq_some_iff.1 hu).1
      rwa [ints_length, htl] at this
    rw [ints_get _ _ (by rw [htl]; exact hi)] at hu
    simp only [Option.some.injEq] at hu
    subst hu
    have hc := hcell i (by omega)
    have hc0 := hcell 0 (by omega)
    obtain ⟨b, off, spot⟩ := x
    have hspot : spot = none := by simpa [Addr.add] using World.cell?_spot hc0
    subst hspot
    rw [Addr.add_lit] at hc
    refine ⟨b, off, rfl, ?_⟩
    have hn : nth (zs.take l) i = zs.getD i 0 := by simp [nth, hi]
    rw [hn]
    exact hc
set_option maxRecDepth 100000 in
/-- A diagram that came in. -/
theorem open_diag {H : Type} {enc : TypeId × Value → H} {W : World} {r : Reach} {b0 : Nat} {v : Value} {d : DataW H} {p : List MemPlace} {spare : Nat → Bool} {held : Bool} (hv : Value.okWide Try.prog W r b0 24 v) (h : DataW.Trod enc Try.prog W 0 spare held 24 v d p) :
    ∃ (S M : List Int) (L : Int) (aS aM : Option Addr) (cS cM : Nat), v = .agg #[.slice aS S.length cS, .slice aM M.length cM, .int .i64 L] ∧ IntsAt W aS S ∧ IntsAt W aM M ∧ S.length ≤ maxLen ∧ M.length ≤ maxLen ∧ (Lit.int .i64 L).wf = true := by
  obtain ⟨c0, c1, c2, y0, y1, y2, m, rfl, _, _, hy0, hy1, hy2⟩ := open_agg3 Try.underlying24 (by kernel_rfl) cells24 hv h
  obtain ⟨a0, x0, k0, rfl, h0, l0⟩ := intsAt_of_trod hy0
  obtain ⟨a1, x1, k1, rfl, h1, l1⟩ := intsAt_of_trod hy1
  obtain ⟨L, e2, _, w2⟩ := DataW.trod_int Try.underlying3 hy2
  simp only [List.cons.injEq, and_true] at e2
  subst e2
  exact ⟨x0, x1, L, a0, a1, k0, k1, rfl, h0, h1, l0, l1, w2⟩
/-! ### The translation's head line: the closed facts that hang on it -/
set_option maxRecDepth 100000 in
def headText : String := "harness 8ae26bb5172ab802cc29fbfd27ae4e044aad63bce5f34ea093657a927034ea04 cut at unravel/unravellaw07.ConnectSplits unravel/unravellaw07.ConnectFactor unravel/unravellaw07.ConnectCuts unravel/unravellaw07.ConnectUndoes unravel/unravellaw07.ConnectFactors unravel/unravellaw07.ConnectNugatory unravel/unravellaw07.ConnectSums unravel/unravellaw07.ConnectAlternates unravel/unravellaw07.ConnectUnions"
theorem head_text : Try.prog.initOrder = headText := by kernel_rfl
def headSigns : List Char := [Char.ofNat 104, Char.ofNat 97, Char.ofNat 114, Char.ofNat 110, Char.ofNat 101, Char.ofNat 115, Char.ofNat 115, Char.ofNat 32, Char.ofNat 56, Char.ofNat 97, Char.ofNat 101, Char.ofNat 50, Char.ofNat 54, Char.ofNat 98, Char.ofNat 98, Char.ofNat 53, Char.ofNat 49, Char.ofNat 55, Char.ofNat 50, Char.ofNat 97, Char.ofNat 98, Char.ofNat 56, Char.ofNat 48, Char.ofNat 50, Char.ofNat 99, Char.ofNat 99, Char.ofNat 50, Char.ofNat 57, Char.ofNat 102, Char.ofNat 98, Char.ofNat 102, Char.ofNat 100, Char.ofNat 50, Char.ofNat 55, Char.ofNat 97, Char.ofNat 101, Char.ofNat 52, Char.ofNat 101, Char.ofNat 48, Char.ofNat 52, Char.ofNat 52, Char.ofNat 97, Char.ofNat 97, Char.ofNat 100, Char.ofNat 54, Char.ofNat 51, Char.ofNat 98, Char.ofNat 99, Char.ofNat 101, Char.ofNat 53, Char.ofNat 102, Char.ofNat 51, Char.ofNat 52, Char.ofNat 101, Char.ofNat 97, Char.ofNat 48, Char.ofNat 57, Char.ofNat 51, Char.ofNat 54, Char.ofNat 53, Char.ofNat 55, Char.ofNat 97, Char.ofNat 57, Char.ofNat 50, Char.ofNat 55, Char.ofNat 48, Char.ofNat 51, Char.ofNat 52, Char.ofNat 101, Char.ofNat 97, Char.ofNat 48, Char.ofNat 52, Char.ofNat 32, Char.ofNat 99, Char.ofNat 117, Char.ofNat 116, Char.ofNat 32, Char.ofNat 97, Char.ofNat 116, Char.ofNat 32, Char.ofNat 117, Char.ofNat 110, Char.ofNat 114, Char.ofNat 97, Char.ofNat 118, Char.ofNat 101, Char.ofNat 108, Char.ofNat 47, Char.ofNat 117, Char.ofNat 110, Char.ofNat 114, Char.ofNat 97, Char.ofNat 118, Char.ofNat 101, Char.ofNat 108, Char.ofNat 108, Char.ofNat 97, Char.ofNat 119, Char.ofNat 48, Char.ofNat 55, Char.ofNat 46, Char.ofNat 67, Char.ofNat 111, Char.ofNat 110, Char.ofNat 110, Char.ofNat 101, Char.ofNat 99, Char.ofNat 116, Char.ofNat 83, Char.ofNat 112, Char.ofNat 108, Char.ofNat 105, Char.ofNat 116, Char.ofNat 115, Char.ofNat 32, Char.ofNat 117, Char.ofNat 110, Char.ofNat 114, Char.ofNat 97, Char.ofNat 118, Char.ofNat 101, Char.ofNat 108, Char.ofNat 47, Char.ofNat 117, Char.ofNat 110, Char.ofNat 114, Char.ofNat 97, Char.ofNat 118, Char.ofNat 101, Char.ofNat 108, Char.ofNat 108, Char.ofNat 97, Char.ofNat 119, Char.ofNat 48, Char.ofNat 55, Char.ofNat 46, Char.ofNat 67, Char.ofNat 111, Char.ofNat 110, Char.ofNat 110, Char.ofNat 101, Char.ofNat 99, Char.ofNat 116, Char.ofNat 70, Char.ofNat 97, Char.ofNat 99, Char.ofNat 116, Char.ofNat 111, Char.ofNat 114, Char.ofNat 32, Char.ofNat 117, Char.ofNat 110, Char.ofNat 114, Char.ofNat 97, Char.ofNat 118, Char.ofNat 101, Char.ofNat 108, Char.ofNat 47, Char.ofNat 117, Char.ofNat 110, Char.ofNat 114, Char.ofNat 97, Char.ofNat 118, Char.ofNat 101, Char.ofNat 108, Char.ofNat 108, Char.ofNat 97, Char.ofNat 119, Char.ofNat 48, Char.ofNat 55, Char.ofNat 46, Char.ofNat 67, Char.ofNat 111, Char.ofNat 110, Char.ofNat 110, Char.ofNat 101, Char.ofNat 99, Char.ofNat 116, Char.ofNat 67, Char.ofNat 117, Char.ofNat 116, Char.ofNat 115, Char.ofNat 32, Char.ofNat 117, Char.ofNat 110, Char.ofNat 114, Char.ofNat 97, Char.ofNat 118, Char.ofNat 101, Char.ofNat 108, Char.ofNat 47, Char.ofNat 117, Char.ofNat 110, Char.ofNat 114, Char.ofNat 97, Char.ofNat 118, Char.ofNat 101, Char.ofNat 108, Char.ofNat 108, Char.ofNat 97, Char.ofNat 119, Char.ofNat 48, Char.ofNat 55, Char.ofNat 46, Char.ofNat 67, Char.ofNat 111, Char.ofNat 110, Char.ofNat 110, Char.ofNat 101, Char.ofNat 99, Char.ofNat 116, Char.ofNat 85, Char.ofNat 110, Char.ofNat 100, Char.ofNat 111, Char.ofNat 101, Char.ofNat 115, Char.ofNat 32, Char.ofNat 117, Char.ofNat 110, Char.ofNat 114, Char.ofNat 97, Char.ofNat 118, Char.ofNat 101, Char.ofNat 108, Char.ofNat 47, Char.ofNat 117, Char.ofNat 110, Char.ofNat 114, Char.ofNat 97, Char.ofNat 118, Char.ofNat 101, Char.ofNat 108, Char.ofNat 108, Char.ofNat 97, Char.ofNat 119, Char.ofNat 48, Char.ofNat 55, Char.ofNat 46, Char.ofNat 67, Char.ofNat 111, Char.ofNat 110, Char.ofNat 110, Char.ofNat 101, Char.ofNat 99, Char.ofNat 116, Char.ofNat 70, Char.ofNat 97, Char.ofNat 99, Char.ofNat 116, Char.ofNat 111, Char.ofNat 114, Char.ofNat 115, Char.ofNat 32, Char.ofNat 117, Char.ofNat 110, Char.ofNat 114, Char.ofNat 97, Char.ofNat 118, Char.ofNat 101, Char.ofNat 108, Char.ofNat 47, Char.ofNat 117, Char.ofNat 110, Char.ofNat 114, Char.ofNat 97, Char.ofNat 118, Char.ofNat 101, Char.ofNat 108, Char.ofNat 108, Char.ofNat 97, Char.ofNat 119, Char.ofNat 48, Char.ofNat 55, Char.ofNat 46, Char.ofNat 67, Char.ofNat 111, Char.ofNat 110, Char.ofNat 110, Char.ofNat 101, Char.ofNat 99, Char.ofNat 116, Char.ofNat 78, Char.ofNat 117, Char.ofNat 103, Char.ofNat 97, Char.ofNat 116, Char.ofNat 111, Char.ofNat 114, Char.ofNat 121, Char.ofNat 32, Char.ofNat 117, Char.ofNat 110, Char.ofNat 114, Char.ofNat 97, Char.ofNat 118, Char.ofNat 101, Char.ofNat 108, Char.ofNat 47, Char.ofNat 117, Char.ofNat 110, Char.ofNat 114, Char.ofNat 97, Char.ofNat 118, Char.ofNat 101, Char.ofNat 108, Char.ofNat 108, Char.ofNat 97, Char.ofNat 119, Char.ofNat 48, Char.ofNat 55, Char.ofNat 46, Char.ofNat 67, Char.ofNat 111, Char.ofNat 110, Char.ofNat 110, Char.ofNat 101, Char.ofNat 99, Char.ofNat 116, Char.ofNat 83, Char.ofNat 117, Char.ofNat 109, Char.ofNat 115, Char.ofNat 32, Char.ofNat 117, Char.ofNat 110, Char.ofNat 114, Char.ofNat 97, Char.ofNat 118, Char.ofNat 101, Char.ofNat 108, Char.ofNat 47, Char.ofNat 117, Char.ofNat 110, Char.ofNat 114, Char.ofNat 97, Char.ofNat 118, Char.ofNat 101, Char.ofNat 108, Char.ofNat 108, Char.ofNat 97, Char.ofNat 119, Char.ofNat 48, Char.ofNat 55, Char.ofNat 46, Char.ofNat 67, Char.ofNat 111, Char.ofNat 110, Char.ofNat 110, Char.ofNat 101, Char.ofNat 99, Char.ofNat 116, Char.ofNat 65, Char.ofNat 108, Char.ofNat 116, Char.ofNat 101, Char.ofNat 114, Char.ofNat 110, Char.ofNat 97, Char.ofNat 116, Char.ofNat 101, Char.ofNat 115, Char.ofNat 32, Char.ofNat 117, Char.ofNat 110, Char.ofNat 114, Char.ofNat 97, Char.ofNat 118, Char.ofNat 101, Char.ofNat 108, Char.ofNat 47, Char.ofNat 117, Char.ofNat 110, Char.ofNat 114, Char.ofNat 97, Char.ofNat 118, Char.ofNat 101, Char.ofNat 108, Char.ofNat 108, Char.ofNat 97, Char.ofNat 119, Char.ofNat 48, Char.ofNat 55, Char.ofNat 46, Char.ofNat 67, Char.ofNat 111, Char.ofNat 110, Char.ofNat 110, Char.ofNat 101, Char.ofNat 99, Char.ofNat 116, Char.ofNat 85, Char.ofNat 110, Char.ofNat 105, Char.ofNat 111, Char.ofNat 110, Char.ofNat 115]
theorem head_of : headText = String.ofList headSigns := by kernel_rfl
theorem head_signs : headText.toList = headSigns := by rw [head_of, String.toList_ofList]
def headWords : List (List Char) := [[Char.ofNat 99, Char.ofNat 117, Char.ofNat 116], [Char.ofNat 97, Char.ofNat 116], [Char.ofNat 117, Char.ofNat 110, Char.ofNat 114, Char.ofNat 97, Char.ofNat 118, Char.ofNat 101, Char.ofNat 108, Char.ofNat 47, Char.ofNat 117, Char.ofNat 110, Char.ofNat 114, Char.ofNat 97, Char.ofNat 118, Char.ofNat 101, Char.ofNat 108, Char.ofNat 108, Char.ofNat 97, Char.ofNat 119, Char.ofNat 48, Char.ofNat 55, Char.ofNat 46, Char.ofNat 67, Char.ofNat 111, Char.ofNat 110, Char.ofNat 110, Char.ofNat 101, Char.ofNat 99, Char.ofNat 116, Char.ofNat 83, Char.ofNat 112, Char.ofNat 108, Char.ofNat 105, Char.ofNat 116, Char.ofNat 115], [Char.ofNat 117, Char.ofNat 110, Char.ofNat 114, Char.ofNat 97, Char.ofNat 118, Char.ofNat 101, Char.ofNat 108, Char.ofNat 47, Char.ofNat 117, Char.ofNat 110, Char.ofNat 114, Char.ofNat 97, Char.ofNat 118, Char.ofNat 101, Char.ofNat 108, Char.ofNat 108, Char.ofNat 97, Char.ofNat 119, Char.ofNat 48, Char.ofNat 55, Char.ofNat 46, Char.ofNat 67, Char.ofNat 111, Char.ofNat 110, Char.ofNat 110, Char.ofNat 101, Char.ofNat 99, Char.ofNat 116, Char.ofNat 70, Char.ofNat 97, Char.ofNat 99, Char.ofNat 116, Char.ofNat 111, Char.ofNat 114], [Char.ofNat 117, Char.ofNat 110, Char.ofNat 114, Char.ofNat 97, Char.ofNat 118, Char.ofNat 101, Char.ofNat 108, Char.ofNat 47, Char.ofNat 117, Char.ofNat 110, Char.ofNat 114, Char.ofNat 97, Char.ofNat 118, Char.ofNat 101, Char.ofNat 108, Char.ofNat 108, Char.ofNat 97, Char.ofNat 119, Char.ofNat 48, Char.ofNat 55, Char.ofNat 46, Char.ofNat 67, Char.ofNat 111, Char.ofNat 110, Char.ofNat 110, Char.ofNat 101, Char.ofNat 99, Char.ofNat 116, Char.ofNat 67, Char.ofNat 117, Char.ofNat 116, Char.ofNat 115], [Char.ofNat 117, Char.ofNat 110, Char.ofNat 114, Char.ofNat 97, Char.ofNat 118, Char.ofNat 101, Char.ofNat 108, Char.ofNat 47, Char.ofNat 117, Char.ofNat 110, Char.ofNat 114, Char.ofNat 97, Char.ofNat 118, Char.ofNat 101, Char.ofNat 108, Char.ofNat 108, Char.ofNat 97, Char.ofNat 119, Char.ofNat 48, Char.ofNat 55, Char.ofNat 46, Char.ofNat 67, Char.ofNat 111, Char.ofNat 110, Char.ofNat 110, Char.ofNat 101, Char.ofNat 99, Char.ofNat 116, Char.ofNat 85, Char.ofNat 110, Char.ofNat 100, Char.ofNat 111, Char.ofNat 101, Char.ofNat 115], [Char.ofNat 117, Char.ofNat 110, Char.ofNat 114, Char.ofNat 97, Char.ofNat 118, Char.ofNat 101, Char.ofNat 108, Char.ofNat 47, Char.ofNat 117, Char.ofNat 110, Char.ofNat 114, Char.ofNat 97, Char.ofNat 118, Char.ofNat 101, Char.ofNat 108, Char.ofNat 108, Char.ofNat 97, Char.ofNat 119, Char.ofNat 48, Char.ofNat 55, Char.ofNat 46, Char.ofNat 67, Char.ofNat 111, Char.ofNat 110, Char.ofNat 110, Char.ofNat 101, Char.ofNat 99, Char.ofNat 116, Char.ofNat 70, Char.ofNat 97, Char.ofNat 99, Char.ofNat 116, Char.ofNat 111, Char.ofNat 114, Char.ofNat 115], [Char.ofNat 117, Char.ofNat 110, Char.ofNat 114, Char.ofNat 97, Char.ofNat 118, Char.ofNat 101, Char.ofNat 108, Char.ofNat 47, Char.ofNat 117, Char.ofNat 110, Char.ofNat 114, Char.ofNat 97, Char.ofNat 118, Char.ofNat 101, Char.ofNat 108, Char.ofNat 108, Char.ofNat 97, Char.ofNat 119, Char.ofNat 48, Char.ofNat 55, Char.ofNat 46, Char.ofNat 67, Char.ofNat 111, Char.ofNat 110, Char.ofNat 110, Char.ofNat 101, Char.ofNat 99, Char.ofNat 116, Char.ofNat 78, Char.ofNat 117, Char.ofNat 103, Char.ofNat 97, Char.ofNat 116, Char.ofNat 111, Char.ofNat 114, Char.ofNat 121], [Char.ofNat 117, Char.ofNat 110, Char.ofNat 114, Char.ofNat 97, Char.ofNat 118, Char.ofNat 101, Char.ofNat 108, Char.ofNat 47, Char.ofNat 117, Char.ofNat 110, Char.ofNat 114, Char.ofNat 97, Char.ofNat 118, Char.ofNat 101, Char.ofNat 108, Char.ofNat 108, Char.ofNat 97, Char.ofNat 119, Char.ofNat 48, Char.ofNat 55, Char.ofNat 46, Char.ofNat 67, Char.ofNat 111, Char.ofNat 110, Char.ofNat 110, Char.ofNat 101, Char.ofNat 99, Char.ofNat 116, Char.ofNat 83, Char.ofNat 117, Char.ofNat 109, Char.ofNat 115], [Char.ofNat 117, Char.ofNat 110, Char.ofNat 114, Char.ofNat 97, Char.ofNat 118, Char.ofNat 101, Char.ofNat 108, Char.ofNat 47, Char.ofNat 117, Char.ofNat 110, Char.ofNat 114, Char.ofNat 97, Char.ofNat 118, Char.ofNat 101, Char.ofNat 108, Char.ofNat 108, Char.ofNat 97, Char.ofNat 119, Char.ofNat 48, Char.ofNat 55, Char.ofNat 46, Char.ofNat 67, Char.ofNat 111, Char.ofNat 110, Char.ofNat 110, Char.ofNat 101, Char.ofNat 99, Char.ofNat 116, Char.ofNat 65, Char.ofNat 108, Char.ofNat 116, Char.ofNat 101, Char.ofNat 114, Char.ofNat 110, Char.ofNat 97, Char.ofNat 116, Char.ofNat 101, Char.ofNat 115], [Char.ofNat 117, Char.ofNat 110, Char.ofNat 114, Char.ofNat 97, Char.ofNat 118, Char.ofNat 101, Char.ofNat 108, Char.ofNat 47, Char.ofNat 117, Char.ofNat 110, Char.ofNat 114, Char.ofNat 97, Char.ofNat 118, Char.ofNat 101, Char.ofNat 108, Char.ofNat 108, Char.ofNat 97, Char.ofNat 119, Char.ofNat 48, Char.ofNat 55, Char.ofNat 46, Char.ofNat 67, Char.ofNat 111, Char.ofNat 110, Char.ofNat 110, Char.ofNat 101, Char.ofNat 99, Char.ofNat 116, Char.ofNat 85, Char.ofNat 110, Char.ofNat 105, Char.ofNat 111, Char.ofNat 110, Char.ofNat 115]]
theorem head_words : behindMainWord (wordsSigns headSigns) = headWords := by kernel_rfl
theorem head_main : behindMainWord (wordsSigns Try.prog.initOrder.toList) = headWords := by rw [head_text, head_signs, head_words]
def cutW : List Char := [Char.ofNat 99, Char.ofNat 117, Char.ofNat 116]
theorem head_cons : headWords = cutW :: headWords.tail := by kernel_rfl
theorem cut_first : (cutW == "gc".toList || cutW == "spec".toList) = false := by kernel_rfl
theorem cut_is : (cutW == "cut".toList) = true := by kernel_rfl
theorem cut_carried : (cutW == "carried".toList) = false := by kernel_rfl
theorem strip_cut (w : List (List Char)) : stripLifts liftWords (cutW :: w) = ([], cutW :: w) := by kernel_rfl
theorem make_of (P : Program) (w : List (List Char)) (h : behindMainWord (wordsSigns P.initOrder.toList) = cutW :: w) : P.make = some .cut := by
  unfold Program.make
  rw [h]
  show (if (cutW == "gc".toList || cutW == "spec".toList) = true then some Make.whole else if (cutW == "cut".toList || (cutW == "finals".toList && w.head? == some "cut".toList)) = true then some Make.cut else _) = _
  rw [cut_first, cut_is]
  rfl
theorem lifts_of (P : Program) (w : List (List Char)) (h : behindMainWord (wordsSigns P.initOrder.toList) = cutW :: w) : P.headLifts = [] := by
  unfold Program.headLifts
  rw [h, strip_cut]
  show (if (some cutW == some "cut".toList) = true then [] else []) = []
  split <;> rfl
theorem final_of (P : Program) (w : List (List Char)) (h : behindMainWord (wordsSigns P.initOrder.toList) = cutW :: w) : P.liftsFinal = false := by
  unfold Program.liftsFinal
  rw [h, lifts_of P w h]
  show ((cutW == "carried".toList) && _ || false) = false
  rw [cut_carried]
  rfl
theorem enter_of (P : Program) (w : List (List Char)) (h : behindMainWord (wordsSigns P.initOrder.toList) = cutW :: w) (h1 : P.laysLater = false) (h2 : P.bearsReflect = false) (h3 : P.doorFits [] = true) : P.mayEnter = true := by
  unfold Program.mayEnter
  rw [h, h1, h2]
  show (_ || (((stripLifts liftWords (cutW :: w)).2.head? == some "cut".toList) && _ && _ && _ && P.doorFits (stripLifts liftWords (cutW :: w)).1)) = true
  rw [strip_cut, h3]
  simp
  exact .inr rfl
theorem later_no : Try.prog.laysLater = false := by kernel_rfl
theorem reflect_no : Try.prog.bearsReflect = false := by kernel_rfl
theorem door_fits : Try.prog.doorFits [] = true := by kernel_rfl
theorem prog_make : Try.prog.make = some .cut := make_of _ _ (head_main.trans head_cons)
theorem prog_final : Try.prog.liftsFinal = false := final_of _ _ (head_main.trans head_cons)
theorem prog_enter : Try.prog.mayEnter = true := enter_of _ _ (head_main.trans head_cons) later_no reflect_no door_fits
theorem prog_maps : mapsRowed Try.prog = true := by kernel_rfl
theorem prog_stops : (Try.prog.stops == []) = true := by kernel_rfl
theorem prog_knobs : (Try.prog.stopKnobs == []) = true := by kernel_rfl
theorem prog_keys : Try.prog.plainKeys = true := by kernel_rfl
theorem prog_heard : Try.prog.stopsHeard = true := by kernel_rfl
theorem and2 {a b : Bool} (h1 : a = true) (h2 : b = true) : (a && b) = true := by rw [h1, h2]; rfl
set_option maxRecDepth 100000 in
/-- A slice of numbers that came in. -/
theorem open_list {H : Type} {enc : TypeId × Value → H} {W : World} {r : Reach} {b0 : Nat} {v : Value} {d : DataW H} {p : List MemPlace} {spare : Nat → Bool} {held : Bool} (hv : Value.okWide Try.prog W r b0 22 v) (h : DataW.Trod enc Try.prog W 0 spare held 22 v d p) :
    ∃ (X : List Int) (a : Option Addr) (c : Nat), v = .slice a X.length c ∧ IntsAt W a X ∧ X.length ≤ maxLen := by
  obtain ⟨a0, len0, cap0, rfl⟩ := okWide_slice Try.underlying22 hv
  obtain ⟨fuel, hf⟩ := h
  have hc : (Value.slice a0 len0 cap0).cells.toList = [Value.slice a0 len0 cap0] := by simp [Value.cells]
  rw [hc] at hf
  obtain ⟨a, xs, c, he, h1, h2⟩ := intsAt_of_trod hf
  exact ⟨xs, a, c, he, h1, h2⟩
end Go.Proofs.Ytmjoijfafachhaa
