/- The frame of a law's proof: a diagram among the arguments. Plain: the lexicographic comparison of lists of integers. -/
import Derived.Test.YtmhhjchnjaefhaaDoorRows
import Derived.ProofKit
import Derived.OpenShut
import Derived.ShutString
import Derived.ChangeOld
import Derived.Below
import Derived.Lib.SmallJoins
import Derived.WalkKit
import Derived.WalkSpells
import Derived.WalkLawsBesides
import Derived.Deep.AppendSrc
import Derived.Deep.LoopGhost
import Derived.Deep.QuietTactic
import Derived.Deep.RegionWith
import Derived.Deep.DeepMust
import Derived.Deep.DeepFit
import Derived.BigQuiet
import Derived.Lib.Hide
import Derived.Outline
import Derived.Test.YtmhhjchnjaefhaaDoorFbAa
namespace Go.Proofs.YtmhhjchnjaefhaaDoor
open Go Go.RowKit Go.ChangeShapes Go.WideShapes Go.ChangeAt Go.Joins
theorem own : ownKnob Tryd.prog.godebug = none := by kernel_rfl
theorem laidOut : laidOutB Tryd.prog = true := by kernel_rfl
theorem cells24 : Tryd.prog.cellsOf 24 = 3 := by kernel_rfl
theorem intsAt_of_trod {H : Type} {enc : TypeId × Value → H} {W : World} {n : Nat} {v : Value} {y : DataW H × List MemPlace} {spare : Nat → Bool} {held : Bool} (h : DataW.trod enc Tryd.prog W 0 spare held n 22 [v] = some y) :
    ∃ a xs c, v = .slice a xs.length c ∧ IntsAt W a xs ∧ xs.length ≤ maxLen := by
  rcases open_ints Tryd.underlying22 Tryd.underlying3 (by kernel_rfl) h with ⟨hcs, _⟩ | ⟨x, l, c, zs, hcs, _, hl, hm, hz, _, hcell, hwz⟩
  · simp only [List.cons.injEq, and_true] at hcs
    exact ⟨none, [], 0, hcs, IntsAt.nil _ _, Nat.zero_le _⟩
  · simp only [List.cons.injEq, and_true] at hcs
    have hzl : l ≤ zs.length := by rw [hz]; split <;> omega
    have htl : (zs.take l).length = l := by rw [List.length_take]; omega
    refine ⟨some x, zs.take l, c, by rw [htl]; exact hcs, ?_, by omega⟩
    intro i u hu
    have hi : i < l := by
      have := (List.getElem?_eq_some_iff.1 hu).1
      rwa [ints_length, htl] at this
    rw [ints_get _ _ (by rw [htl]; exact hi)] at hu
    simp only [Option.some.injEq] at hu
    subst hu
    have hc := hcell i (by omega)
    have hc0 := hcell 0 (by omega)
    obtain ⟨b, off, spot⟩ := x
    have hspot : spot = none := by simpa [Addr.add] using World.cell?_spot hc0
    subst hspot
    rw [Addr.add_lit] at hc
    refine ⟨b, off, rfl, ?_⟩
    have hn : nth (zs.take l) i = zs.getD i 0 := by simp [nth, hi]
    rw [hn]
    exact hc
set_option maxRecDepth 100000 in
/-- A diagram that came in. -/
theorem open_diag {H : Type} {enc : TypeId × Value → H} {W : World} {r : Reach} {b0 : Nat} {v : Value} {d : DataW H} {p : List MemPlace} {spare : Nat → Bool} {held : Bool} (hv : Value.okWide Tryd.prog W r b0 24 v) (h : DataW.Trod enc Tryd.prog W 0 spare held 24 v d p) :
    ∃ (S M : List Int) (L : Int) (aS aM : Option Addr) (cS cM : Nat), v = .agg #[.slice aS S.length cS, .slice aM M.length cM, .int .i64 L] ∧ IntsAt W aS S ∧ IntsAt W aM M ∧ S.length ≤ maxLen ∧ M.length ≤ maxLen ∧ (Lit.int .i64 L).wf = true := by
  obtain ⟨c0, c1, c2, y0, y1, y2, m, rfl, _, _, hy0, hy1, hy2⟩ := open_agg3 Tryd.underlying24 (by kernel_rfl) cells24 hv h
  obtain ⟨a0, x0, k0, rfl, h0, l0⟩ := intsAt_of_trod hy0
  obtain ⟨a1, x1, k1, rfl, h1, l1⟩ := intsAt_of_trod hy1
  obtain ⟨L, e2, _, w2⟩ := DataW.trod_int Tryd.underlying3 hy2
  simp only [List.cons.injEq, and_true] at e2
  subst e2
  exact ⟨x0, x1, L, a0, a1, k0, k1, rfl, h0, h1, l0, l1, w2⟩
set_option maxRecDepth 100000 in
def headText : String := "harness ecca1c5326bbd5663b8762b21df597a0e1f6b3c513ffeef2692957e3ec8b1300 cut at unravel/unravellaw05.CanonSame unravel/unravellaw05.CanonSymmetries unravel/unravellaw05.CanonComplete unravel/unravellaw05.CanonCodes unravel/unravellaw05.CanonInvariant unravel/unravellaw05.CanonLoops unravel/unravellaw05.CanonParts unravel/unravellaw05.CanonIdempotent"
theorem head_text : Tryd.prog.initOrder = headText := by kernel_rfl
def headSigns : List Char := [Char.ofNat 104, Char.ofNat 97, Char.ofNat 114, Char.ofNat 110, Char.ofNat 101, Char.ofNat 115, Char.ofNat 115, Char.ofNat 32, Char.ofNat 101, Char.ofNat 99, Char.ofNat 99, Char.ofNat 97, Char.ofNat 49, Char.ofNat 99, Char.ofNat 53, Char.ofNat 51, Char.ofNat 50, Char.ofNat 54, Char.ofNat 98, Char.ofNat 98, Char.ofNat 100, Char.ofNat 53, Char.ofNat 54, Char.ofNat 54, Char.ofNat 51, Char.ofNat 98, Char.ofNat 56, Char.ofNat 55, Char.ofNat 54, Char.ofNat 50, Char.ofNat 98, Char.ofNat 50, Char.ofNat 49, Char.ofNat 100, Char.ofNat 102, Char.ofNat 53, Char.ofNat 57, Char.ofNat 55, Char.ofNat 97, Char.ofNat 48, Char.ofNat 101, Char.ofNat 49, Char.ofNat 102, Char.ofNat 54, Char.ofNat 98, Char.ofNat 51, Char.ofNat 99, Char.ofNat 53, Char.ofNat 49, Char.ofNat 51, Char.ofNat 102, Char.ofNat 102, Char.ofNat 101, Char.ofNat 101, Char.ofNat 102, Char.ofNat 50, Char.ofNat 54, Char.ofNat 57, Char.ofNat 50, Char.ofNat 57, Char.ofNat 53, Char.ofNat 55, Char.ofNat 101, Char.ofNat 51, Char.ofNat 101, Char.ofNat 99, Char.ofNat 56, Char.ofNat 98, Char.ofNat 49, Char.ofNat 51, Char.ofNat 48, Char.ofNat 48, Char.ofNat 32, Char.ofNat 99, Char.ofNat 117, Char.ofNat 116, Char.ofNat 32, Char.ofNat 97, Char.ofNat 116, Char.ofNat 32, Char.ofNat 117, Char.ofNat 110, Char.ofNat 114, Char.ofNat 97, Char.ofNat 118, Char.ofNat 101, Char.ofNat 108, Char.ofNat 47, Char.ofNat 117, Char.ofNat 110, Char.ofNat 114, Char.ofNat 97, Char.ofNat 118, Char.ofNat 101, Char.ofNat 108, Char.ofNat 108, Char.ofNat 97, Char.ofNat 119, Char.ofNat 48, Char.ofNat 53, Char.ofNat 46, Char.ofNat 67, Char.ofNat 97, Char.ofNat 110, Char.ofNat 111, Char.ofNat 110, Char.ofNat 83, Char.ofNat 97, Char.ofNat 109, Char.ofNat 101, Char.ofNat 32, Char.ofNat 117, Char.ofNat 110, Char.ofNat 114, Char.ofNat 97, Char.ofNat 118, Char.ofNat 101, Char.ofNat 108, Char.ofNat 47, Char.ofNat 117, Char.ofNat 110, Char.ofNat 114, Char.ofNat 97, Char.ofNat 118, Char.ofNat 101, Char.ofNat 108, Char.ofNat 108, Char.ofNat 97, Char.ofNat 119, Char.ofNat 48, Char.ofNat 53, Char.ofNat 46, Char.ofNat 67, Char.ofNat 97, Char.ofNat 110, Char.ofNat 111, Char.ofNat 110, Char.ofNat 83, Char.ofNat 121, Char.ofNat 109, Char.ofNat 109, Char.ofNat 101, Char.ofNat 116, Char.ofNat 114, Char.ofNat 105, Char.ofNat 101, Char.ofNat 115, Char.ofNat 32, Char.ofNat 117, Char.ofNat 110, Char.ofNat 114, Char.ofNat 97, Char.ofNat 118, Char.ofNat 101, Char.ofNat 108, Char.ofNat 47, Char.ofNat 117, Char.ofNat 110, Char.ofNat 114, Char.ofNat 97, Char.ofNat 118, Char.ofNat 101, Char.ofNat 108, Char.ofNat 108, Char.ofNat 97, Char.ofNat 119, Char.ofNat 48, Char.ofNat 53, Char.ofNat 46, Char.ofNat 67, Char.ofNat 97, Char.ofNat 110, Char.ofNat 111, Char.ofNat 110, Char.ofNat 67, Char.ofNat 111, Char.ofNat 109, Char.ofNat 112, Char.ofNat 108, Char.ofNat 101, Char.ofNat 116, Char.ofNat 101, Char.ofNat 32, Char.ofNat 117, Char.ofNat 110, Char.ofNat 114, Char.ofNat 97, Char.ofNat 118, Char.ofNat 101, Char.ofNat 108, Char.ofNat 47, Char.ofNat 117, Char.ofNat 110, Char.ofNat 114, Char.ofNat 97, Char.ofNat 118, Char.ofNat 101, Char.ofNat 108, Char.ofNat 108, Char.ofNat 97, Char.ofNat 119, Char.ofNat 48, Char.ofNat 53, Char.ofNat 46, Char.ofNat 67, Char.ofNat 97, Char.ofNat 110, Char.ofNat 111, Char.ofNat 110, Char.ofNat 67, Char.ofNat 111, Char.ofNat 100, Char.ofNat 101, Char.ofNat 115, Char.ofNat 32, Char.ofNat 117, Char.ofNat 110, Char.ofNat 114, Char.ofNat 97, Char.ofNat 118, Char.ofNat 101, Char.ofNat 108, Char.ofNat 47, Char.ofNat 117, Char.ofNat 110, Char.ofNat 114, Char.ofNat 97, Char.ofNat 118, Char.ofNat 101, Char.ofNat 108, Char.ofNat 108, Char.ofNat 97, Char.ofNat 119, Char.ofNat 48, Char.ofNat 53, Char.ofNat 46, Char.ofNat 67, Char.ofNat 97, Char.ofNat 110, Char.ofNat 111, Char.ofNat 110, Char.ofNat 73, Char.ofNat 110, Char.ofNat 118, Char.ofNat 97, Char.ofNat 114, Char.ofNat 105, Char.ofNat 97, Char.ofNat 110, Char.ofNat 116, Char.ofNat 32, Char.ofNat 117, Char.ofNat 110, Char.ofNat 114, Char.ofNat 97, Char.ofNat 118, Char.ofNat 101, Char.ofNat 108, Char.ofNat 47, Char.ofNat 117, Char.ofNat 110, Char.ofNat 114, Char.ofNat 97, Char.ofNat 118, Char.ofNat 101, Char.ofNat 108, Char.ofNat 108, Char.ofNat 97, Char.ofNat 119, Char.ofNat 48, Char.ofNat 53, Char.ofNat 46, Char.ofNat 67, Char.ofNat 97, Char.ofNat 110, Char.ofNat 111, Char.ofNat 110, Char.ofNat 76, Char.ofNat 111, Char.ofNat 111, Char.ofNat 112, Char.ofNat 115, Char.ofNat 32, Char.ofNat 117, Char.ofNat 110, Char.ofNat 114, Char.ofNat 97, Char.ofNat 118, Char.ofNat 101, Char.ofNat 108, Char.ofNat 47, Char.ofNat 117, Char.ofNat 110, Char.ofNat 114, Char.ofNat 97, Char.ofNat 118, Char.ofNat 101, Char.ofNat 108, Char.ofNat 108, Char.ofNat 97, Char.ofNat 119, Char.ofNat 48, Char.ofNat 53, Char.ofNat 46, Char.ofNat 67, Char.ofNat 97, Char.ofNat 110, Char.ofNat 111, Char.ofNat 110, Char.ofNat 80, Char.ofNat 97, Char.ofNat 114, Char.ofNat 116, Char.ofNat 115, Char.ofNat 32, Char.ofNat 117, Char.ofNat 110, Char.ofNat 114, Char.ofNat 97, Char.ofNat 118, Char.ofNat 101, Char.ofNat 108, Char.ofNat 47, Char.ofNat 117, Char.ofNat 110, Char.ofNat 114, Char.ofNat 97, Char.ofNat 118, Char.ofNat 101, Char.ofNat 108, Char.ofNat 108, Char.ofNat 97, Char.ofNat 119, Char.ofNat 48, Char.ofNat 53, Char.ofNat 46, Char.ofNat 67, Char.ofNat 97, Char.ofNat 110, Char.ofNat 111, Char.ofNat 110, Char.ofNat 73, Char.ofNat 100, Char.ofNat 101, Char.ofNat 109, Char.ofNat 112, Char.ofNat 111, Char.ofNat 116, Char.ofNat 101, Char.ofNat 110, Char.ofNat 116]
theorem head_of : headText = String.ofList headSigns := by kernel_rfl
theorem head_signs : headText.toList = headSigns := by rw [head_of, String.toList_ofList]
def headWords : List (List Char) := [[Char.ofNat 99, Char.ofNat 117, Char.ofNat 116], [Char.ofNat 97, Char.ofNat 116], [Char.ofNat 117, Char.ofNat 110, Char.ofNat 114, Char.ofNat 97, Char.ofNat 118, Char.ofNat 101, Char.ofNat 108, Char.ofNat 47, Char.ofNat 117, Char.ofNat 110, Char.ofNat 114, Char.ofNat 97, Char.ofNat 118, Char.ofNat 101, Char.ofNat 108, Char.ofNat 108, Char.ofNat 97, Char.ofNat 119, Char.ofNat 48, Char.ofNat 53, Char.ofNat 46, Char.ofNat 67, Char.ofNat 97, Char.ofNat 110, Char.ofNat 111, Char.ofNat 110, Char.ofNat 83, Char.ofNat 97, Char.ofNat 109, Char.ofNat 101], [Char.ofNat 117, Char.ofNat 110, Char.ofNat 114, Char.ofNat 97, Char.ofNat 118, Char.ofNat 101, Char.ofNat 108, Char.ofNat 47, Char.ofNat 117, Char.ofNat 110, Char.ofNat 114, Char.ofNat 97, Char.ofNat 118, Char.ofNat 101, Char.ofNat 108, Char.ofNat 108, Char.ofNat 97, Char.ofNat 119, Char.ofNat 48, Char.ofNat 53, Char.ofNat 46, Char.ofNat 67, Char.ofNat 97, Char.ofNat 110, Char.ofNat 111, Char.ofNat 110, Char.ofNat 83, Char.ofNat 121, Char.ofNat 109, Char.ofNat 109, Char.ofNat 101, Char.ofNat 116, Char.ofNat 114, Char.ofNat 105, Char.ofNat 101, Char.ofNat 115], [Char.ofNat 117, Char.ofNat 110, Char.ofNat 114, Char.ofNat 97, Char.ofNat 118, Char.ofNat 101, Char.ofNat 108, Char.ofNat 47, Char.ofNat 117, Char.ofNat 110, Char.ofNat 114, Char.ofNat 97, Char.ofNat 118, Char.ofNat 101, Char.ofNat 108, Char.ofNat 108, Char.ofNat 97, Char.ofNat 119, Char.ofNat 48, Char.ofNat 53, Char.ofNat 46, Char.ofNat 67, Char.ofNat 97, Char.ofNat 110, Char.ofNat 111, Char.ofNat 110, Char.ofNat 67, Char.ofNat 111, Char.ofNat 109, Char.ofNat 112, Char.ofNat 108, Char.ofNat 101, Char.ofNat 116, Char.ofNat 101], [Char.ofNat 117, Char.ofNat 110, Char.ofNat 114, Char.ofNat 97, Char.ofNat 118, Char.ofNat 101, Char.ofNat 108, Char.ofNat 47, Char.ofNat 117, Char.ofNat 110, Char.ofNat 114, Char.ofNat 97, Char.ofNat 118, Char.ofNat 101, Char.ofNat 108, Char.ofNat 108, Char.ofNat 97, Char.ofNat 119, Char.ofNat 48, Char.ofNat 53, Char.ofNat 46, Char.ofNat 67, Char.ofNat 97, Char.ofNat 110, Char.ofNat 111, Char.ofNat 110, Char.ofNat 67, Char.ofNat 111, Char.ofNat 100, Char.ofNat 101, Char.ofNat 115], [Char.ofNat 117, Char.ofNat 110, Char.ofNat 114, Char.ofNat 97, Char.ofNat 118, Char.ofNat 101, Char.ofNat 108, Char.ofNat 47, Char.ofNat 117, Char.ofNat 110, Char.ofNat 114, Char.ofNat 97, Char.ofNat 118, Char.ofNat 101, Char.ofNat 108, Char.ofNat 108, Char.ofNat 97, Char.ofNat 119, Char.ofNat 48, Char.ofNat 53, Char.ofNat 46, Char.ofNat 67, Char.ofNat 97, Char.ofNat 110, Char.ofNat 111, Char.ofNat 110, Char.ofNat 73, Char.ofNat 110, Char.ofNat 118, Char.ofNat 97, Char.ofNat 114, Char.ofNat 105, Char.ofNat 97, Char.ofNat 110, Char.ofNat 116], [Char.ofNat 117, Char.ofNat 110, Char.ofNat 114, Char.ofNat 97, Char.ofNat 118, Char.ofNat 101, Char.ofNat 108, Char.ofNat 47, Char.ofNat 117, Char.ofNat 110, Char.ofNat 114, Char.ofNat 97, Char.ofNat 118, Char.ofNat 101, Char.ofNat 108, Char.ofNat 108, Char.ofNat 97, Char.ofNat 119, Char.ofNat 48, Char.ofNat 53, Char.ofNat 46, Char.ofNat 67, Char.ofNat 97, Char.ofNat 110, Char.ofNat 111, Char.ofNat 110, Char.ofNat 76, Char.ofNat 111, Char.ofNat 111, Char.ofNat 112, Char.ofNat 115], [Char.ofNat 117, Char.ofNat 110, Char.ofNat 114, Char.ofNat 97, Char.ofNat 118, Char.ofNat 101, Char.ofNat 108, Char.ofNat 47, Char.ofNat 117, Char.ofNat 110, Char.ofNat 114, Char.ofNat 97, Char.ofNat 118, Char.ofNat 101, Char.ofNat 108, Char.ofNat 108, Char.ofNat 97, Char.ofNat 119, Char.ofNat 48, Char.ofNat 53, Char.ofNat 46, Char.ofNat 67, Char.ofNat 97, Char.ofNat 110, Char.ofNat 111, Char.ofNat 110, Char.ofNat 80, Char.ofNat 97, Char.ofNat 114, Char.ofNat 116, Char.ofNat 115], [Char.ofNat 117, Char.ofNat 110, Char.ofNat 114, Char.ofNat 97, Char.ofNat 118, Char.ofNat 101, Char.ofNat 108, Char.ofNat 47, Char.ofNat 117, Char.ofNat 110, Char.ofNat 114, Char.ofNat 97, Char.ofNat 118, Char.ofNat 101, Char.ofNat 108, Char.ofNat 108, Char.ofNat 97, Char.ofNat 119, Char.ofNat 48, Char.ofNat 53, Char.ofNat 46, Char.ofNat 67, Char.ofNat 97, Char.ofNat 110, Char.ofNat 111, Char.ofNat 110, Char.ofNat 73, Char.ofNat 100, Char.ofNat 101, Char.ofNat 109, Char.ofNat 112, Char.ofNat 111, Char.ofNat 116, Char.ofNat 101, Char.ofNat 110, Char.ofNat 116]]
theorem head_words : behindMainWord (wordsSigns headSigns) = headWords := by kernel_rfl
theorem head_main : behindMainWord (wordsSigns Tryd.prog.initOrder.toList) = headWords := by rw [head_text, head_signs, head_words]
def cutW : List Char := [Char.ofNat 99, Char.ofNat 117, Char.ofNat 116]
theorem head_cons : headWords = cutW :: headWords.tail := by kernel_rfl
theorem cut_first : (cutW == "gc".toList || cutW == "spec".toList) = false := by kernel_rfl
theorem cut_is : (cutW == "cut".toList) = true := by kernel_rfl
theorem cut_carried : (cutW == "carried".toList) = false := by kernel_rfl
theorem strip_cut (w : List (List Char)) : stripLifts liftWords (cutW :: w) = ([], cutW :: w) := by kernel_rfl
theorem make_of (P : Program) (w : List (List Char)) (h : behindMainWord (wordsSigns P.initOrder.toList) = cutW :: w) : P.make = some .cut := by
  unfold Program.make
  rw [h]
  show (if (cutW == "gc".toList || cutW == "spec".toList) = true then some Make.whole else if (cutW == "cut".toList || (cutW == "finals".toList && w.head? == some "cut".toList)) = true then some Make.cut else _) = _
  rw [cut_first, cut_is]
  rfl
theorem lifts_of (P : Program) (w : List (List Char)) (h : behindMainWord (wordsSigns P.initOrder.toList) = cutW :: w) : P.headLifts = [] := by
  unfold Program.headLifts
  rw [h, strip_cut]
  show (if (some cutW == some "cut".toList) = true then [] else []) = []
  split <;> rfl
theorem final_of (P : Program) (w : List (List Char)) (h : behindMainWord (wordsSigns P.initOrder.toList) = cutW :: w) : P.liftsFinal = false := by
  unfold Program.liftsFinal
  rw [h, lifts_of P w h]
  show ((cutW == "carried".toList) && _ || false) = false
  rw [cut_carried]
  rfl
theorem enter_of (P : Program) (w : List (List Char)) (h : behindMainWord (wordsSigns P.initOrder.toList) = cutW :: w) (h1 : P.laysLater = false) (h2 : P.bearsReflect = false) (h3 : P.doorFits [] = true) : P.mayEnter = true := by
  unfold Program.mayEnter
  rw [h, h1, h2]
  show (_ || (((stripLifts liftWords (cutW :: w)).2.head? == some "cut".toList) && _ && _ && _ && P.doorFits (stripLifts liftWords (cutW :: w)).1)) = true
  rw [strip_cut, h3]
  simp
  exact .inr rfl
theorem later_no : Tryd.prog.laysLater = false := by kernel_rfl
theorem reflect_no : Tryd.prog.bearsReflect = false := by kernel_rfl
theorem door_fits : Tryd.prog.doorFits [] = true := by kernel_rfl
theorem prog_make : Tryd.prog.make = some .cut := make_of _ _ (head_main.trans head_cons)
theorem prog_final : Tryd.prog.liftsFinal = false := final_of _ _ (head_main.trans head_cons)
theorem prog_enter : Tryd.prog.mayEnter = true := enter_of _ _ (head_main.trans head_cons) later_no reflect_no door_fits
theorem prog_maps : mapsRowed Tryd.prog = true := by kernel_rfl
theorem prog_stops : (Tryd.prog.stops == []) = true := by kernel_rfl
theorem prog_knobs : (Tryd.prog.stopKnobs == []) = true := by kernel_rfl
theorem prog_keys : Tryd.prog.plainKeys = true := by kernel_rfl
theorem prog_heard : Tryd.prog.stopsHeard = true := by kernel_rfl
theorem and2 {a b : Bool} (h1 : a = true) (h2 : b = true) : (a && b) = true := by rw [h1, h2]; rfl
set_option maxRecDepth 100000 in
/-- A slice of numbers that came in. -/
theorem open_list {H : Type} {enc : TypeId × Value → H} {W : World} {r : Reach} {b0 : Nat} {v : Value} {d : DataW H} {p : List MemPlace} {spare : Nat → Bool} {held : Bool} (hv : Value.okWide Tryd.prog W r b0 22 v) (h : DataW.Trod enc Tryd.prog W 0 spare held 22 v d p) :
    ∃ (X : List Int) (a : Option Addr) (c : Nat), v = .slice a X.length c ∧ IntsAt W a X ∧ X.length ≤ maxLen := by
  obtain ⟨a0, len0, cap0, rfl⟩ := okWide_slice Tryd.underlying22 hv
  obtain ⟨fuel, hf⟩ := h
  have hc : (Value.slice a0 len0 cap0).cells.toList = [Value.slice a0 len0 cap0] := by simp [Value.cells]
  rw [hc] at hf
  obtain ⟨a, xs, c, he, h1, h2⟩ := intsAt_of_trod hf
  exact ⟨xs, a, c, he, h1, h2⟩
end Go.Proofs.YtmhhjchnjaefhaaDoor

namespace Go.Proofs.YtmhhjchnjaefhaaDoor
open Go Go.RowKit
/-- cmp.Compare. -/
def cmp3 (x y : Int) : Int := if x < y then -1 else if y < x then 1 else 0
/-- slices.Compare. -/
def cmpL : List Int → List Int → Int
  | [], [] => 0
  | [], _ :: _ => -1
  | _ :: _, [] => 1
  | a :: s, b :: t => if cmp3 a b = 0 then cmpL s t else cmp3 a b
theorem cmp3_zero {x y : Int} : cmp3 x y = 0 ↔ x = y := by
  unfold cmp3; split
  · constructor <;> intro h <;> omega
  · split
    · constructor <;> intro h <;> omega
    · constructor <;> intro h <;> omega
theorem cmp3_swap (x y : Int) : cmp3 y x = - cmp3 x y := by
  unfold cmp3; split <;> split <;> (try split) <;> omega
theorem cmp3_vals (x y : Int) : cmp3 x y = -1 ∨ cmp3 x y = 0 ∨ cmp3 x y = 1 := by
  unfold cmp3; split
  · simp
  · split <;> simp
theorem cmpL_zero : ∀ {s t : List Int}, cmpL s t = 0 ↔ s = t
  | [], [] => by simp [cmpL]
  | [], _ :: _ => by simp [cmpL]
  | _ :: _, [] => by simp [cmpL]
  | a :: s, b :: t => by
    unfold cmpL
    split
    · rename_i h; rw [cmpL_zero, cmp3_zero.1 h]; simp
    · rename_i h
      constructor
      · intro g; exact absurd g h
      · intro g; exact absurd (cmp3_zero.2 (List.cons.inj g).1) h
theorem cmpL_swap : ∀ (s t : List Int), cmpL t s = - cmpL s t
  | [], [] => by simp [cmpL]
  | [], _ :: _ => by simp [cmpL]
  | _ :: _, [] => by simp [cmpL]
  | a :: s, b :: t => by
    unfold cmpL
    rw [cmp3_swap a b]
    by_cases h : cmp3 a b = 0
    · rw [if_pos (by omega), if_pos h, cmpL_swap]
    · rw [if_neg (by omega), if_neg h]
theorem cmpL_vals : ∀ (s t : List Int), cmpL s t = -1 ∨ cmpL s t = 0 ∨ cmpL s t = 1
  | [], [] => by simp [cmpL]
  | [], _ :: _ => by simp [cmpL]
  | _ :: _, [] => by simp [cmpL]
  | a :: s, b :: t => by
    unfold cmpL
    split
    · exact cmpL_vals s t
    · exact cmp3_vals a b
/-- Less or equal. -/
def leL (s t : List Int) : Prop := cmpL s t ≤ 0
theorem leL_trans : ∀ {s t u : List Int}, leL s t → leL t u → leL s u
  | [], _, [] => fun _ _ => by simp [leL, cmpL]
  | [], _, _ :: _ => fun _ _ => by simp [leL, cmpL]
  | _ :: _, [], _ => fun h _ => by simp [leL, cmpL] at h
  | _ :: _, _ :: _, [] => fun _ h => by simp [leL, cmpL] at h
  | a :: s, b :: t, c :: u => fun h g => by
    unfold leL cmpL at *
    by_cases h1 : cmp3 a b = 0
    · rw [if_pos h1] at h
      obtain rfl := cmp3_zero.1 h1
      by_cases h2 : cmp3 a c = 0
      · rw [if_pos h2] at g ⊢; exact leL_trans h g
      · rw [if_neg h2] at g ⊢; exact g
    · rw [if_neg h1] at h
      by_cases h2 : cmp3 b c = 0
      · obtain rfl := cmp3_zero.1 h2
        rw [if_neg h1]; exact h
      · rw [if_neg h2] at g
        have : cmp3 a c = -1 := by
          unfold cmp3 at *
          split at h <;> split at g <;> (try split at h) <;> (try split at g) <;> (try split) <;> first | rfl | omega
        rw [if_neg (by omega)]; omega
theorem leL_total (s t : List Int) : leL s t ∨ leL t s := by
  unfold leL
  rw [cmpL_swap s t]; omega
theorem leL_antisymm {s t : List Int} (h : leL s t) (g : leL t s) : s = t := by
  unfold leL at *
  rw [cmpL_swap s t] at g
  exact cmpL_zero.1 (by omega)
theorem cmpL_append : ∀ {s t : List Int} (s' t' : List Int), s.length = t.length → cmpL (s ++ s') (t ++ t') = if cmpL s t = 0 then cmpL s' t' else cmpL s t
  | [], [], _, _, _ => by simp [cmpL]
  | [], _ :: _, _, _, h => by simp at h
  | _ :: _, [], _, _, h => by simp at h
  | a :: s, b :: t, s', t', h => by
    simp only [List.cons_append]
    rw [cmpL, cmpL]
    by_cases g : cmp3 a b = 0
    · rw [if_pos g, if_pos g]; exact cmpL_append s' t' (by simpa using h)
    · rw [if_neg g, if_neg g, if_neg g]
theorem cmpL_drop {s t : List Int} {k : Nat} (h1 : k < s.length) (h2 : k < t.length) :
    cmpL (s.drop k) (t.drop k) = if cmp3 (nth s k) (nth t k) = 0 then cmpL (s.drop (k + 1)) (t.drop (k + 1)) else cmp3 (nth s k) (nth t k) := by
  rw [List.drop_eq_getElem_cons h1, List.drop_eq_getElem_cons h2, cmpL]
  have a : nth s k = s[k] := by unfold nth; simp [List.getD_eq_getElem?_getD, List.getElem?_eq_getElem h1]
  have b : nth t k = t[k] := by unfold nth; simp [List.getD_eq_getElem?_getD, List.getElem?_eq_getElem h2]
  rw [a, b]
theorem cmpL_done {s t : List Int} {k : Nat} (h1 : k < s.length) (h2 : t.length ≤ k) : cmpL (s.drop k) (t.drop k) = 1 := by
  rw [List.drop_eq_getElem_cons h1, List.drop_eq_nil_of_le h2, cmpL]
theorem cmpL_end {s t : List Int} (h2 : s.length ≤ t.length) : cmpL (s.drop s.length) (t.drop s.length) = if s.length < t.length then -1 else 0 := by
  rw [List.drop_length]
  by_cases h : s.length < t.length
  · rw [if_pos h, List.drop_eq_getElem_cons h, cmpL]
  · rw [if_neg h, List.drop_eq_nil_of_le (by omega), cmpL]
end Go.Proofs.YtmhhjchnjaefhaaDoor


