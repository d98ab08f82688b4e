/-
  No cell of these rows narrows 'for every input' (looked for: loops, veiled, ifaces, maps, wideKeys, modest, calm, conditions, laid).
  DERIVED. THE GIVEN ROWS OF THIS SEAT. 25 by the template 'for every input the law returns true; each argument reads behind the call as it read before'; 0 by the template 'total and deterministic' (their statements: YtkopbcehfbmnmaaTotals.lean).
  GIVEN WITH THE SEED: the statements are not yours to turn. If you find one false, say at which input.
  Laid BY PROGRAM, IN A SANDBOX (cutbox-rows.mjs): the forced cells as the released guide's own fill.sh prints them over the translation 81606f50b076f6be… (all of the seat's roots in one cut). By AI agents, Wed Nov 11 2026. No macro, syntax, notation, axiom, sorry.
-/
import Derived.Test.YtkopbcehfbmnmaaChecked
import GoSem.Claim
import GoSem.ClaimJoined
import GoSem.ClaimMapViews
import Derived.JoinedTies
import Derived.KernelRfl
namespace Go.Proofs.Ytkopbcehfbmnmaa
/- THE CELL 'sum', in the pinned program and in every row, IS THE sha256 OF THE DUMP (.gsa) THAT YtkopbcehfbmnmaaProg.lean LOADS. Nothing in Lean hashes anything: it is a label: what it is worth is what the hold of that sum in a sandbox is worth. -/
noncomputable def Try.pinned : Pinned := { name := "ytkopbcehfbmnmaa", sum := "81606f50b076f6be7ee7f79acde13d9d11eb4a79545beb963463ea8bd98e193f", checked := Try.checked }
namespace Rows
def none {H : Type} : Left H := { results := [], args := [] }

/-- 'unravellaw14.LinkingTells': WHATEVER THE INPUT: true; the input reads as it did. -/
def linkingTellsSpec : ChangeSpec := { name := "linkingTells", fn := fun _ => fun
  | [d1, d2, d3] => { results := [.lit (.bool true)], args := [d1, d2, d3] }
  | _ => none }
def linkingTellsRow : OpenClaim := { program := "ytkopbcehfbmnmaa", sum := "81606f50b076f6be7ee7f79acde13d9d11eb4a79545beb963463ea8bd98e193f", func := "unravel/unravellaw14.LinkingTells", spec := "linkingTells", unfollowed := true, recurses := true, apart := false }
def LinkingTellsSaid : Prop := linkingTellsRow.holds Try.pinned (OpenSpec.ofChange linkingTellsSpec)

/-- ITS FALSE NEIGHBOUR: 'it returns false'. Refute it at one input. -/
def linkingTellsWrong : ChangeSpec := { name := "linkingTells", fn := fun _ => fun
  | [d1, d2, d3] => { results := [.lit (.bool false)], args := [d1, d2, d3] }
  | _ => none }
def LinkingTellsWrongFalsely : Prop := linkingTellsRow.holds Try.pinned (OpenSpec.ofChange linkingTellsWrong)

/-- 'unravellaw14.LinkingSums': WHATEVER THE INPUT: true; the input reads as it did. -/
def linkingSumsSpec : ChangeSpec := { name := "linkingSums", fn := fun _ => fun
  | [d] => { results := [.lit (.bool true)], args := [d] }
  | _ => none }
def linkingSumsRow : OpenClaim := { program := "ytkopbcehfbmnmaa", sum := "81606f50b076f6be7ee7f79acde13d9d11eb4a79545beb963463ea8bd98e193f", func := "unravel/unravellaw14.LinkingSums", spec := "linkingSums", unfollowed := true, recurses := true, apart := false }
def LinkingSumsSaid : Prop := linkingSumsRow.holds Try.pinned (OpenSpec.ofChange linkingSumsSpec)

/-- ITS FALSE NEIGHBOUR: 'it returns false'. Refute it at one input. -/
def linkingSumsWrong : ChangeSpec := { name := "linkingSums", fn := fun _ => fun
  | [d] => { results := [.lit (.bool false)], args := [d] }
  | _ => none }
def LinkingSumsWrongFalsely : Prop := linkingSumsRow.holds Try.pinned (OpenSpec.ofChange linkingSumsWrong)

/-- 'unravellaw06.MirrorWhole': WHATEVER THE INPUT: true; the input reads as it did. -/
def mirrorWholeSpec : ChangeSpec := { name := "mirrorWhole", fn := fun _ => fun
  | [d] => { results := [.lit (.bool true)], args := [d] }
  | _ => none }
def mirrorWholeRow : OpenClaim := { program := "ytkopbcehfbmnmaa", sum := "81606f50b076f6be7ee7f79acde13d9d11eb4a79545beb963463ea8bd98e193f", func := "unravel/unravellaw06.MirrorWhole", spec := "mirrorWhole", unfollowed := true, recurses := true, apart := false }
def MirrorWholeSaid : Prop := mirrorWholeRow.holds Try.pinned (OpenSpec.ofChange mirrorWholeSpec)

/-- ITS FALSE NEIGHBOUR: 'it returns false'. Refute it at one input. -/
def mirrorWholeWrong : ChangeSpec := { name := "mirrorWhole", fn := fun _ => fun
  | [d] => { results := [.lit (.bool false)], args := [d] }
  | _ => none }
def MirrorWholeWrongFalsely : Prop := mirrorWholeRow.holds Try.pinned (OpenSpec.ofChange mirrorWholeWrong)

/-- 'unravellaw14.LinkingShuffles': WHATEVER THE INPUT: true; the input reads as it did. -/
def linkingShufflesSpec : ChangeSpec := { name := "linkingShuffles", fn := fun _ => fun
  | [d1, d2] => { results := [.lit (.bool true)], args := [d1, d2] }
  | _ => none }
def linkingShufflesRow : OpenClaim := { program := "ytkopbcehfbmnmaa", sum := "81606f50b076f6be7ee7f79acde13d9d11eb4a79545beb963463ea8bd98e193f", func := "unravel/unravellaw14.LinkingShuffles", spec := "linkingShuffles", unfollowed := true, recurses := true, apart := false }
def LinkingShufflesSaid : Prop := linkingShufflesRow.holds Try.pinned (OpenSpec.ofChange linkingShufflesSpec)

/-- ITS FALSE NEIGHBOUR: 'it returns false'. Refute it at one input. -/
def linkingShufflesWrong : ChangeSpec := { name := "linkingShuffles", fn := fun _ => fun
  | [d1, d2] => { results := [.lit (.bool false)], args := [d1, d2] }
  | _ => none }
def LinkingShufflesWrongFalsely : Prop := linkingShufflesRow.holds Try.pinned (OpenSpec.ofChange linkingShufflesWrong)

/-- 'unravellaw06.MirrorSwitches': WHATEVER THE INPUT: true; the input reads as it did. -/
def mirrorSwitchesSpec : ChangeSpec := { name := "mirrorSwitches", fn := fun _ => fun
  | [d1, d2] => { results := [.lit (.bool true)], args := [d1, d2] }
  | _ => none }
def mirrorSwitchesRow : OpenClaim := { program := "ytkopbcehfbmnmaa", sum := "81606f50b076f6be7ee7f79acde13d9d11eb4a79545beb963463ea8bd98e193f", func := "unravel/unravellaw06.MirrorSwitches", spec := "mirrorSwitches", unfollowed := true, recurses := true, apart := false }
def MirrorSwitchesSaid : Prop := mirrorSwitchesRow.holds Try.pinned (OpenSpec.ofChange mirrorSwitchesSpec)

/-- ITS FALSE NEIGHBOUR: 'it returns false'. Refute it at one input. -/
def mirrorSwitchesWrong : ChangeSpec := { name := "mirrorSwitches", fn := fun _ => fun
  | [d1, d2] => { results := [.lit (.bool false)], args := [d1, d2] }
  | _ => none }
def MirrorSwitchesWrongFalsely : Prop := mirrorSwitchesRow.holds Try.pinned (OpenSpec.ofChange mirrorSwitchesWrong)

/-- 'unravellaw14.LinkingSwitches': WHATEVER THE INPUT: true; the input reads as it did. -/
def linkingSwitchesSpec : ChangeSpec := { name := "linkingSwitches", fn := fun _ => fun
  | [d1, d2] => { results := [.lit (.bool true)], args := [d1, d2] }
  | _ => none }
def linkingSwitchesRow : OpenClaim := { program := "ytkopbcehfbmnmaa", sum := "81606f50b076f6be7ee7f79acde13d9d11eb4a79545beb963463ea8bd98e193f", func := "unravel/unravellaw14.LinkingSwitches", spec := "linkingSwitches", unfollowed := true, recurses := true, apart := false }
def LinkingSwitchesSaid : Prop := linkingSwitchesRow.holds Try.pinned (OpenSpec.ofChange linkingSwitchesSpec)

/-- ITS FALSE NEIGHBOUR: 'it returns false'. Refute it at one input. -/
def linkingSwitchesWrong : ChangeSpec := { name := "linkingSwitches", fn := fun _ => fun
  | [d1, d2] => { results := [.lit (.bool false)], args := [d1, d2] }
  | _ => none }
def LinkingSwitchesWrongFalsely : Prop := linkingSwitchesRow.holds Try.pinned (OpenSpec.ofChange linkingSwitchesWrong)

/-- 'unravellaw14.LinkingLoops': WHATEVER THE INPUT: true; the input reads as it did. -/
def linkingLoopsSpec : ChangeSpec := { name := "linkingLoops", fn := fun _ => fun
  | [d1, d2] => { results := [.lit (.bool true)], args := [d1, d2] }
  | _ => none }
def linkingLoopsRow : OpenClaim := { program := "ytkopbcehfbmnmaa", sum := "81606f50b076f6be7ee7f79acde13d9d11eb4a79545beb963463ea8bd98e193f", func := "unravel/unravellaw14.LinkingLoops", spec := "linkingLoops", unfollowed := true, recurses := true, apart := false }
def LinkingLoopsSaid : Prop := linkingLoopsRow.holds Try.pinned (OpenSpec.ofChange linkingLoopsSpec)

/-- ITS FALSE NEIGHBOUR: 'it returns false'. Refute it at one input. -/
def linkingLoopsWrong : ChangeSpec := { name := "linkingLoops", fn := fun _ => fun
  | [d1, d2] => { results := [.lit (.bool false)], args := [d1, d2] }
  | _ => none }
def LinkingLoopsWrongFalsely : Prop := linkingLoopsRow.holds Try.pinned (OpenSpec.ofChange linkingLoopsWrong)

/-- 'unravellaw14.LinkingReverses': WHATEVER THE INPUT: true; the input reads as it did. -/
def linkingReversesSpec : ChangeSpec := { name := "linkingReverses", fn := fun _ => fun
  | [d1, d2] => { results := [.lit (.bool true)], args := [d1, d2] }
  | _ => none }
def linkingReversesRow : OpenClaim := { program := "ytkopbcehfbmnmaa", sum := "81606f50b076f6be7ee7f79acde13d9d11eb4a79545beb963463ea8bd98e193f", func := "unravel/unravellaw14.LinkingReverses", spec := "linkingReverses", unfollowed := true, recurses := true, apart := false }
def LinkingReversesSaid : Prop := linkingReversesRow.holds Try.pinned (OpenSpec.ofChange linkingReversesSpec)

/-- ITS FALSE NEIGHBOUR: 'it returns false'. Refute it at one input. -/
def linkingReversesWrong : ChangeSpec := { name := "linkingReverses", fn := fun _ => fun
  | [d1, d2] => { results := [.lit (.bool false)], args := [d1, d2] }
  | _ => none }
def LinkingReversesWrongFalsely : Prop := linkingReversesRow.holds Try.pinned (OpenSpec.ofChange linkingReversesWrong)

/-- 'unravellaw14.LinkingMirrors': WHATEVER THE INPUT: true; the input reads as it did. -/
def linkingMirrorsSpec : ChangeSpec := { name := "linkingMirrors", fn := fun _ => fun
  | [d] => { results := [.lit (.bool true)], args := [d] }
  | _ => none }
def linkingMirrorsRow : OpenClaim := { program := "ytkopbcehfbmnmaa", sum := "81606f50b076f6be7ee7f79acde13d9d11eb4a79545beb963463ea8bd98e193f", func := "unravel/unravellaw14.LinkingMirrors", spec := "linkingMirrors", unfollowed := true, recurses := true, apart := false }
def LinkingMirrorsSaid : Prop := linkingMirrorsRow.holds Try.pinned (OpenSpec.ofChange linkingMirrorsSpec)

/-- ITS FALSE NEIGHBOUR: 'it returns false'. Refute it at one input. -/
def linkingMirrorsWrong : ChangeSpec := { name := "linkingMirrors", fn := fun _ => fun
  | [d] => { results := [.lit (.bool false)], args := [d] }
  | _ => none }
def LinkingMirrorsWrongFalsely : Prop := linkingMirrorsRow.holds Try.pinned (OpenSpec.ofChange linkingMirrorsWrong)

/-- 'unravellaw14.LinkingSmooths': WHATEVER THE INPUT: true; the input reads as it did. -/
def linkingSmoothsSpec : ChangeSpec := { name := "linkingSmooths", fn := fun _ => fun
  | [d1, d2] => { results := [.lit (.bool true)], args := [d1, d2] }
  | _ => none }
def linkingSmoothsRow : OpenClaim := { program := "ytkopbcehfbmnmaa", sum := "81606f50b076f6be7ee7f79acde13d9d11eb4a79545beb963463ea8bd98e193f", func := "unravel/unravellaw14.LinkingSmooths", spec := "linkingSmooths", unfollowed := true, recurses := true, apart := false }
def LinkingSmoothsSaid : Prop := linkingSmoothsRow.holds Try.pinned (OpenSpec.ofChange linkingSmoothsSpec)

/-- ITS FALSE NEIGHBOUR: 'it returns false'. Refute it at one input. -/
def linkingSmoothsWrong : ChangeSpec := { name := "linkingSmooths", fn := fun _ => fun
  | [d1, d2] => { results := [.lit (.bool false)], args := [d1, d2] }
  | _ => none }
def LinkingSmoothsWrongFalsely : Prop := linkingSmoothsRow.holds Try.pinned (OpenSpec.ofChange linkingSmoothsWrong)

/-- 'unravellaw06.MirrorSmooths': WHATEVER THE INPUT: true; the input reads as it did. -/
def mirrorSmoothsSpec : ChangeSpec := { name := "mirrorSmooths", fn := fun _ => fun
  | [d1, d2] => { results := [.lit (.bool true)], args := [d1, d2] }
  | _ => none }
def mirrorSmoothsRow : OpenClaim := { program := "ytkopbcehfbmnmaa", sum := "81606f50b076f6be7ee7f79acde13d9d11eb4a79545beb963463ea8bd98e193f", func := "unravel/unravellaw06.MirrorSmooths", spec := "mirrorSmooths", unfollowed := true, recurses := true, apart := false }
def MirrorSmoothsSaid : Prop := mirrorSmoothsRow.holds Try.pinned (OpenSpec.ofChange mirrorSmoothsSpec)

/-- ITS FALSE NEIGHBOUR: 'it returns false'. Refute it at one input. -/
def mirrorSmoothsWrong : ChangeSpec := { name := "mirrorSmooths", fn := fun _ => fun
  | [d1, d2] => { results := [.lit (.bool false)], args := [d1, d2] }
  | _ => none }
def MirrorSmoothsWrongFalsely : Prop := mirrorSmoothsRow.holds Try.pinned (OpenSpec.ofChange mirrorSmoothsWrong)

/-- 'unravellaw06.MirrorParts': WHATEVER THE INPUT: true; the input reads as it did. -/
def mirrorPartsSpec : ChangeSpec := { name := "mirrorParts", fn := fun _ => fun
  | [d1, d2] => { results := [.lit (.bool true)], args := [d1, d2] }
  | _ => none }
def mirrorPartsRow : OpenClaim := { program := "ytkopbcehfbmnmaa", sum := "81606f50b076f6be7ee7f79acde13d9d11eb4a79545beb963463ea8bd98e193f", func := "unravel/unravellaw06.MirrorParts", spec := "mirrorParts", unfollowed := true, recurses := true, apart := false }
def MirrorPartsSaid : Prop := mirrorPartsRow.holds Try.pinned (OpenSpec.ofChange mirrorPartsSpec)

/-- ITS FALSE NEIGHBOUR: 'it returns false'. Refute it at one input. -/
def mirrorPartsWrong : ChangeSpec := { name := "mirrorParts", fn := fun _ => fun
  | [d1, d2] => { results := [.lit (.bool false)], args := [d1, d2] }
  | _ => none }
def MirrorPartsWrongFalsely : Prop := mirrorPartsRow.holds Try.pinned (OpenSpec.ofChange mirrorPartsWrong)

/-- 'unravellaw07.ConnectSplits': WHATEVER THE INPUT: true; the input reads as it did. -/
def connectSplitsSpec : ChangeSpec := { name := "connectSplits", fn := fun _ => fun
  | [d] => { results := [.lit (.bool true)], args := [d] }
  | _ => none }
def connectSplitsRow : OpenClaim := { program := "ytkopbcehfbmnmaa", sum := "81606f50b076f6be7ee7f79acde13d9d11eb4a79545beb963463ea8bd98e193f", func := "unravel/unravellaw07.ConnectSplits", spec := "connectSplits", unfollowed := true, recurses := true, apart := false }
def ConnectSplitsSaid : Prop := connectSplitsRow.holds Try.pinned (OpenSpec.ofChange connectSplitsSpec)

/-- ITS FALSE NEIGHBOUR: 'it returns false'. Refute it at one input. -/
def connectSplitsWrong : ChangeSpec := { name := "connectSplits", fn := fun _ => fun
  | [d] => { results := [.lit (.bool false)], args := [d] }
  | _ => none }
def ConnectSplitsWrongFalsely : Prop := connectSplitsRow.holds Try.pinned (OpenSpec.ofChange connectSplitsWrong)

/-- 'unravellaw06.MirrorCommutes': WHATEVER THE INPUT: true; the input reads as it did. -/
def mirrorCommutesSpec : ChangeSpec := { name := "mirrorCommutes", fn := fun _ => fun
  | [d1, d2, d3, d4, d5] => { results := [.lit (.bool true)], args := [d1, d2, d3, d4, d5] }
  | _ => none }
def mirrorCommutesRow : OpenClaim := { program := "ytkopbcehfbmnmaa", sum := "81606f50b076f6be7ee7f79acde13d9d11eb4a79545beb963463ea8bd98e193f", func := "unravel/unravellaw06.MirrorCommutes", spec := "mirrorCommutes", unfollowed := true, recurses := true, apart := false }
def MirrorCommutesSaid : Prop := mirrorCommutesRow.holds Try.pinned (OpenSpec.ofChange mirrorCommutesSpec)

/-- ITS FALSE NEIGHBOUR: 'it returns false'. Refute it at one input. -/
def mirrorCommutesWrong : ChangeSpec := { name := "mirrorCommutes", fn := fun _ => fun
  | [d1, d2, d3, d4, d5] => { results := [.lit (.bool false)], args := [d1, d2, d3, d4, d5] }
  | _ => none }
def MirrorCommutesWrongFalsely : Prop := mirrorCommutesRow.holds Try.pinned (OpenSpec.ofChange mirrorCommutesWrong)

/-- 'unravellaw06.MirrorCrosses': WHATEVER THE INPUT: true; the input reads as it did. -/
def mirrorCrossesSpec : ChangeSpec := { name := "mirrorCrosses", fn := fun _ => fun
  | [d1, d2, d3, d4] => { results := [.lit (.bool true)], args := [d1, d2, d3, d4] }
  | _ => none }
def mirrorCrossesRow : OpenClaim := { program := "ytkopbcehfbmnmaa", sum := "81606f50b076f6be7ee7f79acde13d9d11eb4a79545beb963463ea8bd98e193f", func := "unravel/unravellaw06.MirrorCrosses", spec := "mirrorCrosses", unfollowed := true, recurses := true, apart := false }
def MirrorCrossesSaid : Prop := mirrorCrossesRow.holds Try.pinned (OpenSpec.ofChange mirrorCrossesSpec)

/-- ITS FALSE NEIGHBOUR: 'it returns false'. Refute it at one input. -/
def mirrorCrossesWrong : ChangeSpec := { name := "mirrorCrosses", fn := fun _ => fun
  | [d1, d2, d3, d4] => { results := [.lit (.bool false)], args := [d1, d2, d3, d4] }
  | _ => none }
def MirrorCrossesWrongFalsely : Prop := mirrorCrossesRow.holds Try.pinned (OpenSpec.ofChange mirrorCrossesWrong)

/-- 'unravellaw06.MirrorUndoes': WHATEVER THE INPUT: true; the input reads as it did. -/
def mirrorUndoesSpec : ChangeSpec := { name := "mirrorUndoes", fn := fun _ => fun
  | [d1, d2, d3] => { results := [.lit (.bool true)], args := [d1, d2, d3] }
  | _ => none }
def mirrorUndoesRow : OpenClaim := { program := "ytkopbcehfbmnmaa", sum := "81606f50b076f6be7ee7f79acde13d9d11eb4a79545beb963463ea8bd98e193f", func := "unravel/unravellaw06.MirrorUndoes", spec := "mirrorUndoes", unfollowed := true, recurses := true, apart := false }
def MirrorUndoesSaid : Prop := mirrorUndoesRow.holds Try.pinned (OpenSpec.ofChange mirrorUndoesSpec)

/-- ITS FALSE NEIGHBOUR: 'it returns false'. Refute it at one input. -/
def mirrorUndoesWrong : ChangeSpec := { name := "mirrorUndoes", fn := fun _ => fun
  | [d1, d2, d3] => { results := [.lit (.bool false)], args := [d1, d2, d3] }
  | _ => none }
def MirrorUndoesWrongFalsely : Prop := mirrorUndoesRow.holds Try.pinned (OpenSpec.ofChange mirrorUndoesWrong)

/-- 'unravellaw06.MirrorReverses': WHATEVER THE INPUT: true; the input reads as it did. -/
def mirrorReversesSpec : ChangeSpec := { name := "mirrorReverses", fn := fun _ => fun
  | [d] => { results := [.lit (.bool true)], args := [d] }
  | _ => none }
def mirrorReversesRow : OpenClaim := { program := "ytkopbcehfbmnmaa", sum := "81606f50b076f6be7ee7f79acde13d9d11eb4a79545beb963463ea8bd98e193f", func := "unravel/unravellaw06.MirrorReverses", spec := "mirrorReverses", unfollowed := true, recurses := true, apart := false }
def MirrorReversesSaid : Prop := mirrorReversesRow.holds Try.pinned (OpenSpec.ofChange mirrorReversesSpec)

/-- ITS FALSE NEIGHBOUR: 'it returns false'. Refute it at one input. -/
def mirrorReversesWrong : ChangeSpec := { name := "mirrorReverses", fn := fun _ => fun
  | [d] => { results := [.lit (.bool false)], args := [d] }
  | _ => none }
def MirrorReversesWrongFalsely : Prop := mirrorReversesRow.holds Try.pinned (OpenSpec.ofChange mirrorReversesWrong)

/-- 'unravellaw07.ConnectFactor': WHATEVER THE INPUT: true; the input reads as it did. -/
def connectFactorSpec : ChangeSpec := { name := "connectFactor", fn := fun _ => fun
  | [d1, d2, d3] => { results := [.lit (.bool true)], args := [d1, d2, d3] }
  | _ => none }
def connectFactorRow : OpenClaim := { program := "ytkopbcehfbmnmaa", sum := "81606f50b076f6be7ee7f79acde13d9d11eb4a79545beb963463ea8bd98e193f", func := "unravel/unravellaw07.ConnectFactor", spec := "connectFactor", unfollowed := true, recurses := true, apart := false }
def ConnectFactorSaid : Prop := connectFactorRow.holds Try.pinned (OpenSpec.ofChange connectFactorSpec)

/-- ITS FALSE NEIGHBOUR: 'it returns false'. Refute it at one input. -/
def connectFactorWrong : ChangeSpec := { name := "connectFactor", fn := fun _ => fun
  | [d1, d2, d3] => { results := [.lit (.bool false)], args := [d1, d2, d3] }
  | _ => none }
def ConnectFactorWrongFalsely : Prop := connectFactorRow.holds Try.pinned (OpenSpec.ofChange connectFactorWrong)

/-- 'unravellaw07.ConnectCuts': WHATEVER THE INPUT: true; the input reads as it did. -/
def connectCutsSpec : ChangeSpec := { name := "connectCuts", fn := fun _ => fun
  | [d] => { results := [.lit (.bool true)], args := [d] }
  | _ => none }
def connectCutsRow : OpenClaim := { program := "ytkopbcehfbmnmaa", sum := "81606f50b076f6be7ee7f79acde13d9d11eb4a79545beb963463ea8bd98e193f", func := "unravel/unravellaw07.ConnectCuts", spec := "connectCuts", unfollowed := true, recurses := true, apart := false }
def ConnectCutsSaid : Prop := connectCutsRow.holds Try.pinned (OpenSpec.ofChange connectCutsSpec)

/-- ITS FALSE NEIGHBOUR: 'it returns false'. Refute it at one input. -/
def connectCutsWrong : ChangeSpec := { name := "connectCuts", fn := fun _ => fun
  | [d] => { results := [.lit (.bool false)], args := [d] }
  | _ => none }
def ConnectCutsWrongFalsely : Prop := connectCutsRow.holds Try.pinned (OpenSpec.ofChange connectCutsWrong)

/-- 'unravellaw07.ConnectUndoes': WHATEVER THE INPUT: true; the input reads as it did. -/
def connectUndoesSpec : ChangeSpec := { name := "connectUndoes", fn := fun _ => fun
  | [d1, d2, d3, d4] => { results := [.lit (.bool true)], args := [d1, d2, d3, d4] }
  | _ => none }
def connectUndoesRow : OpenClaim := { program := "ytkopbcehfbmnmaa", sum := "81606f50b076f6be7ee7f79acde13d9d11eb4a79545beb963463ea8bd98e193f", func := "unravel/unravellaw07.ConnectUndoes", spec := "connectUndoes", unfollowed := true, recurses := true, apart := false }
def ConnectUndoesSaid : Prop := connectUndoesRow.holds Try.pinned (OpenSpec.ofChange connectUndoesSpec)

/-- ITS FALSE NEIGHBOUR: 'it returns false'. Refute it at one input. -/
def connectUndoesWrong : ChangeSpec := { name := "connectUndoes", fn := fun _ => fun
  | [d1, d2, d3, d4] => { results := [.lit (.bool false)], args := [d1, d2, d3, d4] }
  | _ => none }
def ConnectUndoesWrongFalsely : Prop := connectUndoesRow.holds Try.pinned (OpenSpec.ofChange connectUndoesWrong)

/-- 'unravellaw07.ConnectFactors': WHATEVER THE INPUT: true; the input reads as it did. -/
def connectFactorsSpec : ChangeSpec := { name := "connectFactors", fn := fun _ => fun
  | [d] => { results := [.lit (.bool true)], args := [d] }
  | _ => none }
def connectFactorsRow : OpenClaim := { program := "ytkopbcehfbmnmaa", sum := "81606f50b076f6be7ee7f79acde13d9d11eb4a79545beb963463ea8bd98e193f", func := "unravel/unravellaw07.ConnectFactors", spec := "connectFactors", unfollowed := true, recurses := true, apart := false }
def ConnectFactorsSaid : Prop := connectFactorsRow.holds Try.pinned (OpenSpec.ofChange connectFactorsSpec)

/-- ITS FALSE NEIGHBOUR: 'it returns false'. Refute it at one input. -/
def connectFactorsWrong : ChangeSpec := { name := "connectFactors", fn := fun _ => fun
  | [d] => { results := [.lit (.bool false)], args := [d] }
  | _ => none }
def ConnectFactorsWrongFalsely : Prop := connectFactorsRow.holds Try.pinned (OpenSpec.ofChange connectFactorsWrong)

/-- 'unravellaw07.ConnectNugatory': WHATEVER THE INPUT: true; the input reads as it did. -/
def connectNugatorySpec : ChangeSpec := { name := "connectNugatory", fn := fun _ => fun
  | [d] => { results := [.lit (.bool true)], args := [d] }
  | _ => none }
def connectNugatoryRow : OpenClaim := { program := "ytkopbcehfbmnmaa", sum := "81606f50b076f6be7ee7f79acde13d9d11eb4a79545beb963463ea8bd98e193f", func := "unravel/unravellaw07.ConnectNugatory", spec := "connectNugatory", unfollowed := true, recurses := true, apart := false }
def ConnectNugatorySaid : Prop := connectNugatoryRow.holds Try.pinned (OpenSpec.ofChange connectNugatorySpec)

/-- ITS FALSE NEIGHBOUR: 'it returns false'. Refute it at one input. -/
def connectNugatoryWrong : ChangeSpec := { name := "connectNugatory", fn := fun _ => fun
  | [d] => { results := [.lit (.bool false)], args := [d] }
  | _ => none }
def ConnectNugatoryWrongFalsely : Prop := connectNugatoryRow.holds Try.pinned (OpenSpec.ofChange connectNugatoryWrong)

/-- 'unravellaw07.ConnectSums': WHATEVER THE INPUT: true; the input reads as it did. -/
def connectSumsSpec : ChangeSpec := { name := "connectSums", fn := fun _ => fun
  | [d1, d2, d3, d4] => { results := [.lit (.bool true)], args := [d1, d2, d3, d4] }
  | _ => none }
def connectSumsRow : OpenClaim := { program := "ytkopbcehfbmnmaa", sum := "81606f50b076f6be7ee7f79acde13d9d11eb4a79545beb963463ea8bd98e193f", func := "unravel/unravellaw07.ConnectSums", spec := "connectSums", unfollowed := true, recurses := true, apart := false }
def ConnectSumsSaid : Prop := connectSumsRow.holds Try.pinned (OpenSpec.ofChange connectSumsSpec)

/-- ITS FALSE NEIGHBOUR: 'it returns false'. Refute it at one input. -/
def connectSumsWrong : ChangeSpec := { name := "connectSums", fn := fun _ => fun
  | [d1, d2, d3, d4] => { results := [.lit (.bool false)], args := [d1, d2, d3, d4] }
  | _ => none }
def ConnectSumsWrongFalsely : Prop := connectSumsRow.holds Try.pinned (OpenSpec.ofChange connectSumsWrong)

/-- 'unravellaw07.ConnectAlternates': WHATEVER THE INPUT: true; the input reads as it did. -/
def connectAlternatesSpec : ChangeSpec := { name := "connectAlternates", fn := fun _ => fun
  | [d] => { results := [.lit (.bool true)], args := [d] }
  | _ => none }
def connectAlternatesRow : OpenClaim := { program := "ytkopbcehfbmnmaa", sum := "81606f50b076f6be7ee7f79acde13d9d11eb4a79545beb963463ea8bd98e193f", func := "unravel/unravellaw07.ConnectAlternates", spec := "connectAlternates", unfollowed := true, recurses := true, apart := false }
def ConnectAlternatesSaid : Prop := connectAlternatesRow.holds Try.pinned (OpenSpec.ofChange connectAlternatesSpec)

/-- ITS FALSE NEIGHBOUR: 'it returns false'. Refute it at one input. -/
def connectAlternatesWrong : ChangeSpec := { name := "connectAlternates", fn := fun _ => fun
  | [d] => { results := [.lit (.bool false)], args := [d] }
  | _ => none }
def ConnectAlternatesWrongFalsely : Prop := connectAlternatesRow.holds Try.pinned (OpenSpec.ofChange connectAlternatesWrong)

/-- 'unravellaw07.ConnectUnions': WHATEVER THE INPUT: true; the input reads as it did. -/
def connectUnionsSpec : ChangeSpec := { name := "connectUnions", fn := fun _ => fun
  | [d1, d2, d3] => { results := [.lit (.bool true)], args := [d1, d2, d3] }
  | _ => none }
def connectUnionsRow : OpenClaim := { program := "ytkopbcehfbmnmaa", sum := "81606f50b076f6be7ee7f79acde13d9d11eb4a79545beb963463ea8bd98e193f", func := "unravel/unravellaw07.ConnectUnions", spec := "connectUnions", unfollowed := true, recurses := true, apart := false }
def ConnectUnionsSaid : Prop := connectUnionsRow.holds Try.pinned (OpenSpec.ofChange connectUnionsSpec)

/-- ITS FALSE NEIGHBOUR: 'it returns false'. Refute it at one input. -/
def connectUnionsWrong : ChangeSpec := { name := "connectUnions", fn := fun _ => fun
  | [d1, d2, d3] => { results := [.lit (.bool false)], args := [d1, d2, d3] }
  | _ => none }
def ConnectUnionsWrongFalsely : Prop := connectUnionsRow.holds Try.pinned (OpenSpec.ofChange connectUnionsWrong)

/- THE SECOND FORM. 'bulk': how many values and letters a reading holds, each counted each time it is reached (what is shared counts as often as it is met; a slice's spare places count too). A statement '..UptoSaid' is the law's where the arguments, and the package variables that the reading takes, are together of bulk at most 1048576: NARROWER than '..Said'. Prove '..Said' where nothing that the law and all that it calls make is longer than what came in: it says more and counts as full. Else prove '..UptoSaid'. A law counts once. -/
mutual
def uptoBulk {H : Type} : DataW H → Nat
  | .lit (.string bytes) => bytes.length + 1
  | .lit _ => 1
  | .nil => 1
  | .ptr d => uptoBulk d + 1
  | .slice elems spare => uptoBulkAll elems + uptoBulkAll spare + 1
  | .agg parts => uptoBulkAll parts + 1
  | .iface _ d => uptoBulk d + 1
  | .map entries => uptoBulkEntries entries + 1
  | .held _ => 1
def uptoBulkAll {H : Type} : List (DataW H) → Nat
  | [] => 0
  | d :: r => uptoBulk d + uptoBulkAll r
def uptoBulkEntries {H : Type} : List (Lit × DataW H) → Nat
  | [] => 0
  | x :: r => uptoBulkEntry x + uptoBulkEntries r
def uptoBulkEntry {H : Type} : Lit × DataW H → Nat
  | (.string bytes, d) => bytes.length + uptoBulk d + 1
  | (_, d) => uptoBulk d + 1
 end
def uptoSmall : (H : Type) → List (DataW H) → Bool := fun _ ds => decide (uptoBulkAll ds ≤ 1048576)
def OpenSpec.upto (s : _root_.Go.ChangeSpec) : _root_.Go.OpenSpec := { _root_.Go.OpenSpec.ofChange s with cond := some uptoSmall }

/-- 'unravellaw14.LinkingTells', WHERE WHAT IT READS IS OF BULK AT MOST 1048576: true; the input reads as it did. -/
def linkingTellsUptoRow : OpenClaim := { program := "ytkopbcehfbmnmaa", sum := "81606f50b076f6be7ee7f79acde13d9d11eb4a79545beb963463ea8bd98e193f", func := "unravel/unravellaw14.LinkingTells", spec := "linkingTells", unfollowed := true, recurses := true, apart := false, narrowed := true }
def LinkingTellsUptoSaid : Prop := linkingTellsUptoRow.holds Try.pinned (OpenSpec.upto linkingTellsSpec)

/-- 'unravellaw14.LinkingSums', WHERE WHAT IT READS IS OF BULK AT MOST 1048576: true; the input reads as it did. -/
def linkingSumsUptoRow : OpenClaim := { program := "ytkopbcehfbmnmaa", sum := "81606f50b076f6be7ee7f79acde13d9d11eb4a79545beb963463ea8bd98e193f", func := "unravel/unravellaw14.LinkingSums", spec := "linkingSums", unfollowed := true, recurses := true, apart := false, narrowed := true }
def LinkingSumsUptoSaid : Prop := linkingSumsUptoRow.holds Try.pinned (OpenSpec.upto linkingSumsSpec)

/-- 'unravellaw06.MirrorWhole', WHERE WHAT IT READS IS OF BULK AT MOST 1048576: true; the input reads as it did. -/
def mirrorWholeUptoRow : OpenClaim := { program := "ytkopbcehfbmnmaa", sum := "81606f50b076f6be7ee7f79acde13d9d11eb4a79545beb963463ea8bd98e193f", func := "unravel/unravellaw06.MirrorWhole", spec := "mirrorWhole", unfollowed := true, recurses := true, apart := false, narrowed := true }
def MirrorWholeUptoSaid : Prop := mirrorWholeUptoRow.holds Try.pinned (OpenSpec.upto mirrorWholeSpec)

/-- 'unravellaw14.LinkingShuffles', WHERE WHAT IT READS IS OF BULK AT MOST 1048576: true; the input reads as it did. -/
def linkingShufflesUptoRow : OpenClaim := { program := "ytkopbcehfbmnmaa", sum := "81606f50b076f6be7ee7f79acde13d9d11eb4a79545beb963463ea8bd98e193f", func := "unravel/unravellaw14.LinkingShuffles", spec := "linkingShuffles", unfollowed := true, recurses := true, apart := false, narrowed := true }
def LinkingShufflesUptoSaid : Prop := linkingShufflesUptoRow.holds Try.pinned (OpenSpec.upto linkingShufflesSpec)

/-- 'unravellaw06.MirrorSwitches', WHERE WHAT IT READS IS OF BULK AT MOST 1048576: true; the input reads as it did. -/
def mirrorSwitchesUptoRow : OpenClaim := { program := "ytkopbcehfbmnmaa", sum := "81606f50b076f6be7ee7f79acde13d9d11eb4a79545beb963463ea8bd98e193f", func := "unravel/unravellaw06.MirrorSwitches", spec := "mirrorSwitches", unfollowed := true, recurses := true, apart := false, narrowed := true }
def MirrorSwitchesUptoSaid : Prop := mirrorSwitchesUptoRow.holds Try.pinned (OpenSpec.upto mirrorSwitchesSpec)

/-- 'unravellaw14.LinkingSwitches', WHERE WHAT IT READS IS OF BULK AT MOST 1048576: true; the input reads as it did. -/
def linkingSwitchesUptoRow : OpenClaim := { program := "ytkopbcehfbmnmaa", sum := "81606f50b076f6be7ee7f79acde13d9d11eb4a79545beb963463ea8bd98e193f", func := "unravel/unravellaw14.LinkingSwitches", spec := "linkingSwitches", unfollowed := true, recurses := true, apart := false, narrowed := true }
def LinkingSwitchesUptoSaid : Prop := linkingSwitchesUptoRow.holds Try.pinned (OpenSpec.upto linkingSwitchesSpec)

/-- 'unravellaw14.LinkingLoops', WHERE WHAT IT READS IS OF BULK AT MOST 1048576: true; the input reads as it did. -/
def linkingLoopsUptoRow : OpenClaim := { program := "ytkopbcehfbmnmaa", sum := "81606f50b076f6be7ee7f79acde13d9d11eb4a79545beb963463ea8bd98e193f", func := "unravel/unravellaw14.LinkingLoops", spec := "linkingLoops", unfollowed := true, recurses := true, apart := false, narrowed := true }
def LinkingLoopsUptoSaid : Prop := linkingLoopsUptoRow.holds Try.pinned (OpenSpec.upto linkingLoopsSpec)

/-- 'unravellaw14.LinkingReverses', WHERE WHAT IT READS IS OF BULK AT MOST 1048576: true; the input reads as it did. -/
def linkingReversesUptoRow : OpenClaim := { program := "ytkopbcehfbmnmaa", sum := "81606f50b076f6be7ee7f79acde13d9d11eb4a79545beb963463ea8bd98e193f", func := "unravel/unravellaw14.LinkingReverses", spec := "linkingReverses", unfollowed := true, recurses := true, apart := false, narrowed := true }
def LinkingReversesUptoSaid : Prop := linkingReversesUptoRow.holds Try.pinned (OpenSpec.upto linkingReversesSpec)

/-- 'unravellaw14.LinkingMirrors', WHERE WHAT IT READS IS OF BULK AT MOST 1048576: true; the input reads as it did. -/
def linkingMirrorsUptoRow : OpenClaim := { program := "ytkopbcehfbmnmaa", sum := "81606f50b076f6be7ee7f79acde13d9d11eb4a79545beb963463ea8bd98e193f", func := "unravel/unravellaw14.LinkingMirrors", spec := "linkingMirrors", unfollowed := true, recurses := true, apart := false, narrowed := true }
def LinkingMirrorsUptoSaid : Prop := linkingMirrorsUptoRow.holds Try.pinned (OpenSpec.upto linkingMirrorsSpec)

/-- 'unravellaw14.LinkingSmooths', WHERE WHAT IT READS IS OF BULK AT MOST 1048576: true; the input reads as it did. -/
def linkingSmoothsUptoRow : OpenClaim := { program := "ytkopbcehfbmnmaa", sum := "81606f50b076f6be7ee7f79acde13d9d11eb4a79545beb963463ea8bd98e193f", func := "unravel/unravellaw14.LinkingSmooths", spec := "linkingSmooths", unfollowed := true, recurses := true, apart := false, narrowed := true }
def LinkingSmoothsUptoSaid : Prop := linkingSmoothsUptoRow.holds Try.pinned (OpenSpec.upto linkingSmoothsSpec)

/-- 'unravellaw06.MirrorSmooths', WHERE WHAT IT READS IS OF BULK AT MOST 1048576: true; the input reads as it did. -/
def mirrorSmoothsUptoRow : OpenClaim := { program := "ytkopbcehfbmnmaa", sum := "81606f50b076f6be7ee7f79acde13d9d11eb4a79545beb963463ea8bd98e193f", func := "unravel/unravellaw06.MirrorSmooths", spec := "mirrorSmooths", unfollowed := true, recurses := true, apart := false, narrowed := true }
def MirrorSmoothsUptoSaid : Prop := mirrorSmoothsUptoRow.holds Try.pinned (OpenSpec.upto mirrorSmoothsSpec)

/-- 'unravellaw06.MirrorParts', WHERE WHAT IT READS IS OF BULK AT MOST 1048576: true; the input reads as it did. -/
def mirrorPartsUptoRow : OpenClaim := { program := "ytkopbcehfbmnmaa", sum := "81606f50b076f6be7ee7f79acde13d9d11eb4a79545beb963463ea8bd98e193f", func := "unravel/unravellaw06.MirrorParts", spec := "mirrorParts", unfollowed := true, recurses := true, apart := false, narrowed := true }
def MirrorPartsUptoSaid : Prop := mirrorPartsUptoRow.holds Try.pinned (OpenSpec.upto mirrorPartsSpec)

/-- 'unravellaw07.ConnectSplits', WHERE WHAT IT READS IS OF BULK AT MOST 1048576: true; the input reads as it did. -/
def connectSplitsUptoRow : OpenClaim := { program := "ytkopbcehfbmnmaa", sum := "81606f50b076f6be7ee7f79acde13d9d11eb4a79545beb963463ea8bd98e193f", func := "unravel/unravellaw07.ConnectSplits", spec := "connectSplits", unfollowed := true, recurses := true, apart := false, narrowed := true }
def ConnectSplitsUptoSaid : Prop := connectSplitsUptoRow.holds Try.pinned (OpenSpec.upto connectSplitsSpec)

/-- 'unravellaw06.MirrorCommutes', WHERE WHAT IT READS IS OF BULK AT MOST 1048576: true; the input reads as it did. -/
def mirrorCommutesUptoRow : OpenClaim := { program := "ytkopbcehfbmnmaa", sum := "81606f50b076f6be7ee7f79acde13d9d11eb4a79545beb963463ea8bd98e193f", func := "unravel/unravellaw06.MirrorCommutes", spec := "mirrorCommutes", unfollowed := true, recurses := true, apart := false, narrowed := true }
def MirrorCommutesUptoSaid : Prop := mirrorCommutesUptoRow.holds Try.pinned (OpenSpec.upto mirrorCommutesSpec)

/-- 'unravellaw06.MirrorCrosses', WHERE WHAT IT READS IS OF BULK AT MOST 1048576: true; the input reads as it did. -/
def mirrorCrossesUptoRow : OpenClaim := { program := "ytkopbcehfbmnmaa", sum := "81606f50b076f6be7ee7f79acde13d9d11eb4a79545beb963463ea8bd98e193f", func := "unravel/unravellaw06.MirrorCrosses", spec := "mirrorCrosses", unfollowed := true, recurses := true, apart := false, narrowed := true }
def MirrorCrossesUptoSaid : Prop := mirrorCrossesUptoRow.holds Try.pinned (OpenSpec.upto mirrorCrossesSpec)

/-- 'unravellaw06.MirrorUndoes', WHERE WHAT IT READS IS OF BULK AT MOST 1048576: true; the input reads as it did. -/
def mirrorUndoesUptoRow : OpenClaim := { program := "ytkopbcehfbmnmaa", sum := "81606f50b076f6be7ee7f79acde13d9d11eb4a79545beb963463ea8bd98e193f", func := "unravel/unravellaw06.MirrorUndoes", spec := "mirrorUndoes", unfollowed := true, recurses := true, apart := false, narrowed := true }
def MirrorUndoesUptoSaid : Prop := mirrorUndoesUptoRow.holds Try.pinned (OpenSpec.upto mirrorUndoesSpec)

/-- 'unravellaw06.MirrorReverses', WHERE WHAT IT READS IS OF BULK AT MOST 1048576: true; the input reads as it did. -/
def mirrorReversesUptoRow : OpenClaim := { program := "ytkopbcehfbmnmaa", sum := "81606f50b076f6be7ee7f79acde13d9d11eb4a79545beb963463ea8bd98e193f", func := "unravel/unravellaw06.MirrorReverses", spec := "mirrorReverses", unfollowed := true, recurses := true, apart := false, narrowed := true }
def MirrorReversesUptoSaid : Prop := mirrorReversesUptoRow.holds Try.pinned (OpenSpec.upto mirrorReversesSpec)

/-- 'unravellaw07.ConnectFactor', WHERE WHAT IT READS IS OF BULK AT MOST 1048576: true; the input reads as it did. -/
def connectFactorUptoRow : OpenClaim := { program := "ytkopbcehfbmnmaa", sum := "81606f50b076f6be7ee7f79acde13d9d11eb4a79545beb963463ea8bd98e193f", func := "unravel/unravellaw07.ConnectFactor", spec := "connectFactor", unfollowed := true, recurses := true, apart := false, narrowed := true }
def ConnectFactorUptoSaid : Prop := connectFactorUptoRow.holds Try.pinned (OpenSpec.upto connectFactorSpec)

/-- 'unravellaw07.ConnectCuts', WHERE WHAT IT READS IS OF BULK AT MOST 1048576: true; the input reads as it did. -/
def connectCutsUptoRow : OpenClaim := { program := "ytkopbcehfbmnmaa", sum := "81606f50b076f6be7ee7f79acde13d9d11eb4a79545beb963463ea8bd98e193f", func := "unravel/unravellaw07.ConnectCuts", spec := "connectCuts", unfollowed := true, recurses := true, apart := false, narrowed := true }
def ConnectCutsUptoSaid : Prop := connectCutsUptoRow.holds Try.pinned (OpenSpec.upto connectCutsSpec)

/-- 'unravellaw07.ConnectUndoes', WHERE WHAT IT READS IS OF BULK AT MOST 1048576: true; the input reads as it did. -/
def connectUndoesUptoRow : OpenClaim := { program := "ytkopbcehfbmnmaa", sum := "81606f50b076f6be7ee7f79acde13d9d11eb4a79545beb963463ea8bd98e193f", func := "unravel/unravellaw07.ConnectUndoes", spec := "connectUndoes", unfollowed := true, recurses := true, apart := false, narrowed := true }
def ConnectUndoesUptoSaid : Prop := connectUndoesUptoRow.holds Try.pinned (OpenSpec.upto connectUndoesSpec)

/-- 'unravellaw07.ConnectFactors', WHERE WHAT IT READS IS OF BULK AT MOST 1048576: true; the input reads as it did. -/
def connectFactorsUptoRow : OpenClaim := { program := "ytkopbcehfbmnmaa", sum := "81606f50b076f6be7ee7f79acde13d9d11eb4a79545beb963463ea8bd98e193f", func := "unravel/unravellaw07.ConnectFactors", spec := "connectFactors", unfollowed := true, recurses := true, apart := false, narrowed := true }
def ConnectFactorsUptoSaid : Prop := connectFactorsUptoRow.holds Try.pinned (OpenSpec.upto connectFactorsSpec)

/-- 'unravellaw07.ConnectNugatory', WHERE WHAT IT READS IS OF BULK AT MOST 1048576: true; the input reads as it did. -/
def connectNugatoryUptoRow : OpenClaim := { program := "ytkopbcehfbmnmaa", sum := "81606f50b076f6be7ee7f79acde13d9d11eb4a79545beb963463ea8bd98e193f", func := "unravel/unravellaw07.ConnectNugatory", spec := "connectNugatory", unfollowed := true, recurses := true, apart := false, narrowed := true }
def ConnectNugatoryUptoSaid : Prop := connectNugatoryUptoRow.holds Try.pinned (OpenSpec.upto connectNugatorySpec)

/-- 'unravellaw07.ConnectSums', WHERE WHAT IT READS IS OF BULK AT MOST 1048576: true; the input reads as it did. -/
def connectSumsUptoRow : OpenClaim := { program := "ytkopbcehfbmnmaa", sum := "81606f50b076f6be7ee7f79acde13d9d11eb4a79545beb963463ea8bd98e193f", func := "unravel/unravellaw07.ConnectSums", spec := "connectSums", unfollowed := true, recurses := true, apart := false, narrowed := true }
def ConnectSumsUptoSaid : Prop := connectSumsUptoRow.holds Try.pinned (OpenSpec.upto connectSumsSpec)

/-- 'unravellaw07.ConnectAlternates', WHERE WHAT IT READS IS OF BULK AT MOST 1048576: true; the input reads as it did. -/
def connectAlternatesUptoRow : OpenClaim := { program := "ytkopbcehfbmnmaa", sum := "81606f50b076f6be7ee7f79acde13d9d11eb4a79545beb963463ea8bd98e193f", func := "unravel/unravellaw07.ConnectAlternates", spec := "connectAlternates", unfollowed := true, recurses := true, apart := false, narrowed := true }
def ConnectAlternatesUptoSaid : Prop := connectAlternatesUptoRow.holds Try.pinned (OpenSpec.upto connectAlternatesSpec)

/-- 'unravellaw07.ConnectUnions', WHERE WHAT IT READS IS OF BULK AT MOST 1048576: true; the input reads as it did. -/
def connectUnionsUptoRow : OpenClaim := { program := "ytkopbcehfbmnmaa", sum := "81606f50b076f6be7ee7f79acde13d9d11eb4a79545beb963463ea8bd98e193f", func := "unravel/unravellaw07.ConnectUnions", spec := "connectUnions", unfollowed := true, recurses := true, apart := false, narrowed := true }
def ConnectUnionsUptoSaid : Prop := connectUnionsUptoRow.holds Try.pinned (OpenSpec.upto connectUnionsSpec)

end Rows
end Go.Proofs.Ytkopbcehfbmnmaa
