/-
  No cell of these rows narrows 'for every input' (looked for: loops, veiled, ifaces, maps, wideKeys, modest, calm, conditions, laid).
  DERIVED. THE GIVEN ROWS OF THIS SEAT. 9 by the template 'for every input the law returns true; each argument reads behind the call as it read before'; 0 by the template 'total and deterministic' (their statements: YtmjoijfafachhaaTotals.lean).
  GIVEN WITH THE SEED: the statements are not yours to turn. If you find one false, say at which input.
  Laid BY PROGRAM, IN A SANDBOX (cutbox-rows.mjs): the forced cells as the released guide's own fill.sh prints them over the translation bcae673ed9ea92de… (all of the seat's roots in one cut). By AI agents, Wed Nov 11 2026. No macro, syntax, notation, axiom, sorry.
-/
import Derived.Test.YtmjoijfafachhaaChecked
import GoSem.Claim
import GoSem.ClaimJoined
import GoSem.ClaimMapViews
import Derived.JoinedTies
import Derived.KernelRfl
namespace Go.Proofs.Ytmjoijfafachhaa
/- THE CELL 'sum', in the pinned program and in every row, IS THE sha256 OF THE DUMP (.gsa) THAT YtmjoijfafachhaaProg.lean LOADS. Nothing in Lean hashes anything: it is a label: what it is worth is what the hold of that sum in a sandbox is worth. -/
noncomputable def Try.pinned : Pinned := { name := "ytmjoijfafachhaa", sum := "bcae673ed9ea92de0043bd752de2705f1b2b49f34a38dafb063fb4fc4957b2a8", checked := Try.checked }
namespace Rows
def none {H : Type} : Left H := { results := [], args := [] }

/-- 'unravellaw07.ConnectSplits': WHATEVER THE INPUT: true; the input reads as it did. -/
def connectSplitsSpec : ChangeSpec := { name := "connectSplits", fn := fun _ => fun
  | [d] => { results := [.lit (.bool true)], args := [d] }
  | _ => none }
def connectSplitsRow : OpenClaim := { program := "ytmjoijfafachhaa", sum := "bcae673ed9ea92de0043bd752de2705f1b2b49f34a38dafb063fb4fc4957b2a8", func := "unravel/unravellaw07.ConnectSplits", spec := "connectSplits", unfollowed := true, recurses := true, apart := false }
def ConnectSplitsSaid : Prop := connectSplitsRow.holds Try.pinned (OpenSpec.ofChange connectSplitsSpec)

/-- ITS FALSE NEIGHBOUR: 'it returns false'. Refute it at one input. -/
def connectSplitsWrong : ChangeSpec := { name := "connectSplits", fn := fun _ => fun
  | [d] => { results := [.lit (.bool false)], args := [d] }
  | _ => none }
def ConnectSplitsWrongFalsely : Prop := connectSplitsRow.holds Try.pinned (OpenSpec.ofChange connectSplitsWrong)

/-- 'unravellaw07.ConnectFactor': WHATEVER THE INPUT: true; the input reads as it did. -/
def connectFactorSpec : ChangeSpec := { name := "connectFactor", fn := fun _ => fun
  | [d1, d2, d3] => { results := [.lit (.bool true)], args := [d1, d2, d3] }
  | _ => none }
def connectFactorRow : OpenClaim := { program := "ytmjoijfafachhaa", sum := "bcae673ed9ea92de0043bd752de2705f1b2b49f34a38dafb063fb4fc4957b2a8", func := "unravel/unravellaw07.ConnectFactor", spec := "connectFactor", unfollowed := true, recurses := true, apart := false }
def ConnectFactorSaid : Prop := connectFactorRow.holds Try.pinned (OpenSpec.ofChange connectFactorSpec)

/-- ITS FALSE NEIGHBOUR: 'it returns false'. Refute it at one input. -/
def connectFactorWrong : ChangeSpec := { name := "connectFactor", fn := fun _ => fun
  | [d1, d2, d3] => { results := [.lit (.bool false)], args := [d1, d2, d3] }
  | _ => none }
def ConnectFactorWrongFalsely : Prop := connectFactorRow.holds Try.pinned (OpenSpec.ofChange connectFactorWrong)

/-- 'unravellaw07.ConnectCuts': WHATEVER THE INPUT: true; the input reads as it did. -/
def connectCutsSpec : ChangeSpec := { name := "connectCuts", fn := fun _ => fun
  | [d] => { results := [.lit (.bool true)], args := [d] }
  | _ => none }
def connectCutsRow : OpenClaim := { program := "ytmjoijfafachhaa", sum := "bcae673ed9ea92de0043bd752de2705f1b2b49f34a38dafb063fb4fc4957b2a8", func := "unravel/unravellaw07.ConnectCuts", spec := "connectCuts", unfollowed := true, recurses := true, apart := false }
def ConnectCutsSaid : Prop := connectCutsRow.holds Try.pinned (OpenSpec.ofChange connectCutsSpec)

/-- ITS FALSE NEIGHBOUR: 'it returns false'. Refute it at one input. -/
def connectCutsWrong : ChangeSpec := { name := "connectCuts", fn := fun _ => fun
  | [d] => { results := [.lit (.bool false)], args := [d] }
  | _ => none }
def ConnectCutsWrongFalsely : Prop := connectCutsRow.holds Try.pinned (OpenSpec.ofChange connectCutsWrong)

/-- 'unravellaw07.ConnectUndoes': WHATEVER THE INPUT: true; the input reads as it did. -/
def connectUndoesSpec : ChangeSpec := { name := "connectUndoes", fn := fun _ => fun
  | [d1, d2, d3, d4] => { results := [.lit (.bool true)], args := [d1, d2, d3, d4] }
  | _ => none }
def connectUndoesRow : OpenClaim := { program := "ytmjoijfafachhaa", sum := "bcae673ed9ea92de0043bd752de2705f1b2b49f34a38dafb063fb4fc4957b2a8", func := "unravel/unravellaw07.ConnectUndoes", spec := "connectUndoes", unfollowed := true, recurses := true, apart := false }
def ConnectUndoesSaid : Prop := connectUndoesRow.holds Try.pinned (OpenSpec.ofChange connectUndoesSpec)

/-- ITS FALSE NEIGHBOUR: 'it returns false'. Refute it at one input. -/
def connectUndoesWrong : ChangeSpec := { name := "connectUndoes", fn := fun _ => fun
  | [d1, d2, d3, d4] => { results := [.lit (.bool false)], args := [d1, d2, d3, d4] }
  | _ => none }
def ConnectUndoesWrongFalsely : Prop := connectUndoesRow.holds Try.pinned (OpenSpec.ofChange connectUndoesWrong)

/-- 'unravellaw07.ConnectFactors': WHATEVER THE INPUT: true; the input reads as it did. -/
def connectFactorsSpec : ChangeSpec := { name := "connectFactors", fn := fun _ => fun
  | [d] => { results := [.lit (.bool true)], args := [d] }
  | _ => none }
def connectFactorsRow : OpenClaim := { program := "ytmjoijfafachhaa", sum := "bcae673ed9ea92de0043bd752de2705f1b2b49f34a38dafb063fb4fc4957b2a8", func := "unravel/unravellaw07.ConnectFactors", spec := "connectFactors", unfollowed := true, recurses := true, apart := false }
def ConnectFactorsSaid : Prop := connectFactorsRow.holds Try.pinned (OpenSpec.ofChange connectFactorsSpec)

/-- ITS FALSE NEIGHBOUR: 'it returns false'. Refute it at one input. -/
def connectFactorsWrong : ChangeSpec := { name := "connectFactors", fn := fun _ => fun
  | [d] => { results := [.lit (.bool false)], args := [d] }
  | _ => none }
def ConnectFactorsWrongFalsely : Prop := connectFactorsRow.holds Try.pinned (OpenSpec.ofChange connectFactorsWrong)

/-- 'unravellaw07.ConnectNugatory': WHATEVER THE INPUT: true; the input reads as it did. -/
def connectNugatorySpec : ChangeSpec := { name := "connectNugatory", fn := fun _ => fun
  | [d] => { results := [.lit (.bool true)], args := [d] }
  | _ => none }
def connectNugatoryRow : OpenClaim := { program := "ytmjoijfafachhaa", sum := "bcae673ed9ea92de0043bd752de2705f1b2b49f34a38dafb063fb4fc4957b2a8", func := "unravel/unravellaw07.ConnectNugatory", spec := "connectNugatory", unfollowed := true, recurses := true, apart := false }
def ConnectNugatorySaid : Prop := connectNugatoryRow.holds Try.pinned (OpenSpec.ofChange connectNugatorySpec)

/-- ITS FALSE NEIGHBOUR: 'it returns false'. Refute it at one input. -/
def connectNugatoryWrong : ChangeSpec := { name := "connectNugatory", fn := fun _ => fun
  | [d] => { results := [.lit (.bool false)], args := [d] }
  | _ => none }
def ConnectNugatoryWrongFalsely : Prop := connectNugatoryRow.holds Try.pinned (OpenSpec.ofChange connectNugatoryWrong)

/-- 'unravellaw07.ConnectSums': WHATEVER THE INPUT: true; the input reads as it did. -/
def connectSumsSpec : ChangeSpec := { name := "connectSums", fn := fun _ => fun
  | [d1, d2, d3, d4] => { results := [.lit (.bool true)], args := [d1, d2, d3, d4] }
  | _ => none }
def connectSumsRow : OpenClaim := { program := "ytmjoijfafachhaa", sum := "bcae673ed9ea92de0043bd752de2705f1b2b49f34a38dafb063fb4fc4957b2a8", func := "unravel/unravellaw07.ConnectSums", spec := "connectSums", unfollowed := true, recurses := true, apart := false }
def ConnectSumsSaid : Prop := connectSumsRow.holds Try.pinned (OpenSpec.ofChange connectSumsSpec)

/-- ITS FALSE NEIGHBOUR: 'it returns false'. Refute it at one input. -/
def connectSumsWrong : ChangeSpec := { name := "connectSums", fn := fun _ => fun
  | [d1, d2, d3, d4] => { results := [.lit (.bool false)], args := [d1, d2, d3, d4] }
  | _ => none }
def ConnectSumsWrongFalsely : Prop := connectSumsRow.holds Try.pinned (OpenSpec.ofChange connectSumsWrong)

/-- 'unravellaw07.ConnectAlternates': WHATEVER THE INPUT: true; the input reads as it did. -/
def connectAlternatesSpec : ChangeSpec := { name := "connectAlternates", fn := fun _ => fun
  | [d] => { results := [.lit (.bool true)], args := [d] }
  | _ => none }
def connectAlternatesRow : OpenClaim := { program := "ytmjoijfafachhaa", sum := "bcae673ed9ea92de0043bd752de2705f1b2b49f34a38dafb063fb4fc4957b2a8", func := "unravel/unravellaw07.ConnectAlternates", spec := "connectAlternates", unfollowed := true, recurses := true, apart := false }
def ConnectAlternatesSaid : Prop := connectAlternatesRow.holds Try.pinned (OpenSpec.ofChange connectAlternatesSpec)

/-- ITS FALSE NEIGHBOUR: 'it returns false'. Refute it at one input. -/
def connectAlternatesWrong : ChangeSpec := { name := "connectAlternates", fn := fun _ => fun
  | [d] => { results := [.lit (.bool false)], args := [d] }
  | _ => none }
def ConnectAlternatesWrongFalsely : Prop := connectAlternatesRow.holds Try.pinned (OpenSpec.ofChange connectAlternatesWrong)

/-- 'unravellaw07.ConnectUnions': WHATEVER THE INPUT: true; the input reads as it did. -/
def connectUnionsSpec : ChangeSpec := { name := "connectUnions", fn := fun _ => fun
  | [d1, d2, d3] => { results := [.lit (.bool true)], args := [d1, d2, d3] }
  | _ => none }
def connectUnionsRow : OpenClaim := { program := "ytmjoijfafachhaa", sum := "bcae673ed9ea92de0043bd752de2705f1b2b49f34a38dafb063fb4fc4957b2a8", func := "unravel/unravellaw07.ConnectUnions", spec := "connectUnions", unfollowed := true, recurses := true, apart := false }
def ConnectUnionsSaid : Prop := connectUnionsRow.holds Try.pinned (OpenSpec.ofChange connectUnionsSpec)

/-- ITS FALSE NEIGHBOUR: 'it returns false'. Refute it at one input. -/
def connectUnionsWrong : ChangeSpec := { name := "connectUnions", fn := fun _ => fun
  | [d1, d2, d3] => { results := [.lit (.bool false)], args := [d1, d2, d3] }
  | _ => none }
def ConnectUnionsWrongFalsely : Prop := connectUnionsRow.holds Try.pinned (OpenSpec.ofChange connectUnionsWrong)

/- THE SECOND FORM. 'bulk': how many values and letters a reading holds, each counted each time it is reached (what is shared counts as often as it is met; a slice's spare places count too). A statement '..UptoSaid' is the law's where the arguments, and the package variables that the reading takes, are together of bulk at most 1048576: NARROWER than '..Said'. Prove '..Said' where nothing that the law and all that it calls make is longer than what came in: it says more and counts as full. Else prove '..UptoSaid'. A law counts once. -/
mutual
def uptoBulk {H : Type} : DataW H → Nat
  | .lit (.string bytes) => bytes.length + 1
  | .lit _ => 1
  | .nil => 1
  | .ptr d => uptoBulk d + 1
  | .slice elems spare => uptoBulkAll elems + uptoBulkAll spare + 1
  | .agg parts => uptoBulkAll parts + 1
  | .iface _ d => uptoBulk d + 1
  | .map entries => uptoBulkEntries entries + 1
  | .held _ => 1
def uptoBulkAll {H : Type} : List (DataW H) → Nat
  | [] => 0
  | d :: r => uptoBulk d + uptoBulkAll r
def uptoBulkEntries {H : Type} : List (Lit × DataW H) → Nat
  | [] => 0
  | x :: r => uptoBulkEntry x + uptoBulkEntries r
def uptoBulkEntry {H : Type} : Lit × DataW H → Nat
  | (.string bytes, d) => bytes.length + uptoBulk d + 1
  | (_, d) => uptoBulk d + 1
 end
def uptoSmall : (H : Type) → List (DataW H) → Bool := fun _ ds => decide (uptoBulkAll ds ≤ 1048576)
def OpenSpec.upto (s : _root_.Go.ChangeSpec) : _root_.Go.OpenSpec := { _root_.Go.OpenSpec.ofChange s with cond := some uptoSmall }

/-- 'unravellaw07.ConnectSplits', WHERE WHAT IT READS IS OF BULK AT MOST 1048576: true; the input reads as it did. -/
def connectSplitsUptoRow : OpenClaim := { program := "ytmjoijfafachhaa", sum := "bcae673ed9ea92de0043bd752de2705f1b2b49f34a38dafb063fb4fc4957b2a8", func := "unravel/unravellaw07.ConnectSplits", spec := "connectSplits", unfollowed := true, recurses := true, apart := false, narrowed := true }
def ConnectSplitsUptoSaid : Prop := connectSplitsUptoRow.holds Try.pinned (OpenSpec.upto connectSplitsSpec)

/-- 'unravellaw07.ConnectFactor', WHERE WHAT IT READS IS OF BULK AT MOST 1048576: true; the input reads as it did. -/
def connectFactorUptoRow : OpenClaim := { program := "ytmjoijfafachhaa", sum := "bcae673ed9ea92de0043bd752de2705f1b2b49f34a38dafb063fb4fc4957b2a8", func := "unravel/unravellaw07.ConnectFactor", spec := "connectFactor", unfollowed := true, recurses := true, apart := false, narrowed := true }
def ConnectFactorUptoSaid : Prop := connectFactorUptoRow.holds Try.pinned (OpenSpec.upto connectFactorSpec)

/-- 'unravellaw07.ConnectCuts', WHERE WHAT IT READS IS OF BULK AT MOST 1048576: true; the input reads as it did. -/
def connectCutsUptoRow : OpenClaim := { program := "ytmjoijfafachhaa", sum := "bcae673ed9ea92de0043bd752de2705f1b2b49f34a38dafb063fb4fc4957b2a8", func := "unravel/unravellaw07.ConnectCuts", spec := "connectCuts", unfollowed := true, recurses := true, apart := false, narrowed := true }
def ConnectCutsUptoSaid : Prop := connectCutsUptoRow.holds Try.pinned (OpenSpec.upto connectCutsSpec)

/-- 'unravellaw07.ConnectUndoes', WHERE WHAT IT READS IS OF BULK AT MOST 1048576: true; the input reads as it did. -/
def connectUndoesUptoRow : OpenClaim := { program := "ytmjoijfafachhaa", sum := "bcae673ed9ea92de0043bd752de2705f1b2b49f34a38dafb063fb4fc4957b2a8", func := "unravel/unravellaw07.ConnectUndoes", spec := "connectUndoes", unfollowed := true, recurses := true, apart := false, narrowed := true }
def ConnectUndoesUptoSaid : Prop := connectUndoesUptoRow.holds Try.pinned (OpenSpec.upto connectUndoesSpec)

/-- 'unravellaw07.ConnectFactors', WHERE WHAT IT READS IS OF BULK AT MOST 1048576: true; the input reads as it did. -/
def connectFactorsUptoRow : OpenClaim := { program := "ytmjoijfafachhaa", sum := "bcae673ed9ea92de0043bd752de2705f1b2b49f34a38dafb063fb4fc4957b2a8", func := "unravel/unravellaw07.ConnectFactors", spec := "connectFactors", unfollowed := true, recurses := true, apart := false, narrowed := true }
def ConnectFactorsUptoSaid : Prop := connectFactorsUptoRow.holds Try.pinned (OpenSpec.upto connectFactorsSpec)

/-- 'unravellaw07.ConnectNugatory', WHERE WHAT IT READS IS OF BULK AT MOST 1048576: true; the input reads as it did. -/
def connectNugatoryUptoRow : OpenClaim := { program := "ytmjoijfafachhaa", sum := "bcae673ed9ea92de0043bd752de2705f1b2b49f34a38dafb063fb4fc4957b2a8", func := "unravel/unravellaw07.ConnectNugatory", spec := "connectNugatory", unfollowed := true, recurses := true, apart := false, narrowed := true }
def ConnectNugatoryUptoSaid : Prop := connectNugatoryUptoRow.holds Try.pinned (OpenSpec.upto connectNugatorySpec)

/-- 'unravellaw07.ConnectSums', WHERE WHAT IT READS IS OF BULK AT MOST 1048576: true; the input reads as it did. -/
def connectSumsUptoRow : OpenClaim := { program := "ytmjoijfafachhaa", sum := "bcae673ed9ea92de0043bd752de2705f1b2b49f34a38dafb063fb4fc4957b2a8", func := "unravel/unravellaw07.ConnectSums", spec := "connectSums", unfollowed := true, recurses := true, apart := false, narrowed := true }
def ConnectSumsUptoSaid : Prop := connectSumsUptoRow.holds Try.pinned (OpenSpec.upto connectSumsSpec)

/-- 'unravellaw07.ConnectAlternates', WHERE WHAT IT READS IS OF BULK AT MOST 1048576: true; the input reads as it did. -/
def connectAlternatesUptoRow : OpenClaim := { program := "ytmjoijfafachhaa", sum := "bcae673ed9ea92de0043bd752de2705f1b2b49f34a38dafb063fb4fc4957b2a8", func := "unravel/unravellaw07.ConnectAlternates", spec := "connectAlternates", unfollowed := true, recurses := true, apart := false, narrowed := true }
def ConnectAlternatesUptoSaid : Prop := connectAlternatesUptoRow.holds Try.pinned (OpenSpec.upto connectAlternatesSpec)

/-- 'unravellaw07.ConnectUnions', WHERE WHAT IT READS IS OF BULK AT MOST 1048576: true; the input reads as it did. -/
def connectUnionsUptoRow : OpenClaim := { program := "ytmjoijfafachhaa", sum := "bcae673ed9ea92de0043bd752de2705f1b2b49f34a38dafb063fb4fc4957b2a8", func := "unravel/unravellaw07.ConnectUnions", spec := "connectUnions", unfollowed := true, recurses := true, apart := false, narrowed := true }
def ConnectUnionsUptoSaid : Prop := connectUnionsUptoRow.holds Try.pinned (OpenSpec.upto connectUnionsSpec)

end Rows
end Go.Proofs.Ytmjoijfafachhaa
