/-
  No cell of these rows narrows 'for every input' (looked for: loops, veiled, ifaces, maps, wideKeys, modest, calm, conditions, laid).
  DERIVED. THE GIVEN ROWS OF THIS SEAT. 8 by the template 'for every input the law returns true; each argument reads behind the call as it read before'; 0 by the template 'total and deterministic' (their statements: YtlgiponfcmeiiaaTotals.lean).
  GIVEN WITH THE SEED: the statements are not yours to turn. If you find one false, say at which input.
  Laid BY PROGRAM, IN A SANDBOX (cutbox-rows.mjs): the forced cells as the released guide's own fill.sh prints them over the translation 3939ee11604c7cbf… (all of the seat's roots in one cut). By AI agents, Wed Nov 11 2026. No macro, syntax, notation, axiom, sorry.
-/
import Derived.Test.YtlgiponfcmeiiaaChecked
import GoSem.Claim
import GoSem.ClaimJoined
import GoSem.ClaimMapViews
import Derived.JoinedTies
import Derived.KernelRfl
namespace Go.Proofs.Ytlgiponfcmeiiaa
/- THE CELL 'sum', in the pinned program and in every row, IS THE sha256 OF THE DUMP (.gsa) THAT YtlgiponfcmeiiaaProg.lean LOADS. Nothing in Lean hashes anything: it is a label: what it is worth is what the hold of that sum in a sandbox is worth. -/
noncomputable def Try.pinned : Pinned := { name := "ytlgiponfcmeiiaa", sum := "3939ee11604c7cbfbb4fb040aabe7ab1850bd4bd450af9be895b8fe5ec3493ca", checked := Try.checked }
namespace Rows
def none {H : Type} : Left H := { results := [], args := [] }

/-- 'unravellaw40.GftwoRank': WHATEVER THE INPUT: true; the input reads as it did. -/
def gftwoRankSpec : ChangeSpec := { name := "gftwoRank", fn := fun _ => fun
  | [d1, d2] => { results := [.lit (.bool true)], args := [d1, d2] }
  | _ => none }
def gftwoRankRow : OpenClaim := { program := "ytlgiponfcmeiiaa", sum := "3939ee11604c7cbfbb4fb040aabe7ab1850bd4bd450af9be895b8fe5ec3493ca", func := "unravel/unravellaw40.GftwoRank", spec := "gftwoRank", unfollowed := true, recurses := true, apart := false }
def GftwoRankSaid : Prop := gftwoRankRow.holds Try.pinned (OpenSpec.ofChange gftwoRankSpec)

/-- ITS FALSE NEIGHBOUR: 'it returns false'. Refute it at one input. -/
def gftwoRankWrong : ChangeSpec := { name := "gftwoRank", fn := fun _ => fun
  | [d1, d2] => { results := [.lit (.bool false)], args := [d1, d2] }
  | _ => none }
def GftwoRankWrongFalsely : Prop := gftwoRankRow.holds Try.pinned (OpenSpec.ofChange gftwoRankWrong)

/-- 'unravellaw40.GftwoRows': WHATEVER THE INPUT: true; the input reads as it did. -/
def gftwoRowsSpec : ChangeSpec := { name := "gftwoRows", fn := fun _ => fun
  | [d1, d2, d3, d4] => { results := [.lit (.bool true)], args := [d1, d2, d3, d4] }
  | _ => none }
def gftwoRowsRow : OpenClaim := { program := "ytlgiponfcmeiiaa", sum := "3939ee11604c7cbfbb4fb040aabe7ab1850bd4bd450af9be895b8fe5ec3493ca", func := "unravel/unravellaw40.GftwoRows", spec := "gftwoRows", unfollowed := true, recurses := true, apart := false }
def GftwoRowsSaid : Prop := gftwoRowsRow.holds Try.pinned (OpenSpec.ofChange gftwoRowsSpec)

/-- ITS FALSE NEIGHBOUR: 'it returns false'. Refute it at one input. -/
def gftwoRowsWrong : ChangeSpec := { name := "gftwoRows", fn := fun _ => fun
  | [d1, d2, d3, d4] => { results := [.lit (.bool false)], args := [d1, d2, d3, d4] }
  | _ => none }
def GftwoRowsWrongFalsely : Prop := gftwoRowsRow.holds Try.pinned (OpenSpec.ofChange gftwoRowsWrong)

/-- 'unravellaw40.GftwoSpan': WHATEVER THE INPUT: true; the input reads as it did. -/
def gftwoSpanSpec : ChangeSpec := { name := "gftwoSpan", fn := fun _ => fun
  | [d1, d2] => { results := [.lit (.bool true)], args := [d1, d2] }
  | _ => none }
def gftwoSpanRow : OpenClaim := { program := "ytlgiponfcmeiiaa", sum := "3939ee11604c7cbfbb4fb040aabe7ab1850bd4bd450af9be895b8fe5ec3493ca", func := "unravel/unravellaw40.GftwoSpan", spec := "gftwoSpan", unfollowed := true, recurses := true, apart := false }
def GftwoSpanSaid : Prop := gftwoSpanRow.holds Try.pinned (OpenSpec.ofChange gftwoSpanSpec)

/-- ITS FALSE NEIGHBOUR: 'it returns false'. Refute it at one input. -/
def gftwoSpanWrong : ChangeSpec := { name := "gftwoSpan", fn := fun _ => fun
  | [d1, d2] => { results := [.lit (.bool false)], args := [d1, d2] }
  | _ => none }
def GftwoSpanWrongFalsely : Prop := gftwoSpanRow.holds Try.pinned (OpenSpec.ofChange gftwoSpanWrong)

/-- 'unravellaw40.GftwoHomology': WHATEVER THE INPUT: true; the input reads as it did. -/
def gftwoHomologySpec : ChangeSpec := { name := "gftwoHomology", fn := fun _ => fun
  | [d1, d2, d3, d4] => { results := [.lit (.bool true)], args := [d1, d2, d3, d4] }
  | _ => none }
def gftwoHomologyRow : OpenClaim := { program := "ytlgiponfcmeiiaa", sum := "3939ee11604c7cbfbb4fb040aabe7ab1850bd4bd450af9be895b8fe5ec3493ca", func := "unravel/unravellaw40.GftwoHomology", spec := "gftwoHomology", unfollowed := true, recurses := true, apart := false }
def GftwoHomologySaid : Prop := gftwoHomologyRow.holds Try.pinned (OpenSpec.ofChange gftwoHomologySpec)

/-- ITS FALSE NEIGHBOUR: 'it returns false'. Refute it at one input. -/
def gftwoHomologyWrong : ChangeSpec := { name := "gftwoHomology", fn := fun _ => fun
  | [d1, d2, d3, d4] => { results := [.lit (.bool false)], args := [d1, d2, d3, d4] }
  | _ => none }
def GftwoHomologyWrongFalsely : Prop := gftwoHomologyRow.holds Try.pinned (OpenSpec.ofChange gftwoHomologyWrong)

/-- 'unravellaw40.GftwoExact': WHATEVER THE INPUT: true; the input reads as it did. -/
def gftwoExactSpec : ChangeSpec := { name := "gftwoExact", fn := fun _ => fun
  | [d1, d2] => { results := [.lit (.bool true)], args := [d1, d2] }
  | _ => none }
def gftwoExactRow : OpenClaim := { program := "ytlgiponfcmeiiaa", sum := "3939ee11604c7cbfbb4fb040aabe7ab1850bd4bd450af9be895b8fe5ec3493ca", func := "unravel/unravellaw40.GftwoExact", spec := "gftwoExact", unfollowed := true, recurses := true, apart := false }
def GftwoExactSaid : Prop := gftwoExactRow.holds Try.pinned (OpenSpec.ofChange gftwoExactSpec)

/-- ITS FALSE NEIGHBOUR: 'it returns false'. Refute it at one input. -/
def gftwoExactWrong : ChangeSpec := { name := "gftwoExact", fn := fun _ => fun
  | [d1, d2] => { results := [.lit (.bool false)], args := [d1, d2] }
  | _ => none }
def GftwoExactWrongFalsely : Prop := gftwoExactRow.holds Try.pinned (OpenSpec.ofChange gftwoExactWrong)

/-- 'unravellaw40.GftwoMul': WHATEVER THE INPUT: true; the input reads as it did. -/
def gftwoMulSpec : ChangeSpec := { name := "gftwoMul", fn := fun _ => fun
  | [d1, d2, d3, d4] => { results := [.lit (.bool true)], args := [d1, d2, d3, d4] }
  | _ => none }
def gftwoMulRow : OpenClaim := { program := "ytlgiponfcmeiiaa", sum := "3939ee11604c7cbfbb4fb040aabe7ab1850bd4bd450af9be895b8fe5ec3493ca", func := "unravel/unravellaw40.GftwoMul", spec := "gftwoMul", unfollowed := true, recurses := true, apart := false }
def GftwoMulSaid : Prop := gftwoMulRow.holds Try.pinned (OpenSpec.ofChange gftwoMulSpec)

/-- ITS FALSE NEIGHBOUR: 'it returns false'. Refute it at one input. -/
def gftwoMulWrong : ChangeSpec := { name := "gftwoMul", fn := fun _ => fun
  | [d1, d2, d3, d4] => { results := [.lit (.bool false)], args := [d1, d2, d3, d4] }
  | _ => none }
def GftwoMulWrongFalsely : Prop := gftwoMulRow.holds Try.pinned (OpenSpec.ofChange gftwoMulWrong)

/-- 'unravellaw40.GftwoTranspose': WHATEVER THE INPUT: true; the input reads as it did. -/
def gftwoTransposeSpec : ChangeSpec := { name := "gftwoTranspose", fn := fun _ => fun
  | [d1, d2, d3, d4] => { results := [.lit (.bool true)], args := [d1, d2, d3, d4] }
  | _ => none }
def gftwoTransposeRow : OpenClaim := { program := "ytlgiponfcmeiiaa", sum := "3939ee11604c7cbfbb4fb040aabe7ab1850bd4bd450af9be895b8fe5ec3493ca", func := "unravel/unravellaw40.GftwoTranspose", spec := "gftwoTranspose", unfollowed := true, recurses := true, apart := false }
def GftwoTransposeSaid : Prop := gftwoTransposeRow.holds Try.pinned (OpenSpec.ofChange gftwoTransposeSpec)

/-- ITS FALSE NEIGHBOUR: 'it returns false'. Refute it at one input. -/
def gftwoTransposeWrong : ChangeSpec := { name := "gftwoTranspose", fn := fun _ => fun
  | [d1, d2, d3, d4] => { results := [.lit (.bool false)], args := [d1, d2, d3, d4] }
  | _ => none }
def GftwoTransposeWrongFalsely : Prop := gftwoTransposeRow.holds Try.pinned (OpenSpec.ofChange gftwoTransposeWrong)

/-- 'unravellaw40.GftwoValues': WHATEVER THE INPUT: true; the input reads as it did. -/
def gftwoValuesSpec : ChangeSpec := { name := "gftwoValues", fn := fun _ => fun
  | [d1, d2] => { results := [.lit (.bool true)], args := [d1, d2] }
  | _ => none }
def gftwoValuesRow : OpenClaim := { program := "ytlgiponfcmeiiaa", sum := "3939ee11604c7cbfbb4fb040aabe7ab1850bd4bd450af9be895b8fe5ec3493ca", func := "unravel/unravellaw40.GftwoValues", spec := "gftwoValues", unfollowed := true, recurses := true, apart := false }
def GftwoValuesSaid : Prop := gftwoValuesRow.holds Try.pinned (OpenSpec.ofChange gftwoValuesSpec)

/-- ITS FALSE NEIGHBOUR: 'it returns false'. Refute it at one input. -/
def gftwoValuesWrong : ChangeSpec := { name := "gftwoValues", fn := fun _ => fun
  | [d1, d2] => { results := [.lit (.bool false)], args := [d1, d2] }
  | _ => none }
def GftwoValuesWrongFalsely : Prop := gftwoValuesRow.holds Try.pinned (OpenSpec.ofChange gftwoValuesWrong)

/- THE SECOND FORM. 'bulk': how many values and letters a reading holds, each counted each time it is reached (what is shared counts as often as it is met; a slice's spare places count too). A statement '..UptoSaid' is the law's where the arguments, and the package variables that the reading takes, are together of bulk at most 1048576: NARROWER than '..Said'. Prove '..Said' where nothing that the law and all that it calls make is longer than what came in: it says more and counts as full. Else prove '..UptoSaid'. A law counts once. -/
mutual
def uptoBulk {H : Type} : DataW H → Nat
  | .lit (.string bytes) => bytes.length + 1
  | .lit _ => 1
  | .nil => 1
  | .ptr d => uptoBulk d + 1
  | .slice elems spare => uptoBulkAll elems + uptoBulkAll spare + 1
  | .agg parts => uptoBulkAll parts + 1
  | .iface _ d => uptoBulk d + 1
  | .map entries => uptoBulkEntries entries + 1
  | .held _ => 1
def uptoBulkAll {H : Type} : List (DataW H) → Nat
  | [] => 0
  | d :: r => uptoBulk d + uptoBulkAll r
def uptoBulkEntries {H : Type} : List (Lit × DataW H) → Nat
  | [] => 0
  | x :: r => uptoBulkEntry x + uptoBulkEntries r
def uptoBulkEntry {H : Type} : Lit × DataW H → Nat
  | (.string bytes, d) => bytes.length + uptoBulk d + 1
  | (_, d) => uptoBulk d + 1
 end
def uptoSmall : (H : Type) → List (DataW H) → Bool := fun _ ds => decide (uptoBulkAll ds ≤ 1048576)
def OpenSpec.upto (s : _root_.Go.ChangeSpec) : _root_.Go.OpenSpec := { _root_.Go.OpenSpec.ofChange s with cond := some uptoSmall }

/-- 'unravellaw40.GftwoRank', WHERE WHAT IT READS IS OF BULK AT MOST 1048576: true; the input reads as it did. -/
def gftwoRankUptoRow : OpenClaim := { program := "ytlgiponfcmeiiaa", sum := "3939ee11604c7cbfbb4fb040aabe7ab1850bd4bd450af9be895b8fe5ec3493ca", func := "unravel/unravellaw40.GftwoRank", spec := "gftwoRank", unfollowed := true, recurses := true, apart := false, narrowed := true }
def GftwoRankUptoSaid : Prop := gftwoRankUptoRow.holds Try.pinned (OpenSpec.upto gftwoRankSpec)

/-- 'unravellaw40.GftwoRows', WHERE WHAT IT READS IS OF BULK AT MOST 1048576: true; the input reads as it did. -/
def gftwoRowsUptoRow : OpenClaim := { program := "ytlgiponfcmeiiaa", sum := "3939ee11604c7cbfbb4fb040aabe7ab1850bd4bd450af9be895b8fe5ec3493ca", func := "unravel/unravellaw40.GftwoRows", spec := "gftwoRows", unfollowed := true, recurses := true, apart := false, narrowed := true }
def GftwoRowsUptoSaid : Prop := gftwoRowsUptoRow.holds Try.pinned (OpenSpec.upto gftwoRowsSpec)

/-- 'unravellaw40.GftwoSpan', WHERE WHAT IT READS IS OF BULK AT MOST 1048576: true; the input reads as it did. -/
def gftwoSpanUptoRow : OpenClaim := { program := "ytlgiponfcmeiiaa", sum := "3939ee11604c7cbfbb4fb040aabe7ab1850bd4bd450af9be895b8fe5ec3493ca", func := "unravel/unravellaw40.GftwoSpan", spec := "gftwoSpan", unfollowed := true, recurses := true, apart := false, narrowed := true }
def GftwoSpanUptoSaid : Prop := gftwoSpanUptoRow.holds Try.pinned (OpenSpec.upto gftwoSpanSpec)

/-- 'unravellaw40.GftwoHomology', WHERE WHAT IT READS IS OF BULK AT MOST 1048576: true; the input reads as it did. -/
def gftwoHomologyUptoRow : OpenClaim := { program := "ytlgiponfcmeiiaa", sum := "3939ee11604c7cbfbb4fb040aabe7ab1850bd4bd450af9be895b8fe5ec3493ca", func := "unravel/unravellaw40.GftwoHomology", spec := "gftwoHomology", unfollowed := true, recurses := true, apart := false, narrowed := true }
def GftwoHomologyUptoSaid : Prop := gftwoHomologyUptoRow.holds Try.pinned (OpenSpec.upto gftwoHomologySpec)

/-- 'unravellaw40.GftwoExact', WHERE WHAT IT READS IS OF BULK AT MOST 1048576: true; the input reads as it did. -/
def gftwoExactUptoRow : OpenClaim := { program := "ytlgiponfcmeiiaa", sum := "3939ee11604c7cbfbb4fb040aabe7ab1850bd4bd450af9be895b8fe5ec3493ca", func := "unravel/unravellaw40.GftwoExact", spec := "gftwoExact", unfollowed := true, recurses := true, apart := false, narrowed := true }
def GftwoExactUptoSaid : Prop := gftwoExactUptoRow.holds Try.pinned (OpenSpec.upto gftwoExactSpec)

/-- 'unravellaw40.GftwoMul', WHERE WHAT IT READS IS OF BULK AT MOST 1048576: true; the input reads as it did. -/
def gftwoMulUptoRow : OpenClaim := { program := "ytlgiponfcmeiiaa", sum := "3939ee11604c7cbfbb4fb040aabe7ab1850bd4bd450af9be895b8fe5ec3493ca", func := "unravel/unravellaw40.GftwoMul", spec := "gftwoMul", unfollowed := true, recurses := true, apart := false, narrowed := true }
def GftwoMulUptoSaid : Prop := gftwoMulUptoRow.holds Try.pinned (OpenSpec.upto gftwoMulSpec)

/-- 'unravellaw40.GftwoTranspose', WHERE WHAT IT READS IS OF BULK AT MOST 1048576: true; the input reads as it did. -/
def gftwoTransposeUptoRow : OpenClaim := { program := "ytlgiponfcmeiiaa", sum := "3939ee11604c7cbfbb4fb040aabe7ab1850bd4bd450af9be895b8fe5ec3493ca", func := "unravel/unravellaw40.GftwoTranspose", spec := "gftwoTranspose", unfollowed := true, recurses := true, apart := false, narrowed := true }
def GftwoTransposeUptoSaid : Prop := gftwoTransposeUptoRow.holds Try.pinned (OpenSpec.upto gftwoTransposeSpec)

/-- 'unravellaw40.GftwoValues', WHERE WHAT IT READS IS OF BULK AT MOST 1048576: true; the input reads as it did. -/
def gftwoValuesUptoRow : OpenClaim := { program := "ytlgiponfcmeiiaa", sum := "3939ee11604c7cbfbb4fb040aabe7ab1850bd4bd450af9be895b8fe5ec3493ca", func := "unravel/unravellaw40.GftwoValues", spec := "gftwoValues", unfollowed := true, recurses := true, apart := false, narrowed := true }
def GftwoValuesUptoSaid : Prop := gftwoValuesUptoRow.holds Try.pinned (OpenSpec.upto gftwoValuesSpec)

end Rows
end Go.Proofs.Ytlgiponfcmeiiaa
