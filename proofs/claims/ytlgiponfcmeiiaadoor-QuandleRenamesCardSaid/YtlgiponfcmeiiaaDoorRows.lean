/-
  NARROWER THAN 'FOR EVERY INPUT', by the rows' own cells (each row's printed sentence says how): QuandleFamilies: laid · QuandleInverse: laid · QuandleOrbits: laid · QuandleRenames: laid · QuandleDihedral: laid · QuandleValid: laid · QuandleAutomorphisms: laid.
  DERIVED. THE GIVEN ROWS OF THIS SEAT. 7 by the template 'for every input the law returns true; each argument reads behind the call as it read before'; 0 by the template 'total and deterministic' (their statements: YtlgiponfcmeiiaaDoorTotals.lean).
  GIVEN WITH THE SEED: the statements are not yours to turn. If you find one false, say at which input.
  Laid BY PROGRAM, IN A SANDBOX (cutbox-rows.mjs): the forced cells as the released guide's own fill.sh prints them over the translation 2a544a41b1165699… (all of the seat's roots in one cut). By AI agents, Wed Nov 11 2026. No macro, syntax, notation, axiom, sorry.
-/
import Derived.Test.YtlgiponfcmeiiaaDoorChecked
import GoSem.Claim
import GoSem.ClaimJoined
import GoSem.ClaimMapViews
import Derived.JoinedTies
import Derived.KernelRfl
namespace Go.Proofs.YtlgiponfcmeiiaaDoor
/- THE CELL 'sum', in the pinned program and in every row, IS THE sha256 OF THE DUMP (.gsa) THAT YtlgiponfcmeiiaaDoorProg.lean LOADS. Nothing in Lean hashes anything: it is a label: what it is worth is what the hold of that sum in a sandbox is worth. -/
noncomputable def Tryd.pinned : Pinned := { name := "ytlgiponfcmeiiaadoor", sum := "2a544a41b1165699d2c38bf29af9ac7303c2b9f31bda492b92b432510af80e4d", checked := Tryd.checked }
namespace Rows
def none {H : Type} : Left H := { results := [], args := [] }

/- WHAT THE LISTED PACKAGE-LEVEL VARIABLES READ AS WHEN THE CALL BEGINS. Each datum BY PROGRAM (the guide's laid-datum.mjs) off the statement by which the dump's own 'gosem.cut.vars' lays the variable. In a bare row this is a premise. The card (YtlgiponfcmeiiaaDoorCards.lean) ties it to the program's text. -/
def laid_math_bits_deBruijn32tab {H : Type} : DataW H := .agg [.lit (.int .u8 0), .lit (.int .u8 1), .lit (.int .u8 28), .lit (.int .u8 2), .lit (.int .u8 29), .lit (.int .u8 14), .lit (.int .u8 24), .lit (.int .u8 3), .lit (.int .u8 30), .lit (.int .u8 22), .lit (.int .u8 20), .lit (.int .u8 15), .lit (.int .u8 25), .lit (.int .u8 17), .lit (.int .u8 4), .lit (.int .u8 8), .lit (.int .u8 31), .lit (.int .u8 27), .lit (.int .u8 13), .lit (.int .u8 23), .lit (.int .u8 21), .lit (.int .u8 19), .lit (.int .u8 16), .lit (.int .u8 7), .lit (.int .u8 26), .lit (.int .u8 12), .lit (.int .u8 18), .lit (.int .u8 6), .lit (.int .u8 11), .lit (.int .u8 5), .lit (.int .u8 10), .lit (.int .u8 9)]
def laid_math_bits_deBruijn64tab {H : Type} : DataW H := .agg [.lit (.int .u8 0), .lit (.int .u8 1), .lit (.int .u8 56), .lit (.int .u8 2), .lit (.int .u8 57), .lit (.int .u8 49), .lit (.int .u8 28), .lit (.int .u8 3), .lit (.int .u8 61), .lit (.int .u8 58), .lit (.int .u8 42), .lit (.int .u8 50), .lit (.int .u8 38), .lit (.int .u8 29), .lit (.int .u8 17), .lit (.int .u8 4), .lit (.int .u8 62), .lit (.int .u8 47), .lit (.int .u8 59), .lit (.int .u8 36), .lit (.int .u8 45), .lit (.int .u8 43), .lit (.int .u8 51), .lit (.int .u8 22), .lit (.int .u8 53), .lit (.int .u8 39), .lit (.int .u8 33), .lit (.int .u8 30), .lit (.int .u8 24), .lit (.int .u8 18), .lit (.int .u8 12), .lit (.int .u8 5), .lit (.int .u8 63), .lit (.int .u8 55), .lit (.int .u8 48), .lit (.int .u8 27), .lit (.int .u8 60), .lit (.int .u8 41), .lit (.int .u8 37), .lit (.int .u8 16), .lit (.int .u8 46), .lit (.int .u8 35), .lit (.int .u8 44), .lit (.int .u8 21), .lit (.int .u8 52), .lit (.int .u8 32), .lit (.int .u8 23), .lit (.int .u8 11), .lit (.int .u8 54), .lit (.int .u8 26), .lit (.int .u8 40), .lit (.int .u8 15), .lit (.int .u8 34), .lit (.int .u8 20), .lit (.int .u8 31), .lit (.int .u8 10), .lit (.int .u8 25), .lit (.int .u8 14), .lit (.int .u8 19), .lit (.int .u8 9), .lit (.int .u8 13), .lit (.int .u8 8), .lit (.int .u8 7), .lit (.int .u8 6)]
def laid_internal_strconv_uint64pow10 {H : Type} : DataW H := .agg [.lit (.int .u64 1), .lit (.int .u64 10), .lit (.int .u64 100), .lit (.int .u64 1000), .lit (.int .u64 10000), .lit (.int .u64 100000), .lit (.int .u64 1000000), .lit (.int .u64 10000000), .lit (.int .u64 100000000), .lit (.int .u64 1000000000), .lit (.int .u64 10000000000), .lit (.int .u64 100000000000), .lit (.int .u64 1000000000000), .lit (.int .u64 10000000000000), .lit (.int .u64 100000000000000), .lit (.int .u64 1000000000000000), .lit (.int .u64 10000000000000000), .lit (.int .u64 100000000000000000), .lit (.int .u64 1000000000000000000), .lit (.int .u64 10000000000000000000)]

/-- 'unravellaw28.QuandleFamilies': WHATEVER THE INPUT: true; the input reads as it did. -/
def quandleFamiliesSpec : ChangeSpec := { name := "quandleFamilies", fn := fun _ => fun
  | [d1, d2] => { results := [.lit (.bool true)], args := [d1, d2] }
  | _ => none }
def quandleFamiliesRow : OpenClaim := { program := "ytlgiponfcmeiiaadoor", sum := "2a544a41b1165699d2c38bf29af9ac7303c2b9f31bda492b92b432510af80e4d", func := "unravel/unravellaw28.QuandleFamilies", spec := "quandleFamilies", inPlace := ["internal/abi.NoEscape"], named := ["internal/strconv.uint64pow10", "math/bits.deBruijn32tab", "math/bits.deBruijn64tab"], apart := false, laid := [("math/bits.deBruijn32tab", laid_math_bits_deBruijn32tab), ("math/bits.deBruijn64tab", laid_math_bits_deBruijn64tab), ("internal/strconv.uint64pow10", laid_internal_strconv_uint64pow10)] }
def QuandleFamiliesSaid : Prop := quandleFamiliesRow.holds Tryd.pinned (OpenSpec.ofChange quandleFamiliesSpec)

/-- ITS FALSE NEIGHBOUR: 'it returns false'. Refute it at one input. -/
def quandleFamiliesWrong : ChangeSpec := { name := "quandleFamilies", fn := fun _ => fun
  | [d1, d2] => { results := [.lit (.bool false)], args := [d1, d2] }
  | _ => none }
def QuandleFamiliesWrongFalsely : Prop := quandleFamiliesRow.holds Tryd.pinned (OpenSpec.ofChange quandleFamiliesWrong)

/-- 'unravellaw28.QuandleInverse': WHATEVER THE INPUT: true; the input reads as it did. -/
def quandleInverseSpec : ChangeSpec := { name := "quandleInverse", fn := fun _ => fun
  | [d1, d2, d3] => { results := [.lit (.bool true)], args := [d1, d2, d3] }
  | _ => none }
def quandleInverseRow : OpenClaim := { program := "ytlgiponfcmeiiaadoor", sum := "2a544a41b1165699d2c38bf29af9ac7303c2b9f31bda492b92b432510af80e4d", func := "unravel/unravellaw28.QuandleInverse", spec := "quandleInverse", inPlace := ["internal/abi.NoEscape"], named := ["internal/strconv.uint64pow10", "math/bits.deBruijn32tab", "math/bits.deBruijn64tab"], apart := false, laid := [("math/bits.deBruijn32tab", laid_math_bits_deBruijn32tab), ("math/bits.deBruijn64tab", laid_math_bits_deBruijn64tab), ("internal/strconv.uint64pow10", laid_internal_strconv_uint64pow10)] }
def QuandleInverseSaid : Prop := quandleInverseRow.holds Tryd.pinned (OpenSpec.ofChange quandleInverseSpec)

/-- ITS FALSE NEIGHBOUR: 'it returns false'. Refute it at one input. -/
def quandleInverseWrong : ChangeSpec := { name := "quandleInverse", fn := fun _ => fun
  | [d1, d2, d3] => { results := [.lit (.bool false)], args := [d1, d2, d3] }
  | _ => none }
def QuandleInverseWrongFalsely : Prop := quandleInverseRow.holds Tryd.pinned (OpenSpec.ofChange quandleInverseWrong)

/-- 'unravellaw28.QuandleOrbits': WHATEVER THE INPUT: true; the input reads as it did. -/
def quandleOrbitsSpec : ChangeSpec := { name := "quandleOrbits", fn := fun _ => fun
  | [d] => { results := [.lit (.bool true)], args := [d] }
  | _ => none }
def quandleOrbitsRow : OpenClaim := { program := "ytlgiponfcmeiiaadoor", sum := "2a544a41b1165699d2c38bf29af9ac7303c2b9f31bda492b92b432510af80e4d", func := "unravel/unravellaw28.QuandleOrbits", spec := "quandleOrbits", inPlace := ["internal/abi.NoEscape"], unfollowed := true, recurses := true, named := ["internal/strconv.uint64pow10", "math/bits.deBruijn32tab", "math/bits.deBruijn64tab"], apart := false, laid := [("math/bits.deBruijn32tab", laid_math_bits_deBruijn32tab), ("math/bits.deBruijn64tab", laid_math_bits_deBruijn64tab), ("internal/strconv.uint64pow10", laid_internal_strconv_uint64pow10)] }
def QuandleOrbitsSaid : Prop := quandleOrbitsRow.holds Tryd.pinned (OpenSpec.ofChange quandleOrbitsSpec)

/-- ITS FALSE NEIGHBOUR: 'it returns false'. Refute it at one input. -/
def quandleOrbitsWrong : ChangeSpec := { name := "quandleOrbits", fn := fun _ => fun
  | [d] => { results := [.lit (.bool false)], args := [d] }
  | _ => none }
def QuandleOrbitsWrongFalsely : Prop := quandleOrbitsRow.holds Tryd.pinned (OpenSpec.ofChange quandleOrbitsWrong)

/-- 'unravellaw28.QuandleRenames': WHATEVER THE INPUT: true; the input reads as it did. -/
def quandleRenamesSpec : ChangeSpec := { name := "quandleRenames", fn := fun _ => fun
  | [d1, d2, d3] => { results := [.lit (.bool true)], args := [d1, d2, d3] }
  | _ => none }
def quandleRenamesRow : OpenClaim := { program := "ytlgiponfcmeiiaadoor", sum := "2a544a41b1165699d2c38bf29af9ac7303c2b9f31bda492b92b432510af80e4d", func := "unravel/unravellaw28.QuandleRenames", spec := "quandleRenames", inPlace := ["internal/abi.NoEscape"], unfollowed := true, recurses := true, named := ["internal/strconv.uint64pow10", "math/bits.deBruijn32tab", "math/bits.deBruijn64tab"], apart := false, laid := [("math/bits.deBruijn32tab", laid_math_bits_deBruijn32tab), ("math/bits.deBruijn64tab", laid_math_bits_deBruijn64tab), ("internal/strconv.uint64pow10", laid_internal_strconv_uint64pow10)] }
def QuandleRenamesSaid : Prop := quandleRenamesRow.holds Tryd.pinned (OpenSpec.ofChange quandleRenamesSpec)

/-- ITS FALSE NEIGHBOUR: 'it returns false'. Refute it at one input. -/
def quandleRenamesWrong : ChangeSpec := { name := "quandleRenames", fn := fun _ => fun
  | [d1, d2, d3] => { results := [.lit (.bool false)], args := [d1, d2, d3] }
  | _ => none }
def QuandleRenamesWrongFalsely : Prop := quandleRenamesRow.holds Tryd.pinned (OpenSpec.ofChange quandleRenamesWrong)

/-- 'unravellaw28.QuandleDihedral': WHATEVER THE INPUT: true; the input reads as it did. -/
def quandleDihedralSpec : ChangeSpec := { name := "quandleDihedral", fn := fun _ => fun
  | [d] => { results := [.lit (.bool true)], args := [d] }
  | _ => none }
def quandleDihedralRow : OpenClaim := { program := "ytlgiponfcmeiiaadoor", sum := "2a544a41b1165699d2c38bf29af9ac7303c2b9f31bda492b92b432510af80e4d", func := "unravel/unravellaw28.QuandleDihedral", spec := "quandleDihedral", inPlace := ["internal/abi.NoEscape"], unfollowed := true, recurses := true, named := ["internal/strconv.uint64pow10", "math/bits.deBruijn32tab", "math/bits.deBruijn64tab"], apart := false, laid := [("math/bits.deBruijn32tab", laid_math_bits_deBruijn32tab), ("math/bits.deBruijn64tab", laid_math_bits_deBruijn64tab), ("internal/strconv.uint64pow10", laid_internal_strconv_uint64pow10)] }
def QuandleDihedralSaid : Prop := quandleDihedralRow.holds Tryd.pinned (OpenSpec.ofChange quandleDihedralSpec)

/-- ITS FALSE NEIGHBOUR: 'it returns false'. Refute it at one input. -/
def quandleDihedralWrong : ChangeSpec := { name := "quandleDihedral", fn := fun _ => fun
  | [d] => { results := [.lit (.bool false)], args := [d] }
  | _ => none }
def QuandleDihedralWrongFalsely : Prop := quandleDihedralRow.holds Tryd.pinned (OpenSpec.ofChange quandleDihedralWrong)

/-- 'unravellaw28.QuandleValid': WHATEVER THE INPUT: true; the input reads as it did. -/
def quandleValidSpec : ChangeSpec := { name := "quandleValid", fn := fun _ => fun
  | [d] => { results := [.lit (.bool true)], args := [d] }
  | _ => none }
def quandleValidRow : OpenClaim := { program := "ytlgiponfcmeiiaadoor", sum := "2a544a41b1165699d2c38bf29af9ac7303c2b9f31bda492b92b432510af80e4d", func := "unravel/unravellaw28.QuandleValid", spec := "quandleValid", inPlace := ["internal/abi.NoEscape"], unfollowed := true, recurses := true, named := ["internal/strconv.uint64pow10", "math/bits.deBruijn32tab", "math/bits.deBruijn64tab"], apart := false, laid := [("math/bits.deBruijn32tab", laid_math_bits_deBruijn32tab), ("math/bits.deBruijn64tab", laid_math_bits_deBruijn64tab), ("internal/strconv.uint64pow10", laid_internal_strconv_uint64pow10)] }
def QuandleValidSaid : Prop := quandleValidRow.holds Tryd.pinned (OpenSpec.ofChange quandleValidSpec)

/-- ITS FALSE NEIGHBOUR: 'it returns false'. Refute it at one input. -/
def quandleValidWrong : ChangeSpec := { name := "quandleValid", fn := fun _ => fun
  | [d] => { results := [.lit (.bool false)], args := [d] }
  | _ => none }
def QuandleValidWrongFalsely : Prop := quandleValidRow.holds Tryd.pinned (OpenSpec.ofChange quandleValidWrong)

/-- 'unravellaw28.QuandleAutomorphisms': WHATEVER THE INPUT: true; the input reads as it did. -/
def quandleAutomorphismsSpec : ChangeSpec := { name := "quandleAutomorphisms", fn := fun _ => fun
  | [d1, d2] => { results := [.lit (.bool true)], args := [d1, d2] }
  | _ => none }
def quandleAutomorphismsRow : OpenClaim := { program := "ytlgiponfcmeiiaadoor", sum := "2a544a41b1165699d2c38bf29af9ac7303c2b9f31bda492b92b432510af80e4d", func := "unravel/unravellaw28.QuandleAutomorphisms", spec := "quandleAutomorphisms", inPlace := ["internal/abi.NoEscape"], unfollowed := true, recurses := true, named := ["internal/strconv.uint64pow10", "math/bits.deBruijn32tab", "math/bits.deBruijn64tab"], apart := false, laid := [("math/bits.deBruijn32tab", laid_math_bits_deBruijn32tab), ("math/bits.deBruijn64tab", laid_math_bits_deBruijn64tab), ("internal/strconv.uint64pow10", laid_internal_strconv_uint64pow10)] }
def QuandleAutomorphismsSaid : Prop := quandleAutomorphismsRow.holds Tryd.pinned (OpenSpec.ofChange quandleAutomorphismsSpec)

/-- ITS FALSE NEIGHBOUR: 'it returns false'. Refute it at one input. -/
def quandleAutomorphismsWrong : ChangeSpec := { name := "quandleAutomorphisms", fn := fun _ => fun
  | [d1, d2] => { results := [.lit (.bool false)], args := [d1, d2] }
  | _ => none }
def QuandleAutomorphismsWrongFalsely : Prop := quandleAutomorphismsRow.holds Tryd.pinned (OpenSpec.ofChange quandleAutomorphismsWrong)

/- THE SECOND FORM. 'bulk': how many values and letters a reading holds, each counted each time it is reached (what is shared counts as often as it is met; a slice's spare places count too). A statement '..UptoSaid' is the law's where the arguments, and the package variables that the reading takes, are together of bulk at most 1048576: NARROWER than '..Said'. Prove '..Said' where nothing that the law and all that it calls make is longer than what came in: it says more and counts as full. Else prove '..UptoSaid'. A law counts once. -/
mutual
def uptoBulk {H : Type} : DataW H → Nat
  | .lit (.string bytes) => bytes.length + 1
  | .lit _ => 1
  | .nil => 1
  | .ptr d => uptoBulk d + 1
  | .slice elems spare => uptoBulkAll elems + uptoBulkAll spare + 1
  | .agg parts => uptoBulkAll parts + 1
  | .iface _ d => uptoBulk d + 1
  | .map entries => uptoBulkEntries entries + 1
  | .held _ => 1
def uptoBulkAll {H : Type} : List (DataW H) → Nat
  | [] => 0
  | d :: r => uptoBulk d + uptoBulkAll r
def uptoBulkEntries {H : Type} : List (Lit × DataW H) → Nat
  | [] => 0
  | x :: r => uptoBulkEntry x + uptoBulkEntries r
def uptoBulkEntry {H : Type} : Lit × DataW H → Nat
  | (.string bytes, d) => bytes.length + uptoBulk d + 1
  | (_, d) => uptoBulk d + 1
 end
def uptoSmall : (H : Type) → List (DataW H) → Bool := fun _ ds => decide (uptoBulkAll ds ≤ 1048576)
def OpenSpec.upto (s : _root_.Go.ChangeSpec) : _root_.Go.OpenSpec := { _root_.Go.OpenSpec.ofChange s with cond := some uptoSmall }

/-- 'unravellaw28.QuandleFamilies', WHERE WHAT IT READS IS OF BULK AT MOST 1048576: true; the input reads as it did. -/
def quandleFamiliesUptoRow : OpenClaim := { program := "ytlgiponfcmeiiaadoor", sum := "2a544a41b1165699d2c38bf29af9ac7303c2b9f31bda492b92b432510af80e4d", func := "unravel/unravellaw28.QuandleFamilies", spec := "quandleFamilies", inPlace := ["internal/abi.NoEscape"], named := ["internal/strconv.uint64pow10", "math/bits.deBruijn32tab", "math/bits.deBruijn64tab"], apart := false, laid := [("math/bits.deBruijn32tab", laid_math_bits_deBruijn32tab), ("math/bits.deBruijn64tab", laid_math_bits_deBruijn64tab), ("internal/strconv.uint64pow10", laid_internal_strconv_uint64pow10)], narrowed := true }
def QuandleFamiliesUptoSaid : Prop := quandleFamiliesUptoRow.holds Tryd.pinned (OpenSpec.upto quandleFamiliesSpec)

/-- 'unravellaw28.QuandleInverse', WHERE WHAT IT READS IS OF BULK AT MOST 1048576: true; the input reads as it did. -/
def quandleInverseUptoRow : OpenClaim := { program := "ytlgiponfcmeiiaadoor", sum := "2a544a41b1165699d2c38bf29af9ac7303c2b9f31bda492b92b432510af80e4d", func := "unravel/unravellaw28.QuandleInverse", spec := "quandleInverse", inPlace := ["internal/abi.NoEscape"], named := ["internal/strconv.uint64pow10", "math/bits.deBruijn32tab", "math/bits.deBruijn64tab"], apart := false, laid := [("math/bits.deBruijn32tab", laid_math_bits_deBruijn32tab), ("math/bits.deBruijn64tab", laid_math_bits_deBruijn64tab), ("internal/strconv.uint64pow10", laid_internal_strconv_uint64pow10)], narrowed := true }
def QuandleInverseUptoSaid : Prop := quandleInverseUptoRow.holds Tryd.pinned (OpenSpec.upto quandleInverseSpec)

/-- 'unravellaw28.QuandleOrbits', WHERE WHAT IT READS IS OF BULK AT MOST 1048576: true; the input reads as it did. -/
def quandleOrbitsUptoRow : OpenClaim := { program := "ytlgiponfcmeiiaadoor", sum := "2a544a41b1165699d2c38bf29af9ac7303c2b9f31bda492b92b432510af80e4d", func := "unravel/unravellaw28.QuandleOrbits", spec := "quandleOrbits", inPlace := ["internal/abi.NoEscape"], unfollowed := true, recurses := true, named := ["internal/strconv.uint64pow10", "math/bits.deBruijn32tab", "math/bits.deBruijn64tab"], apart := false, laid := [("math/bits.deBruijn32tab", laid_math_bits_deBruijn32tab), ("math/bits.deBruijn64tab", laid_math_bits_deBruijn64tab), ("internal/strconv.uint64pow10", laid_internal_strconv_uint64pow10)], narrowed := true }
def QuandleOrbitsUptoSaid : Prop := quandleOrbitsUptoRow.holds Tryd.pinned (OpenSpec.upto quandleOrbitsSpec)

/-- 'unravellaw28.QuandleRenames', WHERE WHAT IT READS IS OF BULK AT MOST 1048576: true; the input reads as it did. -/
def quandleRenamesUptoRow : OpenClaim := { program := "ytlgiponfcmeiiaadoor", sum := "2a544a41b1165699d2c38bf29af9ac7303c2b9f31bda492b92b432510af80e4d", func := "unravel/unravellaw28.QuandleRenames", spec := "quandleRenames", inPlace := ["internal/abi.NoEscape"], unfollowed := true, recurses := true, named := ["internal/strconv.uint64pow10", "math/bits.deBruijn32tab", "math/bits.deBruijn64tab"], apart := false, laid := [("math/bits.deBruijn32tab", laid_math_bits_deBruijn32tab), ("math/bits.deBruijn64tab", laid_math_bits_deBruijn64tab), ("internal/strconv.uint64pow10", laid_internal_strconv_uint64pow10)], narrowed := true }
def QuandleRenamesUptoSaid : Prop := quandleRenamesUptoRow.holds Tryd.pinned (OpenSpec.upto quandleRenamesSpec)

/-- 'unravellaw28.QuandleDihedral', WHERE WHAT IT READS IS OF BULK AT MOST 1048576: true; the input reads as it did. -/
def quandleDihedralUptoRow : OpenClaim := { program := "ytlgiponfcmeiiaadoor", sum := "2a544a41b1165699d2c38bf29af9ac7303c2b9f31bda492b92b432510af80e4d", func := "unravel/unravellaw28.QuandleDihedral", spec := "quandleDihedral", inPlace := ["internal/abi.NoEscape"], unfollowed := true, recurses := true, named := ["internal/strconv.uint64pow10", "math/bits.deBruijn32tab", "math/bits.deBruijn64tab"], apart := false, laid := [("math/bits.deBruijn32tab", laid_math_bits_deBruijn32tab), ("math/bits.deBruijn64tab", laid_math_bits_deBruijn64tab), ("internal/strconv.uint64pow10", laid_internal_strconv_uint64pow10)], narrowed := true }
def QuandleDihedralUptoSaid : Prop := quandleDihedralUptoRow.holds Tryd.pinned (OpenSpec.upto quandleDihedralSpec)

/-- 'unravellaw28.QuandleValid', WHERE WHAT IT READS IS OF BULK AT MOST 1048576: true; the input reads as it did. -/
def quandleValidUptoRow : OpenClaim := { program := "ytlgiponfcmeiiaadoor", sum := "2a544a41b1165699d2c38bf29af9ac7303c2b9f31bda492b92b432510af80e4d", func := "unravel/unravellaw28.QuandleValid", spec := "quandleValid", inPlace := ["internal/abi.NoEscape"], unfollowed := true, recurses := true, named := ["internal/strconv.uint64pow10", "math/bits.deBruijn32tab", "math/bits.deBruijn64tab"], apart := false, laid := [("math/bits.deBruijn32tab", laid_math_bits_deBruijn32tab), ("math/bits.deBruijn64tab", laid_math_bits_deBruijn64tab), ("internal/strconv.uint64pow10", laid_internal_strconv_uint64pow10)], narrowed := true }
def QuandleValidUptoSaid : Prop := quandleValidUptoRow.holds Tryd.pinned (OpenSpec.upto quandleValidSpec)

/-- 'unravellaw28.QuandleAutomorphisms', WHERE WHAT IT READS IS OF BULK AT MOST 1048576: true; the input reads as it did. -/
def quandleAutomorphismsUptoRow : OpenClaim := { program := "ytlgiponfcmeiiaadoor", sum := "2a544a41b1165699d2c38bf29af9ac7303c2b9f31bda492b92b432510af80e4d", func := "unravel/unravellaw28.QuandleAutomorphisms", spec := "quandleAutomorphisms", inPlace := ["internal/abi.NoEscape"], unfollowed := true, recurses := true, named := ["internal/strconv.uint64pow10", "math/bits.deBruijn32tab", "math/bits.deBruijn64tab"], apart := false, laid := [("math/bits.deBruijn32tab", laid_math_bits_deBruijn32tab), ("math/bits.deBruijn64tab", laid_math_bits_deBruijn64tab), ("internal/strconv.uint64pow10", laid_internal_strconv_uint64pow10)], narrowed := true }
def QuandleAutomorphismsUptoSaid : Prop := quandleAutomorphismsUptoRow.holds Tryd.pinned (OpenSpec.upto quandleAutomorphismsSpec)

end Rows
end Go.Proofs.YtlgiponfcmeiiaaDoor
