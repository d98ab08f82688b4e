/-
  NARROWER THAN 'FOR EVERY INPUT', by the rows' own cells (each row's printed sentence says how): CanonSame: laid · CanonSymmetries: laid · CanonComplete: laid · CanonCodes: laid · CanonInvariant: laid · CanonLoops: laid · CanonParts: laid · CanonIdempotent: laid.
  DERIVED. THE GIVEN ROWS OF THIS SEAT. 8 by the template 'for every input the law returns true; each argument reads behind the call as it read before'; 0 by the template 'total and deterministic' (their statements: YtmhhjchnjaefhaaDoorTotals.lean).
  GIVEN WITH THE SEED: the statements are not yours to turn. If you find one false, say at which input.
  Laid BY PROGRAM, IN A SANDBOX (cutbox-rows.mjs): the forced cells as the released guide's own fill.sh prints them over the translation bf403a35fad6219c… (all of the seat's roots in one cut). By AI agents, Wed Nov 11 2026. No macro, syntax, notation, axiom, sorry.
-/
import Derived.Test.YtmhhjchnjaefhaaDoorChecked
import GoSem.Claim
import GoSem.ClaimJoined
import GoSem.ClaimMapViews
import Derived.JoinedTies
import Derived.KernelRfl
namespace Go.Proofs.YtmhhjchnjaefhaaDoor
/- THE CELL 'sum', in the pinned program and in every row, IS THE sha256 OF THE DUMP (.gsa) THAT YtmhhjchnjaefhaaDoorProg.lean LOADS. Nothing in Lean hashes anything: it is a label: what it is worth is what the hold of that sum in a sandbox is worth. -/
noncomputable def Tryd.pinned : Pinned := { name := "ytmhhjchnjaefhaadoor", sum := "bf403a35fad6219c222f2d90a892d1f107a485cd377e47d29ba8855b176c94a2", checked := Tryd.checked }
namespace Rows
def none {H : Type} : Left H := { results := [], args := [] }

/- WHAT THE LISTED PACKAGE-LEVEL VARIABLES READ AS WHEN THE CALL BEGINS. Each datum BY PROGRAM (the guide's laid-datum.mjs) off the statement by which the dump's own 'gosem.cut.vars' lays the variable. In a bare row this is a premise. The card (YtmhhjchnjaefhaaDoorCards.lean) ties it to the program's text. -/
def laid_math_bits_deBruijn32tab {H : Type} : DataW H := .agg [.lit (.int .u8 0), .lit (.int .u8 1), .lit (.int .u8 28), .lit (.int .u8 2), .lit (.int .u8 29), .lit (.int .u8 14), .lit (.int .u8 24), .lit (.int .u8 3), .lit (.int .u8 30), .lit (.int .u8 22), .lit (.int .u8 20), .lit (.int .u8 15), .lit (.int .u8 25), .lit (.int .u8 17), .lit (.int .u8 4), .lit (.int .u8 8), .lit (.int .u8 31), .lit (.int .u8 27), .lit (.int .u8 13), .lit (.int .u8 23), .lit (.int .u8 21), .lit (.int .u8 19), .lit (.int .u8 16), .lit (.int .u8 7), .lit (.int .u8 26), .lit (.int .u8 12), .lit (.int .u8 18), .lit (.int .u8 6), .lit (.int .u8 11), .lit (.int .u8 5), .lit (.int .u8 10), .lit (.int .u8 9)]
def laid_math_bits_deBruijn64tab {H : Type} : DataW H := .agg [.lit (.int .u8 0), .lit (.int .u8 1), .lit (.int .u8 56), .lit (.int .u8 2), .lit (.int .u8 57), .lit (.int .u8 49), .lit (.int .u8 28), .lit (.int .u8 3), .lit (.int .u8 61), .lit (.int .u8 58), .lit (.int .u8 42), .lit (.int .u8 50), .lit (.int .u8 38), .lit (.int .u8 29), .lit (.int .u8 17), .lit (.int .u8 4), .lit (.int .u8 62), .lit (.int .u8 47), .lit (.int .u8 59), .lit (.int .u8 36), .lit (.int .u8 45), .lit (.int .u8 43), .lit (.int .u8 51), .lit (.int .u8 22), .lit (.int .u8 53), .lit (.int .u8 39), .lit (.int .u8 33), .lit (.int .u8 30), .lit (.int .u8 24), .lit (.int .u8 18), .lit (.int .u8 12), .lit (.int .u8 5), .lit (.int .u8 63), .lit (.int .u8 55), .lit (.int .u8 48), .lit (.int .u8 27), .lit (.int .u8 60), .lit (.int .u8 41), .lit (.int .u8 37), .lit (.int .u8 16), .lit (.int .u8 46), .lit (.int .u8 35), .lit (.int .u8 44), .lit (.int .u8 21), .lit (.int .u8 52), .lit (.int .u8 32), .lit (.int .u8 23), .lit (.int .u8 11), .lit (.int .u8 54), .lit (.int .u8 26), .lit (.int .u8 40), .lit (.int .u8 15), .lit (.int .u8 34), .lit (.int .u8 20), .lit (.int .u8 31), .lit (.int .u8 10), .lit (.int .u8 25), .lit (.int .u8 14), .lit (.int .u8 19), .lit (.int .u8 9), .lit (.int .u8 13), .lit (.int .u8 8), .lit (.int .u8 7), .lit (.int .u8 6)]
def laid_internal_strconv_uint64pow10 {H : Type} : DataW H := .agg [.lit (.int .u64 1), .lit (.int .u64 10), .lit (.int .u64 100), .lit (.int .u64 1000), .lit (.int .u64 10000), .lit (.int .u64 100000), .lit (.int .u64 1000000), .lit (.int .u64 10000000), .lit (.int .u64 100000000), .lit (.int .u64 1000000000), .lit (.int .u64 10000000000), .lit (.int .u64 100000000000), .lit (.int .u64 1000000000000), .lit (.int .u64 10000000000000), .lit (.int .u64 100000000000000), .lit (.int .u64 1000000000000000), .lit (.int .u64 10000000000000000), .lit (.int .u64 100000000000000000), .lit (.int .u64 1000000000000000000), .lit (.int .u64 10000000000000000000)]

/-- 'unravellaw05.CanonSame': WHATEVER THE INPUT: true; the input reads as it did. -/
def canonSameSpec : ChangeSpec := { name := "canonSame", fn := fun _ => fun
  | [d1, d2] => { results := [.lit (.bool true)], args := [d1, d2] }
  | _ => none }
def canonSameRow : OpenClaim := { program := "ytmhhjchnjaefhaadoor", sum := "bf403a35fad6219c222f2d90a892d1f107a485cd377e47d29ba8855b176c94a2", func := "unravel/unravellaw05.CanonSame", spec := "canonSame", inPlace := ["internal/abi.NoEscape"], unfollowed := true, recurses := true, named := ["internal/strconv.uint64pow10", "math/bits.deBruijn32tab", "math/bits.deBruijn64tab"], apart := false, laid := [("math/bits.deBruijn32tab", laid_math_bits_deBruijn32tab), ("math/bits.deBruijn64tab", laid_math_bits_deBruijn64tab), ("internal/strconv.uint64pow10", laid_internal_strconv_uint64pow10)] }
def CanonSameSaid : Prop := canonSameRow.holds Tryd.pinned (OpenSpec.ofChange canonSameSpec)

/-- ITS FALSE NEIGHBOUR: 'it returns false'. Refute it at one input. -/
def canonSameWrong : ChangeSpec := { name := "canonSame", fn := fun _ => fun
  | [d1, d2] => { results := [.lit (.bool false)], args := [d1, d2] }
  | _ => none }
def CanonSameWrongFalsely : Prop := canonSameRow.holds Tryd.pinned (OpenSpec.ofChange canonSameWrong)

/-- 'unravellaw05.CanonSymmetries': WHATEVER THE INPUT: true; the input reads as it did. -/
def canonSymmetriesSpec : ChangeSpec := { name := "canonSymmetries", fn := fun _ => fun
  | [d] => { results := [.lit (.bool true)], args := [d] }
  | _ => none }
def canonSymmetriesRow : OpenClaim := { program := "ytmhhjchnjaefhaadoor", sum := "bf403a35fad6219c222f2d90a892d1f107a485cd377e47d29ba8855b176c94a2", func := "unravel/unravellaw05.CanonSymmetries", spec := "canonSymmetries", inPlace := ["internal/abi.NoEscape"], unfollowed := true, recurses := true, named := ["internal/strconv.uint64pow10", "math/bits.deBruijn32tab", "math/bits.deBruijn64tab"], apart := false, laid := [("math/bits.deBruijn32tab", laid_math_bits_deBruijn32tab), ("math/bits.deBruijn64tab", laid_math_bits_deBruijn64tab), ("internal/strconv.uint64pow10", laid_internal_strconv_uint64pow10)] }
def CanonSymmetriesSaid : Prop := canonSymmetriesRow.holds Tryd.pinned (OpenSpec.ofChange canonSymmetriesSpec)

/-- ITS FALSE NEIGHBOUR: 'it returns false'. Refute it at one input. -/
def canonSymmetriesWrong : ChangeSpec := { name := "canonSymmetries", fn := fun _ => fun
  | [d] => { results := [.lit (.bool false)], args := [d] }
  | _ => none }
def CanonSymmetriesWrongFalsely : Prop := canonSymmetriesRow.holds Tryd.pinned (OpenSpec.ofChange canonSymmetriesWrong)

/-- 'unravellaw05.CanonComplete': WHATEVER THE INPUT: true; the input reads as it did. -/
def canonCompleteSpec : ChangeSpec := { name := "canonComplete", fn := fun _ => fun
  | [d1, d2] => { results := [.lit (.bool true)], args := [d1, d2] }
  | _ => none }
def canonCompleteRow : OpenClaim := { program := "ytmhhjchnjaefhaadoor", sum := "bf403a35fad6219c222f2d90a892d1f107a485cd377e47d29ba8855b176c94a2", func := "unravel/unravellaw05.CanonComplete", spec := "canonComplete", inPlace := ["internal/abi.NoEscape"], unfollowed := true, recurses := true, named := ["internal/strconv.uint64pow10", "math/bits.deBruijn32tab", "math/bits.deBruijn64tab"], apart := false, laid := [("math/bits.deBruijn32tab", laid_math_bits_deBruijn32tab), ("math/bits.deBruijn64tab", laid_math_bits_deBruijn64tab), ("internal/strconv.uint64pow10", laid_internal_strconv_uint64pow10)] }
def CanonCompleteSaid : Prop := canonCompleteRow.holds Tryd.pinned (OpenSpec.ofChange canonCompleteSpec)

/-- ITS FALSE NEIGHBOUR: 'it returns false'. Refute it at one input. -/
def canonCompleteWrong : ChangeSpec := { name := "canonComplete", fn := fun _ => fun
  | [d1, d2] => { results := [.lit (.bool false)], args := [d1, d2] }
  | _ => none }
def CanonCompleteWrongFalsely : Prop := canonCompleteRow.holds Tryd.pinned (OpenSpec.ofChange canonCompleteWrong)

/-- 'unravellaw05.CanonCodes': WHATEVER THE INPUT: true; the input reads as it did. -/
def canonCodesSpec : ChangeSpec := { name := "canonCodes", fn := fun _ => fun
  | [d] => { results := [.lit (.bool true)], args := [d] }
  | _ => none }
def canonCodesRow : OpenClaim := { program := "ytmhhjchnjaefhaadoor", sum := "bf403a35fad6219c222f2d90a892d1f107a485cd377e47d29ba8855b176c94a2", func := "unravel/unravellaw05.CanonCodes", spec := "canonCodes", inPlace := ["internal/abi.NoEscape"], unfollowed := true, recurses := true, named := ["internal/strconv.uint64pow10", "math/bits.deBruijn32tab", "math/bits.deBruijn64tab"], apart := false, laid := [("math/bits.deBruijn32tab", laid_math_bits_deBruijn32tab), ("math/bits.deBruijn64tab", laid_math_bits_deBruijn64tab), ("internal/strconv.uint64pow10", laid_internal_strconv_uint64pow10)] }
def CanonCodesSaid : Prop := canonCodesRow.holds Tryd.pinned (OpenSpec.ofChange canonCodesSpec)

/-- ITS FALSE NEIGHBOUR: 'it returns false'. Refute it at one input. -/
def canonCodesWrong : ChangeSpec := { name := "canonCodes", fn := fun _ => fun
  | [d] => { results := [.lit (.bool false)], args := [d] }
  | _ => none }
def CanonCodesWrongFalsely : Prop := canonCodesRow.holds Tryd.pinned (OpenSpec.ofChange canonCodesWrong)

/-- 'unravellaw05.CanonInvariant': WHATEVER THE INPUT: true; the input reads as it did. -/
def canonInvariantSpec : ChangeSpec := { name := "canonInvariant", fn := fun _ => fun
  | [d1, d2] => { results := [.lit (.bool true)], args := [d1, d2] }
  | _ => none }
def canonInvariantRow : OpenClaim := { program := "ytmhhjchnjaefhaadoor", sum := "bf403a35fad6219c222f2d90a892d1f107a485cd377e47d29ba8855b176c94a2", func := "unravel/unravellaw05.CanonInvariant", spec := "canonInvariant", inPlace := ["internal/abi.NoEscape"], unfollowed := true, recurses := true, named := ["internal/strconv.uint64pow10", "math/bits.deBruijn32tab", "math/bits.deBruijn64tab"], apart := false, laid := [("math/bits.deBruijn32tab", laid_math_bits_deBruijn32tab), ("math/bits.deBruijn64tab", laid_math_bits_deBruijn64tab), ("internal/strconv.uint64pow10", laid_internal_strconv_uint64pow10)] }
def CanonInvariantSaid : Prop := canonInvariantRow.holds Tryd.pinned (OpenSpec.ofChange canonInvariantSpec)

/-- ITS FALSE NEIGHBOUR: 'it returns false'. Refute it at one input. -/
def canonInvariantWrong : ChangeSpec := { name := "canonInvariant", fn := fun _ => fun
  | [d1, d2] => { results := [.lit (.bool false)], args := [d1, d2] }
  | _ => none }
def CanonInvariantWrongFalsely : Prop := canonInvariantRow.holds Tryd.pinned (OpenSpec.ofChange canonInvariantWrong)

/-- 'unravellaw05.CanonLoops': WHATEVER THE INPUT: true; the input reads as it did. -/
def canonLoopsSpec : ChangeSpec := { name := "canonLoops", fn := fun _ => fun
  | [d1, d2] => { results := [.lit (.bool true)], args := [d1, d2] }
  | _ => none }
def canonLoopsRow : OpenClaim := { program := "ytmhhjchnjaefhaadoor", sum := "bf403a35fad6219c222f2d90a892d1f107a485cd377e47d29ba8855b176c94a2", func := "unravel/unravellaw05.CanonLoops", spec := "canonLoops", inPlace := ["internal/abi.NoEscape"], unfollowed := true, recurses := true, named := ["internal/strconv.uint64pow10", "math/bits.deBruijn32tab", "math/bits.deBruijn64tab"], apart := false, laid := [("math/bits.deBruijn32tab", laid_math_bits_deBruijn32tab), ("math/bits.deBruijn64tab", laid_math_bits_deBruijn64tab), ("internal/strconv.uint64pow10", laid_internal_strconv_uint64pow10)] }
def CanonLoopsSaid : Prop := canonLoopsRow.holds Tryd.pinned (OpenSpec.ofChange canonLoopsSpec)

/-- ITS FALSE NEIGHBOUR: 'it returns false'. Refute it at one input. -/
def canonLoopsWrong : ChangeSpec := { name := "canonLoops", fn := fun _ => fun
  | [d1, d2] => { results := [.lit (.bool false)], args := [d1, d2] }
  | _ => none }
def CanonLoopsWrongFalsely : Prop := canonLoopsRow.holds Tryd.pinned (OpenSpec.ofChange canonLoopsWrong)

/-- 'unravellaw05.CanonParts': WHATEVER THE INPUT: true; the input reads as it did. -/
def canonPartsSpec : ChangeSpec := { name := "canonParts", fn := fun _ => fun
  | [d1, d2] => { results := [.lit (.bool true)], args := [d1, d2] }
  | _ => none }
def canonPartsRow : OpenClaim := { program := "ytmhhjchnjaefhaadoor", sum := "bf403a35fad6219c222f2d90a892d1f107a485cd377e47d29ba8855b176c94a2", func := "unravel/unravellaw05.CanonParts", spec := "canonParts", inPlace := ["internal/abi.NoEscape"], unfollowed := true, recurses := true, named := ["internal/strconv.uint64pow10", "math/bits.deBruijn32tab", "math/bits.deBruijn64tab"], apart := false, laid := [("math/bits.deBruijn32tab", laid_math_bits_deBruijn32tab), ("math/bits.deBruijn64tab", laid_math_bits_deBruijn64tab), ("internal/strconv.uint64pow10", laid_internal_strconv_uint64pow10)] }
def CanonPartsSaid : Prop := canonPartsRow.holds Tryd.pinned (OpenSpec.ofChange canonPartsSpec)

/-- ITS FALSE NEIGHBOUR: 'it returns false'. Refute it at one input. -/
def canonPartsWrong : ChangeSpec := { name := "canonParts", fn := fun _ => fun
  | [d1, d2] => { results := [.lit (.bool false)], args := [d1, d2] }
  | _ => none }
def CanonPartsWrongFalsely : Prop := canonPartsRow.holds Tryd.pinned (OpenSpec.ofChange canonPartsWrong)

/-- 'unravellaw05.CanonIdempotent': WHATEVER THE INPUT: true; the input reads as it did. -/
def canonIdempotentSpec : ChangeSpec := { name := "canonIdempotent", fn := fun _ => fun
  | [d] => { results := [.lit (.bool true)], args := [d] }
  | _ => none }
def canonIdempotentRow : OpenClaim := { program := "ytmhhjchnjaefhaadoor", sum := "bf403a35fad6219c222f2d90a892d1f107a485cd377e47d29ba8855b176c94a2", func := "unravel/unravellaw05.CanonIdempotent", spec := "canonIdempotent", inPlace := ["internal/abi.NoEscape"], unfollowed := true, recurses := true, named := ["internal/strconv.uint64pow10", "math/bits.deBruijn32tab", "math/bits.deBruijn64tab"], apart := false, laid := [("math/bits.deBruijn32tab", laid_math_bits_deBruijn32tab), ("math/bits.deBruijn64tab", laid_math_bits_deBruijn64tab), ("internal/strconv.uint64pow10", laid_internal_strconv_uint64pow10)] }
def CanonIdempotentSaid : Prop := canonIdempotentRow.holds Tryd.pinned (OpenSpec.ofChange canonIdempotentSpec)

/-- ITS FALSE NEIGHBOUR: 'it returns false'. Refute it at one input. -/
def canonIdempotentWrong : ChangeSpec := { name := "canonIdempotent", fn := fun _ => fun
  | [d] => { results := [.lit (.bool false)], args := [d] }
  | _ => none }
def CanonIdempotentWrongFalsely : Prop := canonIdempotentRow.holds Tryd.pinned (OpenSpec.ofChange canonIdempotentWrong)

/- THE SECOND FORM. 'bulk': how many values and letters a reading holds, each counted each time it is reached (what is shared counts as often as it is met; a slice's spare places count too). A statement '..UptoSaid' is the law's where the arguments, and the package variables that the reading takes, are together of bulk at most 1048576: NARROWER than '..Said'. Prove '..Said' where nothing that the law and all that it calls make is longer than what came in: it says more and counts as full. Else prove '..UptoSaid'. A law counts once. -/
mutual
def uptoBulk {H : Type} : DataW H → Nat
  | .lit (.string bytes) => bytes.length + 1
  | .lit _ => 1
  | .nil => 1
  | .ptr d => uptoBulk d + 1
  | .slice elems spare => uptoBulkAll elems + uptoBulkAll spare + 1
  | .agg parts => uptoBulkAll parts + 1
  | .iface _ d => uptoBulk d + 1
  | .map entries => uptoBulkEntries entries + 1
  | .held _ => 1
def uptoBulkAll {H : Type} : List (DataW H) → Nat
  | [] => 0
  | d :: r => uptoBulk d + uptoBulkAll r
def uptoBulkEntries {H : Type} : List (Lit × DataW H) → Nat
  | [] => 0
  | x :: r => uptoBulkEntry x + uptoBulkEntries r
def uptoBulkEntry {H : Type} : Lit × DataW H → Nat
  | (.string bytes, d) => bytes.length + uptoBulk d + 1
  | (_, d) => uptoBulk d + 1
 end
def uptoSmall : (H : Type) → List (DataW H) → Bool := fun _ ds => decide (uptoBulkAll ds ≤ 1048576)
def OpenSpec.upto (s : _root_.Go.ChangeSpec) : _root_.Go.OpenSpec := { _root_.Go.OpenSpec.ofChange s with cond := some uptoSmall }

/-- 'unravellaw05.CanonSame', WHERE WHAT IT READS IS OF BULK AT MOST 1048576: true; the input reads as it did. -/
def canonSameUptoRow : OpenClaim := { program := "ytmhhjchnjaefhaadoor", sum := "bf403a35fad6219c222f2d90a892d1f107a485cd377e47d29ba8855b176c94a2", func := "unravel/unravellaw05.CanonSame", spec := "canonSame", inPlace := ["internal/abi.NoEscape"], unfollowed := true, recurses := true, named := ["internal/strconv.uint64pow10", "math/bits.deBruijn32tab", "math/bits.deBruijn64tab"], apart := false, laid := [("math/bits.deBruijn32tab", laid_math_bits_deBruijn32tab), ("math/bits.deBruijn64tab", laid_math_bits_deBruijn64tab), ("internal/strconv.uint64pow10", laid_internal_strconv_uint64pow10)], narrowed := true }
def CanonSameUptoSaid : Prop := canonSameUptoRow.holds Tryd.pinned (OpenSpec.upto canonSameSpec)

/-- 'unravellaw05.CanonSymmetries', WHERE WHAT IT READS IS OF BULK AT MOST 1048576: true; the input reads as it did. -/
def canonSymmetriesUptoRow : OpenClaim := { program := "ytmhhjchnjaefhaadoor", sum := "bf403a35fad6219c222f2d90a892d1f107a485cd377e47d29ba8855b176c94a2", func := "unravel/unravellaw05.CanonSymmetries", spec := "canonSymmetries", inPlace := ["internal/abi.NoEscape"], unfollowed := true, recurses := true, named := ["internal/strconv.uint64pow10", "math/bits.deBruijn32tab", "math/bits.deBruijn64tab"], apart := false, laid := [("math/bits.deBruijn32tab", laid_math_bits_deBruijn32tab), ("math/bits.deBruijn64tab", laid_math_bits_deBruijn64tab), ("internal/strconv.uint64pow10", laid_internal_strconv_uint64pow10)], narrowed := true }
def CanonSymmetriesUptoSaid : Prop := canonSymmetriesUptoRow.holds Tryd.pinned (OpenSpec.upto canonSymmetriesSpec)

/-- 'unravellaw05.CanonComplete', WHERE WHAT IT READS IS OF BULK AT MOST 1048576: true; the input reads as it did. -/
def canonCompleteUptoRow : OpenClaim := { program := "ytmhhjchnjaefhaadoor", sum := "bf403a35fad6219c222f2d90a892d1f107a485cd377e47d29ba8855b176c94a2", func := "unravel/unravellaw05.CanonComplete", spec := "canonComplete", inPlace := ["internal/abi.NoEscape"], unfollowed := true, recurses := true, named := ["internal/strconv.uint64pow10", "math/bits.deBruijn32tab", "math/bits.deBruijn64tab"], apart := false, laid := [("math/bits.deBruijn32tab", laid_math_bits_deBruijn32tab), ("math/bits.deBruijn64tab", laid_math_bits_deBruijn64tab), ("internal/strconv.uint64pow10", laid_internal_strconv_uint64pow10)], narrowed := true }
def CanonCompleteUptoSaid : Prop := canonCompleteUptoRow.holds Tryd.pinned (OpenSpec.upto canonCompleteSpec)

/-- 'unravellaw05.CanonCodes', WHERE WHAT IT READS IS OF BULK AT MOST 1048576: true; the input reads as it did. -/
def canonCodesUptoRow : OpenClaim := { program := "ytmhhjchnjaefhaadoor", sum := "bf403a35fad6219c222f2d90a892d1f107a485cd377e47d29ba8855b176c94a2", func := "unravel/unravellaw05.CanonCodes", spec := "canonCodes", inPlace := ["internal/abi.NoEscape"], unfollowed := true, recurses := true, named := ["internal/strconv.uint64pow10", "math/bits.deBruijn32tab", "math/bits.deBruijn64tab"], apart := false, laid := [("math/bits.deBruijn32tab", laid_math_bits_deBruijn32tab), ("math/bits.deBruijn64tab", laid_math_bits_deBruijn64tab), ("internal/strconv.uint64pow10", laid_internal_strconv_uint64pow10)], narrowed := true }
def CanonCodesUptoSaid : Prop := canonCodesUptoRow.holds Tryd.pinned (OpenSpec.upto canonCodesSpec)

/-- 'unravellaw05.CanonInvariant', WHERE WHAT IT READS IS OF BULK AT MOST 1048576: true; the input reads as it did. -/
def canonInvariantUptoRow : OpenClaim := { program := "ytmhhjchnjaefhaadoor", sum := "bf403a35fad6219c222f2d90a892d1f107a485cd377e47d29ba8855b176c94a2", func := "unravel/unravellaw05.CanonInvariant", spec := "canonInvariant", inPlace := ["internal/abi.NoEscape"], unfollowed := true, recurses := true, named := ["internal/strconv.uint64pow10", "math/bits.deBruijn32tab", "math/bits.deBruijn64tab"], apart := false, laid := [("math/bits.deBruijn32tab", laid_math_bits_deBruijn32tab), ("math/bits.deBruijn64tab", laid_math_bits_deBruijn64tab), ("internal/strconv.uint64pow10", laid_internal_strconv_uint64pow10)], narrowed := true }
def CanonInvariantUptoSaid : Prop := canonInvariantUptoRow.holds Tryd.pinned (OpenSpec.upto canonInvariantSpec)

/-- 'unravellaw05.CanonLoops', WHERE WHAT IT READS IS OF BULK AT MOST 1048576: true; the input reads as it did. -/
def canonLoopsUptoRow : OpenClaim := { program := "ytmhhjchnjaefhaadoor", sum := "bf403a35fad6219c222f2d90a892d1f107a485cd377e47d29ba8855b176c94a2", func := "unravel/unravellaw05.CanonLoops", spec := "canonLoops", inPlace := ["internal/abi.NoEscape"], unfollowed := true, recurses := true, named := ["internal/strconv.uint64pow10", "math/bits.deBruijn32tab", "math/bits.deBruijn64tab"], apart := false, laid := [("math/bits.deBruijn32tab", laid_math_bits_deBruijn32tab), ("math/bits.deBruijn64tab", laid_math_bits_deBruijn64tab), ("internal/strconv.uint64pow10", laid_internal_strconv_uint64pow10)], narrowed := true }
def CanonLoopsUptoSaid : Prop := canonLoopsUptoRow.holds Tryd.pinned (OpenSpec.upto canonLoopsSpec)

/-- 'unravellaw05.CanonParts', WHERE WHAT IT READS IS OF BULK AT MOST 1048576: true; the input reads as it did. -/
def canonPartsUptoRow : OpenClaim := { program := "ytmhhjchnjaefhaadoor", sum := "bf403a35fad6219c222f2d90a892d1f107a485cd377e47d29ba8855b176c94a2", func := "unravel/unravellaw05.CanonParts", spec := "canonParts", inPlace := ["internal/abi.NoEscape"], unfollowed := true, recurses := true, named := ["internal/strconv.uint64pow10", "math/bits.deBruijn32tab", "math/bits.deBruijn64tab"], apart := false, laid := [("math/bits.deBruijn32tab", laid_math_bits_deBruijn32tab), ("math/bits.deBruijn64tab", laid_math_bits_deBruijn64tab), ("internal/strconv.uint64pow10", laid_internal_strconv_uint64pow10)], narrowed := true }
def CanonPartsUptoSaid : Prop := canonPartsUptoRow.holds Tryd.pinned (OpenSpec.upto canonPartsSpec)

/-- 'unravellaw05.CanonIdempotent', WHERE WHAT IT READS IS OF BULK AT MOST 1048576: true; the input reads as it did. -/
def canonIdempotentUptoRow : OpenClaim := { program := "ytmhhjchnjaefhaadoor", sum := "bf403a35fad6219c222f2d90a892d1f107a485cd377e47d29ba8855b176c94a2", func := "unravel/unravellaw05.CanonIdempotent", spec := "canonIdempotent", inPlace := ["internal/abi.NoEscape"], unfollowed := true, recurses := true, named := ["internal/strconv.uint64pow10", "math/bits.deBruijn32tab", "math/bits.deBruijn64tab"], apart := false, laid := [("math/bits.deBruijn32tab", laid_math_bits_deBruijn32tab), ("math/bits.deBruijn64tab", laid_math_bits_deBruijn64tab), ("internal/strconv.uint64pow10", laid_internal_strconv_uint64pow10)], narrowed := true }
def CanonIdempotentUptoSaid : Prop := canonIdempotentUptoRow.holds Tryd.pinned (OpenSpec.upto canonIdempotentSpec)

end Rows
end Go.Proofs.YtmhhjchnjaefhaaDoor
