/-
  DERIVED. GIVEN WITH THE SEED: THE CARDS: each row of YtmhhjchnjaefhaaDoorRows.lean that lists a variable, with what it lists TIED to the program's text (the seventh form; the later family's looks); each row that meets fmt, with fmt's text TOLD by the authors' own Lean function (tested against real Go, not proved from fmt's source: count such statements apart). THE CARD IS WHAT COUNTS. Prove the row's statement (the work); the ties are given (YtmhhjchnjaefhaaDoorTie.lean); close each card by the builder's one call (the guide's Derived/Test/ToyasCard.lean, 'card_holds'). Laid BY PROGRAM, IN A SANDBOX (cutbox-door.mjs). By AI agents, Wed Nov 11 2026. No macro, syntax, notation, axiom, sorry.
-/
import Derived.Test.YtmhhjchnjaefhaaDoorRows
import GoSem.ClaimSeven
namespace Go.Proofs.YtmhhjchnjaefhaaDoor
namespace Rows

/-- THE TIED CARD OF 'unravellaw05.CanonSame'. -/
def canonSameCard : Claim7 := { stood := { row := canonSameRow, standIns := [], harness := (true, "ecca1c5326bbd5663b8762b21df597a0e1f6b3c513ffeef2692957e3ec8b1300"), looks := false }, kinds := [], alts := [], laidByText := true, laidKinds := [.data, .data, .data], laidTests := true, laidLooks := .later }
def CanonSameCardSaid : Prop := Claim7.holds Tryd.pinned (.plain (OpenSpec.ofChange canonSameSpec)) canonSameCard

/-- THE TIED CARD OF 'unravellaw05.CanonSymmetries'. -/
def canonSymmetriesCard : Claim7 := { stood := { row := canonSymmetriesRow, standIns := [], harness := (true, "ecca1c5326bbd5663b8762b21df597a0e1f6b3c513ffeef2692957e3ec8b1300"), looks := false }, kinds := [], alts := [], laidByText := true, laidKinds := [.data, .data, .data], laidTests := true, laidLooks := .later }
def CanonSymmetriesCardSaid : Prop := Claim7.holds Tryd.pinned (.plain (OpenSpec.ofChange canonSymmetriesSpec)) canonSymmetriesCard

/-- THE TIED CARD OF 'unravellaw05.CanonComplete'. -/
def canonCompleteCard : Claim7 := { stood := { row := canonCompleteRow, standIns := [], harness := (true, "ecca1c5326bbd5663b8762b21df597a0e1f6b3c513ffeef2692957e3ec8b1300"), looks := false }, kinds := [], alts := [], laidByText := true, laidKinds := [.data, .data, .data], laidTests := true, laidLooks := .later }
def CanonCompleteCardSaid : Prop := Claim7.holds Tryd.pinned (.plain (OpenSpec.ofChange canonCompleteSpec)) canonCompleteCard

/-- THE TIED CARD OF 'unravellaw05.CanonCodes'. -/
def canonCodesCard : Claim7 := { stood := { row := canonCodesRow, standIns := [], harness := (true, "ecca1c5326bbd5663b8762b21df597a0e1f6b3c513ffeef2692957e3ec8b1300"), looks := false }, kinds := [], alts := [], laidByText := true, laidKinds := [.data, .data, .data], laidTests := true, laidLooks := .later }
def CanonCodesCardSaid : Prop := Claim7.holds Tryd.pinned (.plain (OpenSpec.ofChange canonCodesSpec)) canonCodesCard

/-- THE TIED CARD OF 'unravellaw05.CanonInvariant'. -/
def canonInvariantCard : Claim7 := { stood := { row := canonInvariantRow, standIns := [], harness := (true, "ecca1c5326bbd5663b8762b21df597a0e1f6b3c513ffeef2692957e3ec8b1300"), looks := false }, kinds := [], alts := [], laidByText := true, laidKinds := [.data, .data, .data], laidTests := true, laidLooks := .later }
def CanonInvariantCardSaid : Prop := Claim7.holds Tryd.pinned (.plain (OpenSpec.ofChange canonInvariantSpec)) canonInvariantCard

/-- THE TIED CARD OF 'unravellaw05.CanonLoops'. -/
def canonLoopsCard : Claim7 := { stood := { row := canonLoopsRow, standIns := [], harness := (true, "ecca1c5326bbd5663b8762b21df597a0e1f6b3c513ffeef2692957e3ec8b1300"), looks := false }, kinds := [], alts := [], laidByText := true, laidKinds := [.data, .data, .data], laidTests := true, laidLooks := .later }
def CanonLoopsCardSaid : Prop := Claim7.holds Tryd.pinned (.plain (OpenSpec.ofChange canonLoopsSpec)) canonLoopsCard

/-- THE TIED CARD OF 'unravellaw05.CanonParts'. -/
def canonPartsCard : Claim7 := { stood := { row := canonPartsRow, standIns := [], harness := (true, "ecca1c5326bbd5663b8762b21df597a0e1f6b3c513ffeef2692957e3ec8b1300"), looks := false }, kinds := [], alts := [], laidByText := true, laidKinds := [.data, .data, .data], laidTests := true, laidLooks := .later }
def CanonPartsCardSaid : Prop := Claim7.holds Tryd.pinned (.plain (OpenSpec.ofChange canonPartsSpec)) canonPartsCard

/-- THE TIED CARD OF 'unravellaw05.CanonIdempotent'. -/
def canonIdempotentCard : Claim7 := { stood := { row := canonIdempotentRow, standIns := [], harness := (true, "ecca1c5326bbd5663b8762b21df597a0e1f6b3c513ffeef2692957e3ec8b1300"), looks := false }, kinds := [], alts := [], laidByText := true, laidKinds := [.data, .data, .data], laidTests := true, laidLooks := .later }
def CanonIdempotentCardSaid : Prop := Claim7.holds Tryd.pinned (.plain (OpenSpec.ofChange canonIdempotentSpec)) canonIdempotentCard

/-- THE SECOND FORM's CARD OF 'unravellaw05.CanonSame'. -/
def canonSameUptoCard : Claim7 := { stood := { row := canonSameUptoRow, standIns := [], harness := (true, "ecca1c5326bbd5663b8762b21df597a0e1f6b3c513ffeef2692957e3ec8b1300"), looks := false }, kinds := [], alts := [], laidByText := true, laidKinds := [.data, .data, .data], laidTests := true, laidLooks := .later }
def CanonSameUptoCardSaid : Prop := Claim7.holds Tryd.pinned (.plain (OpenSpec.upto canonSameSpec)) canonSameUptoCard

/-- THE SECOND FORM's CARD OF 'unravellaw05.CanonSymmetries'. -/
def canonSymmetriesUptoCard : Claim7 := { stood := { row := canonSymmetriesUptoRow, standIns := [], harness := (true, "ecca1c5326bbd5663b8762b21df597a0e1f6b3c513ffeef2692957e3ec8b1300"), looks := false }, kinds := [], alts := [], laidByText := true, laidKinds := [.data, .data, .data], laidTests := true, laidLooks := .later }
def CanonSymmetriesUptoCardSaid : Prop := Claim7.holds Tryd.pinned (.plain (OpenSpec.upto canonSymmetriesSpec)) canonSymmetriesUptoCard

/-- THE SECOND FORM's CARD OF 'unravellaw05.CanonComplete'. -/
def canonCompleteUptoCard : Claim7 := { stood := { row := canonCompleteUptoRow, standIns := [], harness := (true, "ecca1c5326bbd5663b8762b21df597a0e1f6b3c513ffeef2692957e3ec8b1300"), looks := false }, kinds := [], alts := [], laidByText := true, laidKinds := [.data, .data, .data], laidTests := true, laidLooks := .later }
def CanonCompleteUptoCardSaid : Prop := Claim7.holds Tryd.pinned (.plain (OpenSpec.upto canonCompleteSpec)) canonCompleteUptoCard

/-- THE SECOND FORM's CARD OF 'unravellaw05.CanonCodes'. -/
def canonCodesUptoCard : Claim7 := { stood := { row := canonCodesUptoRow, standIns := [], harness := (true, "ecca1c5326bbd5663b8762b21df597a0e1f6b3c513ffeef2692957e3ec8b1300"), looks := false }, kinds := [], alts := [], laidByText := true, laidKinds := [.data, .data, .data], laidTests := true, laidLooks := .later }
def CanonCodesUptoCardSaid : Prop := Claim7.holds Tryd.pinned (.plain (OpenSpec.upto canonCodesSpec)) canonCodesUptoCard

/-- THE SECOND FORM's CARD OF 'unravellaw05.CanonInvariant'. -/
def canonInvariantUptoCard : Claim7 := { stood := { row := canonInvariantUptoRow, standIns := [], harness := (true, "ecca1c5326bbd5663b8762b21df597a0e1f6b3c513ffeef2692957e3ec8b1300"), looks := false }, kinds := [], alts := [], laidByText := true, laidKinds := [.data, .data, .data], laidTests := true, laidLooks := .later }
def CanonInvariantUptoCardSaid : Prop := Claim7.holds Tryd.pinned (.plain (OpenSpec.upto canonInvariantSpec)) canonInvariantUptoCard

/-- THE SECOND FORM's CARD OF 'unravellaw05.CanonLoops'. -/
def canonLoopsUptoCard : Claim7 := { stood := { row := canonLoopsUptoRow, standIns := [], harness := (true, "ecca1c5326bbd5663b8762b21df597a0e1f6b3c513ffeef2692957e3ec8b1300"), looks := false }, kinds := [], alts := [], laidByText := true, laidKinds := [.data, .data, .data], laidTests := true, laidLooks := .later }
def CanonLoopsUptoCardSaid : Prop := Claim7.holds Tryd.pinned (.plain (OpenSpec.upto canonLoopsSpec)) canonLoopsUptoCard

/-- THE SECOND FORM's CARD OF 'unravellaw05.CanonParts'. -/
def canonPartsUptoCard : Claim7 := { stood := { row := canonPartsUptoRow, standIns := [], harness := (true, "ecca1c5326bbd5663b8762b21df597a0e1f6b3c513ffeef2692957e3ec8b1300"), looks := false }, kinds := [], alts := [], laidByText := true, laidKinds := [.data, .data, .data], laidTests := true, laidLooks := .later }
def CanonPartsUptoCardSaid : Prop := Claim7.holds Tryd.pinned (.plain (OpenSpec.upto canonPartsSpec)) canonPartsUptoCard

/-- THE SECOND FORM's CARD OF 'unravellaw05.CanonIdempotent'. -/
def canonIdempotentUptoCard : Claim7 := { stood := { row := canonIdempotentUptoRow, standIns := [], harness := (true, "ecca1c5326bbd5663b8762b21df597a0e1f6b3c513ffeef2692957e3ec8b1300"), looks := false }, kinds := [], alts := [], laidByText := true, laidKinds := [.data, .data, .data], laidTests := true, laidLooks := .later }
def CanonIdempotentUptoCardSaid : Prop := Claim7.holds Tryd.pinned (.plain (OpenSpec.upto canonIdempotentSpec)) canonIdempotentUptoCard
end Rows
end Go.Proofs.YtmhhjchnjaefhaaDoor
