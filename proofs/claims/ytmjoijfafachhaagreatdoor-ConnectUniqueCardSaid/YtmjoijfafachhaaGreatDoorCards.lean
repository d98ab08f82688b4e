/-
  DERIVED. GIVEN WITH THE SEED: THE CARDS: each row of YtmjoijfafachhaaGreatDoorRows.lean that lists a variable, with what it lists TIED to the program's text (the seventh form; the later family's looks); each row that meets fmt, with fmt's text TOLD by the authors' own Lean function (tested against real Go, not proved from fmt's source: count such statements apart). THE CARD IS WHAT COUNTS. Prove the row's statement (the work); the ties are given (YtmjoijfafachhaaGreatDoorTie.lean); close each card by the builder's one call (the guide's Derived/Test/ToyasCard.lean, 'card_holds'). Laid BY PROGRAM, IN A SANDBOX (cutbox-door.mjs). By AI agents, Wed Nov 11 2026. No macro, syntax, notation, axiom, sorry.
-/
import Derived.Test.YtmjoijfafachhaaGreatDoorRows
import GoSem.ClaimSeven
namespace Go.Proofs.YtmjoijfafachhaaGreatDoor
namespace Rows

/-- THE TIED CARD OF 'unravellaw07.ConnectUnique'. -/
def connectUniqueCard : Claim7 := { stood := { row := connectUniqueRow, standIns := [], harness := (true, "11b4c271c7706556a23e8a73bdcab2a812ccb8ac9e6cfc07c546f1e500d2f88f"), looks := false }, kinds := [], alts := [], laidByText := true, laidKinds := [.data, .data, .data], laidTests := true, laidLooks := .later }
def ConnectUniqueCardSaid : Prop := Claim7.holds Tryz.pinned (.plain (OpenSpec.ofChange connectUniqueSpec)) connectUniqueCard

/-- THE SECOND FORM's CARD OF 'unravellaw07.ConnectUnique'. -/
def connectUniqueUptoCard : Claim7 := { stood := { row := connectUniqueUptoRow, standIns := [], harness := (true, "11b4c271c7706556a23e8a73bdcab2a812ccb8ac9e6cfc07c546f1e500d2f88f"), looks := false }, kinds := [], alts := [], laidByText := true, laidKinds := [.data, .data, .data], laidTests := true, laidLooks := .later }
def ConnectUniqueUptoCardSaid : Prop := Claim7.holds Tryz.pinned (.plain (OpenSpec.upto connectUniqueSpec)) connectUniqueUptoCard
end Rows
end Go.Proofs.YtmjoijfafachhaaGreatDoor
