/-
  DERIVED. GIVEN WITH THE SEED: THE CARDS: each row of YtlgiponfcmeiiaaDoorRows.lean that lists a variable, with what it lists TIED to the program's text (the seventh form; the later family's looks); each row that meets fmt, with fmt's text TOLD by the authors' own Lean function (tested against real Go, not proved from fmt's source: count such statements apart). THE CARD IS WHAT COUNTS. Prove the row's statement (the work); the ties are given (YtlgiponfcmeiiaaDoorTie.lean); close each card by the builder's one call (the guide's Derived/Test/ToyasCard.lean, 'card_holds'). Laid BY PROGRAM, IN A SANDBOX (cutbox-door.mjs). By AI agents, Wed Nov 11 2026. No macro, syntax, notation, axiom, sorry.
-/
import Derived.Test.YtlgiponfcmeiiaaDoorRows
import GoSem.ClaimSeven
namespace Go.Proofs.YtlgiponfcmeiiaaDoor
namespace Rows

/-- THE TIED CARD OF 'unravellaw28.QuandleFamilies'. -/
def quandleFamiliesCard : Claim7 := { stood := { row := quandleFamiliesRow, standIns := [], harness := (true, "80a1b384fda0cb5ff6f79141b5cb5edcab0e3e35b331f8e81d08cf96b960c75e"), looks := false }, kinds := [], alts := [], laidByText := true, laidKinds := [.data, .data, .data], laidTests := true, laidLooks := .later }
def QuandleFamiliesCardSaid : Prop := Claim7.holds Tryd.pinned (.plain (OpenSpec.ofChange quandleFamiliesSpec)) quandleFamiliesCard

/-- THE TIED CARD OF 'unravellaw28.QuandleInverse'. -/
def quandleInverseCard : Claim7 := { stood := { row := quandleInverseRow, standIns := [], harness := (true, "80a1b384fda0cb5ff6f79141b5cb5edcab0e3e35b331f8e81d08cf96b960c75e"), looks := false }, kinds := [], alts := [], laidByText := true, laidKinds := [.data, .data, .data], laidTests := true, laidLooks := .later }
def QuandleInverseCardSaid : Prop := Claim7.holds Tryd.pinned (.plain (OpenSpec.ofChange quandleInverseSpec)) quandleInverseCard

/-- THE TIED CARD OF 'unravellaw28.QuandleOrbits'. -/
def quandleOrbitsCard : Claim7 := { stood := { row := quandleOrbitsRow, standIns := [], harness := (true, "80a1b384fda0cb5ff6f79141b5cb5edcab0e3e35b331f8e81d08cf96b960c75e"), looks := false }, kinds := [], alts := [], laidByText := true, laidKinds := [.data, .data, .data], laidTests := true, laidLooks := .later }
def QuandleOrbitsCardSaid : Prop := Claim7.holds Tryd.pinned (.plain (OpenSpec.ofChange quandleOrbitsSpec)) quandleOrbitsCard

/-- THE TIED CARD OF 'unravellaw28.QuandleRenames'. -/
def quandleRenamesCard : Claim7 := { stood := { row := quandleRenamesRow, standIns := [], harness := (true, "80a1b384fda0cb5ff6f79141b5cb5edcab0e3e35b331f8e81d08cf96b960c75e"), looks := false }, kinds := [], alts := [], laidByText := true, laidKinds := [.data, .data, .data], laidTests := true, laidLooks := .later }
def QuandleRenamesCardSaid : Prop := Claim7.holds Tryd.pinned (.plain (OpenSpec.ofChange quandleRenamesSpec)) quandleRenamesCard

/-- THE TIED CARD OF 'unravellaw28.QuandleDihedral'. -/
def quandleDihedralCard : Claim7 := { stood := { row := quandleDihedralRow, standIns := [], harness := (true, "80a1b384fda0cb5ff6f79141b5cb5edcab0e3e35b331f8e81d08cf96b960c75e"), looks := false }, kinds := [], alts := [], laidByText := true, laidKinds := [.data, .data, .data], laidTests := true, laidLooks := .later }
def QuandleDihedralCardSaid : Prop := Claim7.holds Tryd.pinned (.plain (OpenSpec.ofChange quandleDihedralSpec)) quandleDihedralCard

/-- THE TIED CARD OF 'unravellaw28.QuandleValid'. -/
def quandleValidCard : Claim7 := { stood := { row := quandleValidRow, standIns := [], harness := (true, "80a1b384fda0cb5ff6f79141b5cb5edcab0e3e35b331f8e81d08cf96b960c75e"), looks := false }, kinds := [], alts := [], laidByText := true, laidKinds := [.data, .data, .data], laidTests := true, laidLooks := .later }
def QuandleValidCardSaid : Prop := Claim7.holds Tryd.pinned (.plain (OpenSpec.ofChange quandleValidSpec)) quandleValidCard

/-- THE TIED CARD OF 'unravellaw28.QuandleAutomorphisms'. -/
def quandleAutomorphismsCard : Claim7 := { stood := { row := quandleAutomorphismsRow, standIns := [], harness := (true, "80a1b384fda0cb5ff6f79141b5cb5edcab0e3e35b331f8e81d08cf96b960c75e"), looks := false }, kinds := [], alts := [], laidByText := true, laidKinds := [.data, .data, .data], laidTests := true, laidLooks := .later }
def QuandleAutomorphismsCardSaid : Prop := Claim7.holds Tryd.pinned (.plain (OpenSpec.ofChange quandleAutomorphismsSpec)) quandleAutomorphismsCard

/-- THE SECOND FORM's CARD OF 'unravellaw28.QuandleFamilies'. -/
def quandleFamiliesUptoCard : Claim7 := { stood := { row := quandleFamiliesUptoRow, standIns := [], harness := (true, "80a1b384fda0cb5ff6f79141b5cb5edcab0e3e35b331f8e81d08cf96b960c75e"), looks := false }, kinds := [], alts := [], laidByText := true, laidKinds := [.data, .data, .data], laidTests := true, laidLooks := .later }
def QuandleFamiliesUptoCardSaid : Prop := Claim7.holds Tryd.pinned (.plain (OpenSpec.upto quandleFamiliesSpec)) quandleFamiliesUptoCard

/-- THE SECOND FORM's CARD OF 'unravellaw28.QuandleInverse'. -/
def quandleInverseUptoCard : Claim7 := { stood := { row := quandleInverseUptoRow, standIns := [], harness := (true, "80a1b384fda0cb5ff6f79141b5cb5edcab0e3e35b331f8e81d08cf96b960c75e"), looks := false }, kinds := [], alts := [], laidByText := true, laidKinds := [.data, .data, .data], laidTests := true, laidLooks := .later }
def QuandleInverseUptoCardSaid : Prop := Claim7.holds Tryd.pinned (.plain (OpenSpec.upto quandleInverseSpec)) quandleInverseUptoCard

/-- THE SECOND FORM's CARD OF 'unravellaw28.QuandleOrbits'. -/
def quandleOrbitsUptoCard : Claim7 := { stood := { row := quandleOrbitsUptoRow, standIns := [], harness := (true, "80a1b384fda0cb5ff6f79141b5cb5edcab0e3e35b331f8e81d08cf96b960c75e"), looks := false }, kinds := [], alts := [], laidByText := true, laidKinds := [.data, .data, .data], laidTests := true, laidLooks := .later }
def QuandleOrbitsUptoCardSaid : Prop := Claim7.holds Tryd.pinned (.plain (OpenSpec.upto quandleOrbitsSpec)) quandleOrbitsUptoCard

/-- THE SECOND FORM's CARD OF 'unravellaw28.QuandleRenames'. -/
def quandleRenamesUptoCard : Claim7 := { stood := { row := quandleRenamesUptoRow, standIns := [], harness := (true, "80a1b384fda0cb5ff6f79141b5cb5edcab0e3e35b331f8e81d08cf96b960c75e"), looks := false }, kinds := [], alts := [], laidByText := true, laidKinds := [.data, .data, .data], laidTests := true, laidLooks := .later }
def QuandleRenamesUptoCardSaid : Prop := Claim7.holds Tryd.pinned (.plain (OpenSpec.upto quandleRenamesSpec)) quandleRenamesUptoCard

/-- THE SECOND FORM's CARD OF 'unravellaw28.QuandleDihedral'. -/
def quandleDihedralUptoCard : Claim7 := { stood := { row := quandleDihedralUptoRow, standIns := [], harness := (true, "80a1b384fda0cb5ff6f79141b5cb5edcab0e3e35b331f8e81d08cf96b960c75e"), looks := false }, kinds := [], alts := [], laidByText := true, laidKinds := [.data, .data, .data], laidTests := true, laidLooks := .later }
def QuandleDihedralUptoCardSaid : Prop := Claim7.holds Tryd.pinned (.plain (OpenSpec.upto quandleDihedralSpec)) quandleDihedralUptoCard

/-- THE SECOND FORM's CARD OF 'unravellaw28.QuandleValid'. -/
def quandleValidUptoCard : Claim7 := { stood := { row := quandleValidUptoRow, standIns := [], harness := (true, "80a1b384fda0cb5ff6f79141b5cb5edcab0e3e35b331f8e81d08cf96b960c75e"), looks := false }, kinds := [], alts := [], laidByText := true, laidKinds := [.data, .data, .data], laidTests := true, laidLooks := .later }
def QuandleValidUptoCardSaid : Prop := Claim7.holds Tryd.pinned (.plain (OpenSpec.upto quandleValidSpec)) quandleValidUptoCard

/-- THE SECOND FORM's CARD OF 'unravellaw28.QuandleAutomorphisms'. -/
def quandleAutomorphismsUptoCard : Claim7 := { stood := { row := quandleAutomorphismsUptoRow, standIns := [], harness := (true, "80a1b384fda0cb5ff6f79141b5cb5edcab0e3e35b331f8e81d08cf96b960c75e"), looks := false }, kinds := [], alts := [], laidByText := true, laidKinds := [.data, .data, .data], laidTests := true, laidLooks := .later }
def QuandleAutomorphismsUptoCardSaid : Prop := Claim7.holds Tryd.pinned (.plain (OpenSpec.upto quandleAutomorphismsSpec)) quandleAutomorphismsUptoCard
end Rows
end Go.Proofs.YtlgiponfcmeiiaaDoor
