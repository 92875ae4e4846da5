/-
  DERIVED. GIVEN WITH THE SEED: THE CARDS: each row of YtagknifdfpjlbaaDoorRows.lean that lists a variable, with what it lists TIED to the program's text (the seventh form; the later family's looks); each row that meets fmt, with fmt's text TOLD by the authors' own Lean function (tested against real Go, not proved from fmt's source: count such statements apart). THE CARD IS WHAT COUNTS. Prove the row's statement (the work); the ties are given (YtagknifdfpjlbaaDoorTie.lean); close each card by the builder's one call (the guide's Derived/Test/ToyasCard.lean, 'card_holds'). Laid BY PROGRAM, IN A SANDBOX (cutbox-door.mjs). By AI agents, Wed Nov 11 2026. No macro, syntax, notation, axiom, sorry.
-/
import Derived.Test.YtagknifdfpjlbaaDoorRows
import GoSem.ClaimSeven
namespace Go.Proofs.YtagknifdfpjlbaaDoor
namespace Rows

/-- THE TIED CARD OF 'laws.FnPairsText'. -/
def fnPairsTextCard : Claim7 := { stood := { row := fnPairsTextRow, standIns := [], harness := (true, "8c266e32bac9b18700f792ced9a4cfc9570c0d1a99980052a19beaf373f4be0d"), looks := true }, kinds := [], alts := [], laidByText := true, laidKinds := [.data, .data, .data, .data, .sentinel, .sentinel, .pinned], laidTests := true, laidLooks := .later }
def FnPairsTextCardSaid : Prop := Claim7.holds Tryd.pinned (.plain (OpenSpec.ofChange fnPairsTextSpec)) fnPairsTextCard

/-- THE TIED CARD OF 'laws.FnExactReadRoutes'. -/
def fnExactReadRoutesCard : Claim7 := { stood := { row := fnExactReadRoutesRow, standIns := [], harness := (true, "8c266e32bac9b18700f792ced9a4cfc9570c0d1a99980052a19beaf373f4be0d"), looks := true }, kinds := [], alts := [], laidByText := true, laidKinds := [.data, .data, .data, .data, .sentinel, .sentinel, .pinned], laidTests := true, laidLooks := .later }
def FnExactReadRoutesCardSaid : Prop := Claim7.holds Tryd.pinned (.plain (OpenSpec.ofChange fnExactReadRoutesSpec)) fnExactReadRoutesCard

/-- THE TIED CARD OF 'laws.FnReadPairs'. -/
def fnReadPairsCard : Claim7 := { stood := { row := fnReadPairsRow, standIns := [], harness := (true, "8c266e32bac9b18700f792ced9a4cfc9570c0d1a99980052a19beaf373f4be0d"), looks := true }, kinds := [], alts := [], laidByText := true, laidKinds := [.data, .data, .data, .data, .sentinel, .sentinel, .pinned], laidTests := true, laidLooks := .later }
def FnReadPairsCardSaid : Prop := Claim7.holds Tryd.pinned (.plain (OpenSpec.ofChange fnReadPairsSpec)) fnReadPairsCard

/-- THE TIED CARD OF 'laws.FnRoutesText'. -/
def fnRoutesTextCard : Claim7 := { stood := { row := fnRoutesTextRow, standIns := [], harness := (true, "8c266e32bac9b18700f792ced9a4cfc9570c0d1a99980052a19beaf373f4be0d"), looks := true }, kinds := [], alts := [], laidByText := true, laidKinds := [.data, .data, .data, .data, .sentinel, .sentinel, .pinned], laidTests := true, laidLooks := .later }
def FnRoutesTextCardSaid : Prop := Claim7.holds Tryd.pinned (.plain (OpenSpec.ofChange fnRoutesTextSpec)) fnRoutesTextCard

/-- THE TIED CARD OF 'laws.FnReadRoutes'. -/
def fnReadRoutesCard : Claim7 := { stood := { row := fnReadRoutesRow, standIns := [], harness := (true, "8c266e32bac9b18700f792ced9a4cfc9570c0d1a99980052a19beaf373f4be0d"), looks := true }, kinds := [], alts := [], laidByText := true, laidKinds := [.data, .data, .data, .data, .sentinel, .sentinel, .pinned], laidTests := true, laidLooks := .later }
def FnReadRoutesCardSaid : Prop := Claim7.holds Tryd.pinned (.plain (OpenSpec.ofChange fnReadRoutesSpec)) fnReadRoutesCard

/-- THE SECOND FORM's CARD OF 'laws.FnPairsText'. -/
def fnPairsTextUptoCard : Claim7 := { stood := { row := fnPairsTextUptoRow, standIns := [], harness := (true, "8c266e32bac9b18700f792ced9a4cfc9570c0d1a99980052a19beaf373f4be0d"), looks := true }, kinds := [], alts := [], laidByText := true, laidKinds := [.data, .data, .data, .data, .sentinel, .sentinel, .pinned], laidTests := true, laidLooks := .later }
def FnPairsTextUptoCardSaid : Prop := Claim7.holds Tryd.pinned (.plain (OpenSpec.upto fnPairsTextSpec)) fnPairsTextUptoCard

/-- THE SECOND FORM's CARD OF 'laws.FnExactReadRoutes'. -/
def fnExactReadRoutesUptoCard : Claim7 := { stood := { row := fnExactReadRoutesUptoRow, standIns := [], harness := (true, "8c266e32bac9b18700f792ced9a4cfc9570c0d1a99980052a19beaf373f4be0d"), looks := true }, kinds := [], alts := [], laidByText := true, laidKinds := [.data, .data, .data, .data, .sentinel, .sentinel, .pinned], laidTests := true, laidLooks := .later }
def FnExactReadRoutesUptoCardSaid : Prop := Claim7.holds Tryd.pinned (.plain (OpenSpec.upto fnExactReadRoutesSpec)) fnExactReadRoutesUptoCard

/-- THE SECOND FORM's CARD OF 'laws.FnReadPairs'. -/
def fnReadPairsUptoCard : Claim7 := { stood := { row := fnReadPairsUptoRow, standIns := [], harness := (true, "8c266e32bac9b18700f792ced9a4cfc9570c0d1a99980052a19beaf373f4be0d"), looks := true }, kinds := [], alts := [], laidByText := true, laidKinds := [.data, .data, .data, .data, .sentinel, .sentinel, .pinned], laidTests := true, laidLooks := .later }
def FnReadPairsUptoCardSaid : Prop := Claim7.holds Tryd.pinned (.plain (OpenSpec.upto fnReadPairsSpec)) fnReadPairsUptoCard

/-- THE SECOND FORM's CARD OF 'laws.FnRoutesText'. -/
def fnRoutesTextUptoCard : Claim7 := { stood := { row := fnRoutesTextUptoRow, standIns := [], harness := (true, "8c266e32bac9b18700f792ced9a4cfc9570c0d1a99980052a19beaf373f4be0d"), looks := true }, kinds := [], alts := [], laidByText := true, laidKinds := [.data, .data, .data, .data, .sentinel, .sentinel, .pinned], laidTests := true, laidLooks := .later }
def FnRoutesTextUptoCardSaid : Prop := Claim7.holds Tryd.pinned (.plain (OpenSpec.upto fnRoutesTextSpec)) fnRoutesTextUptoCard

/-- THE SECOND FORM's CARD OF 'laws.FnReadRoutes'. -/
def fnReadRoutesUptoCard : Claim7 := { stood := { row := fnReadRoutesUptoRow, standIns := [], harness := (true, "8c266e32bac9b18700f792ced9a4cfc9570c0d1a99980052a19beaf373f4be0d"), looks := true }, kinds := [], alts := [], laidByText := true, laidKinds := [.data, .data, .data, .data, .sentinel, .sentinel, .pinned], laidTests := true, laidLooks := .later }
def FnReadRoutesUptoCardSaid : Prop := Claim7.holds Tryd.pinned (.plain (OpenSpec.upto fnReadRoutesSpec)) fnReadRoutesUptoCard
end Rows
end Go.Proofs.YtagknifdfpjlbaaDoor
