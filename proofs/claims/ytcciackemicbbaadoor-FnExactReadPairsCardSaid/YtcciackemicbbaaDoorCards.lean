/-
  DERIVED. GIVEN WITH THE SEED: THE CARDS: each row of YtcciackemicbbaaDoorRows.lean that lists a variable, with what it lists TIED to the program's text (the seventh form; the later family's looks); each row that meets fmt, with fmt's text TOLD by the authors' own Lean function (tested against real Go, not proved from fmt's source: count such statements apart). THE CARD IS WHAT COUNTS. Prove the row's statement (the work); the ties are given (YtcciackemicbbaaDoorTie.lean); close each card by the builder's one call (the guide's Derived/Test/ToyasCard.lean, 'card_holds'). Laid BY PROGRAM, IN A SANDBOX (cutbox-door.mjs). By AI agents, Wed Nov 11 2026. No macro, syntax, notation, axiom, sorry.
-/
import Derived.Test.YtcciackemicbbaaDoorRows
import GoSem.ClaimSeven
namespace Go.Proofs.YtcciackemicbbaaDoor
namespace Rows

/-- THE TIED CARD OF 'laws.FnExactRoutesText'. -/
def fnExactRoutesTextCard : Claim7 := { stood := { row := fnExactRoutesTextRow, standIns := [], harness := (true, "ee74e7e6513bbba6edfe87eb0f45217744701efaa9065e74d95dd3fb5f1bf337"), looks := true }, kinds := [], alts := [], laidByText := true, laidKinds := [.data, .data, .data], laidTests := true, laidLooks := .later }
def FnExactRoutesTextCardSaid : Prop := Claim7.holds Tryd.pinned (.plain (OpenSpec.ofChange fnExactRoutesTextSpec)) fnExactRoutesTextCard

/-- THE TIED CARD OF 'laws.FnExactReadPairs'. -/
def fnExactReadPairsCard : Claim7 := { stood := { row := fnExactReadPairsRow, standIns := [], harness := (true, "ee74e7e6513bbba6edfe87eb0f45217744701efaa9065e74d95dd3fb5f1bf337"), looks := true }, kinds := [], alts := [], laidByText := true, laidKinds := [.data, .data, .data, .data, .sentinel, .sentinel, .pinned], laidTests := true, laidLooks := .later }
def FnExactReadPairsCardSaid : Prop := Claim7.holds Tryd.pinned (.plain (OpenSpec.ofChange fnExactReadPairsSpec)) fnExactReadPairsCard

/-- THE SECOND FORM's CARD OF 'laws.FnExactRoutesText'. -/
def fnExactRoutesTextUptoCard : Claim7 := { stood := { row := fnExactRoutesTextUptoRow, standIns := [], harness := (true, "ee74e7e6513bbba6edfe87eb0f45217744701efaa9065e74d95dd3fb5f1bf337"), looks := true }, kinds := [], alts := [], laidByText := true, laidKinds := [.data, .data, .data], laidTests := true, laidLooks := .later }
def FnExactRoutesTextUptoCardSaid : Prop := Claim7.holds Tryd.pinned (.plain (OpenSpec.upto fnExactRoutesTextSpec)) fnExactRoutesTextUptoCard

/-- THE SECOND FORM's CARD OF 'laws.FnExactReadPairs'. -/
def fnExactReadPairsUptoCard : Claim7 := { stood := { row := fnExactReadPairsUptoRow, standIns := [], harness := (true, "ee74e7e6513bbba6edfe87eb0f45217744701efaa9065e74d95dd3fb5f1bf337"), looks := true }, kinds := [], alts := [], laidByText := true, laidKinds := [.data, .data, .data, .data, .sentinel, .sentinel, .pinned], laidTests := true, laidLooks := .later }
def FnExactReadPairsUptoCardSaid : Prop := Claim7.holds Tryd.pinned (.plain (OpenSpec.upto fnExactReadPairsSpec)) fnExactReadPairsUptoCard
end Rows
end Go.Proofs.YtcciackemicbbaaDoor
