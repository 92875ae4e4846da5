/-
  DERIVED. GIVEN WITH THE SEED: THE CARDS: each row of YtfeeifefmenlmaaDoorRows.lean that lists a variable, with what it lists TIED to the program's text (the seventh form; the later family's looks); each row that meets fmt, with fmt's text TOLD by the authors' own Lean function (tested against real Go, not proved from fmt's source: count such statements apart). THE CARD IS WHAT COUNTS. Prove the row's statement (the work); the ties are given (YtfeeifefmenlmaaDoorTie.lean); close each card by the builder's one call (the guide's Derived/Test/ToyasCard.lean, 'card_holds'). Laid BY PROGRAM, IN A SANDBOX (cutbox-door.mjs). By AI agents, Wed Nov 11 2026. No macro, syntax, notation, axiom, sorry.
-/
import Derived.Test.YtfeeifefmenlmaaDoorRows
import GoSem.ClaimSeven
namespace Go.Proofs.YtfeeifefmenlmaaDoor
namespace Rows

/-- THE TIED CARD OF 'laws.FnExactPairsText'. -/
def fnExactPairsTextCard : Claim7 := { stood := { row := fnExactPairsTextRow, standIns := [], harness := (true, "c5310f8628a620fcd1b8231bdb7db00d9c35560ec29850bfcd547cbacd9a4ae2"), looks := false }, kinds := [], alts := [], laidByText := true, laidKinds := [.data, .data, .data], laidTests := true, laidLooks := .later }
def FnExactPairsTextCardSaid : Prop := Claim7.holds Tryd.pinned (.plain (OpenSpec.ofChange fnExactPairsTextSpec)) fnExactPairsTextCard

/-- THE SECOND FORM's CARD OF 'laws.FnExactPairsText'. -/
def fnExactPairsTextUptoCard : Claim7 := { stood := { row := fnExactPairsTextUptoRow, standIns := [], harness := (true, "c5310f8628a620fcd1b8231bdb7db00d9c35560ec29850bfcd547cbacd9a4ae2"), looks := false }, kinds := [], alts := [], laidByText := true, laidKinds := [.data, .data, .data], laidTests := true, laidLooks := .later }
def FnExactPairsTextUptoCardSaid : Prop := Claim7.holds Tryd.pinned (.plain (OpenSpec.upto fnExactPairsTextSpec)) fnExactPairsTextUptoCard
end Rows
end Go.Proofs.YtfeeifefmenlmaaDoor
