/- The program's PairsText and the reference's PairsText return the same for every list of pairs, and the list reads afterwards as before. The table of the library's that strconv.Itoa reads is tied to the program's text. No other condition. -/
import Derived.Test.YtfeeifefmenlmaaDoorQFnExactPairsText0
namespace Go.Proofs.YtfeeifefmenlmaaDoor.Pure
open Go.RowKit Go.Proofs.YtfeeifefmenlmaaDoor.PFnExactPairsText Go.Proofs.YtfeeifefmenlmaaDoorW.PrintWords Go.Proofs.YtfeeifefmenlmaaDoorW.PrintLast Go.Proofs.YtfeeifefmenlmaaDoorW.PrintMore Go.Proofs.YtfeeifefmenlmaaDoor.Lim
set_option linter.unusedVariables false
set_option linter.unusedSimpArgs false

theorem FnExactPairsText : laws_FnExactPairsText.Pure := by
  intro xs hx
  obtain ⟨r, hr, hs⟩ := szPairS_f xs 1048576 (by omega) (by omega) hx.1 (fun x h => (hx.2 x h).1)
  refine (laws_FnExactPairsText.fL_is xs).rounds ?_
  rw [laws_FnExactPairsText.fL_eq, hr, Option.bind_some]
  by_cases h : r < 0
  · rw [if_pos h]
  · have hl : xs.length ≤ 1048576 := by omega
    have hm : (xs.map cvPair).length ≤ 1000000000000 := by simp; omega
    rw [if_neg h, toPairS_f xs hl, Option.bind_some, spec_PairsText_f, Option.bind_some, Option.bind_some, impl_PairsText_f, Option.bind_some, if_pos rfl, Option.bind_some, eqPairS_refl _ hm, Option.bind_some, if_pos rfl]

end Go.Proofs.YtfeeifefmenlmaaDoor.Pure
