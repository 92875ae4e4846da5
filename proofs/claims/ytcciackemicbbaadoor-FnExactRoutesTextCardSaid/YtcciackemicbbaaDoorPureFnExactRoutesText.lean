/- The program's RoutesText and the reference's RoutesText return the same for every list of routes, and the list reads afterwards as before. The table of the library's that strconv.Itoa reads is tied to the program's text. No other condition. -/
import Derived.Test.YtcciackemicbbaaDoorQFnExactRoutesText0
namespace Go.Proofs.YtcciackemicbbaaDoor.Pure
open Go.RowKit Go.Proofs.YtcciackemicbbaaDoor.PFnExactRoutesText Go.Proofs.YtcciackemicbbaaDoorW.PrintWords Go.Proofs.YtcciackemicbbaaDoorW.PrintLast Go.Proofs.YtcciackemicbbaaDoorW.PrintMore Go.Proofs.YtcciackemicbbaaDoor.Lim
set_option linter.unusedVariables false
set_option linter.unusedSimpArgs false

theorem FnExactRoutesText : laws_FnExactRoutesText.Pure := by
  intro xs hx
  obtain ⟨r, hr, _, _, hs⟩ := szRouteS_f xs 1048576 (by omega) (by omega) hx.1 (fun x h => (hx.2 x h).2)
  refine (laws_FnExactRoutesText.fL_is xs).rounds ?_
  rw [laws_FnExactRoutesText.fL_eq, hr, Option.bind_some]
  by_cases h : r < 0
  · rw [if_pos h]
  · have hl : xs.length ≤ 1048576 := by omega
    have hm : (xs.map cvRoute).length ≤ 1000000000000 := by simp; omega
    rw [if_neg h, toRouteS_f xs hl, Option.bind_some, spec_RoutesText_f _ hm, Option.bind_some, Option.bind_some, impl_RoutesText_f, Option.bind_some, if_pos rfl, Option.bind_some, eqRouteS_refl _ hm, Option.bind_some, if_pos rfl]

end Go.Proofs.YtcciackemicbbaaDoor.Pure
