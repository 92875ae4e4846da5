/- Of drawn routes: the program's RoutesText is the reference's; where it is empty they are not valid; else ReadRoutes of it are the routes. The variables of Go's library that are read on the way are tied to the program's text. No other condition. -/
import Derived.Test.YtagknifdfpjlbaaDoorQFnRoutesText0
namespace Go.Proofs.YtagknifdfpjlbaaDoor.Pure
open Go.RowKit Go.Proofs.YtagknifdfpjlbaaDoor.PFnRoutesText Go.Proofs.YtagknifdfpjlbaaDoorW.PrintWords Go.Proofs.YtagknifdfpjlbaaDoorW.PrintLast Go.Proofs.YtagknifdfpjlbaaDoorW.PrintMore Go.Proofs.YtagknifdfpjlbaaDoor.Lim
set_option linter.unusedVariables false
set_option linter.unusedSimpArgs false

theorem FnRoutesText : laws_FnRoutesText.Pure := by
  intro l _ hl hw
  refine (laws_FnRoutesText.fL_is l).rounds ?_
  rw [laws_FnRoutesText.fL_eq]
  by_cases h : (l.length : Int) > 1048576
  · rw [if_pos h]
  · have hc := Code.take hw
    obtain ⟨xs, q, hx, _, _, hxl⟩ := l20Routes_ok hc 0 6 (by omega) (by omega) (by omega)
    have hd : spec_DrawRoutesText.fL l = some xs := by
      rw [spec_DrawRoutesText.fL_eq, spec_l20Open_f, Option.bind_some]
      dsimp only
      rw [hx, Option.bind_some]
    rw [if_neg h, hd, Option.bind_some, impl_RoutesText_f, Option.bind_some, spec_RoutesText_f _ (by omega), Option.bind_some, if_pos rfl]
    by_cases he : (rtext xs).toList = []
    · have hn : routesOk xs = false := by
        cases hp : routesOk xs with
        | false => rfl
        | true => exact absurd he (rtext_ne hp)
      rw [if_pos he, impl_RoutesValid_f, Option.bind_some, hn, if_neg Bool.false_ne_true, laws_alive_f, Option.bind_some]
    · have hp : routesOk xs = true := by
        cases hp : routesOk xs with
        | true => rfl
        | false => exact absurd (by unfold rtext; rw [if_neg (by rw [hp]; simp), toList_data]) he
      have hs := rtext_size xs
      rw [if_neg he, impl_ReadRoutes_f _ (by omega), readR_of hp, Option.bind_some]
      dsimp only
      rw [if_pos rfl, sameRoutes_refl xs (by omega), Option.bind_some]

end Go.Proofs.YtagknifdfpjlbaaDoor.Pure
