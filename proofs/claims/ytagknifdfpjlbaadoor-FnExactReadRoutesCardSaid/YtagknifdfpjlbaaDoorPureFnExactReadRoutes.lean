/- The program's ReadRoutes and the reference's ReadRoutes return the same for every text, and the program's result is new memory. The variables of Go's library that are read on the way are tied to the program's text. No other condition. -/
import Derived.Test.YtagknifdfpjlbaaDoorQFnExactReadRoutes0
namespace Go.Proofs.YtagknifdfpjlbaaDoor.Pure
open Go.RowKit Go.Proofs.YtagknifdfpjlbaaDoor.PFnExactReadRoutes Go.Proofs.YtagknifdfpjlbaaDoorW.PrintWords Go.Proofs.YtagknifdfpjlbaaDoorW.PrintLast Go.Proofs.YtagknifdfpjlbaaDoorW.PrintMore Go.Proofs.YtagknifdfpjlbaaDoor.Lim
set_option linter.unusedVariables false
set_option linter.unusedSimpArgs false

theorem FnExactReadRoutes : laws_FnExactReadRoutes.Pure := by
  intro s hs
  refine (laws_FnExactReadRoutes.fL_is s).rounds ?_
  rw [laws_FnExactReadRoutes.fL_eq]
  by_cases h : (s.size : Int) > 1048576
  · rw [if_pos h]
  · have hf := readR_length s
    have k3 := markRouteS_f (readR s).1 1 (by omega) (by omega) (by omega)
    have k4 := heldRouteS_f (readR s).1.length 1 (by omega) (by omega) (by omega)
    have e3 := eqRouteS_refl (readR s).1 (by omega)
    rw [if_neg h]
    simp only [spec_ReadRoutes_f s (by omega), impl_ReadRoutes_f s (by omega), Option.bind_some, e3, if_true, bne_self_eq_false, laws_FnExactReadRoutes.j0L_eq, laws_FnExactReadRoutes.j1L_eq, k3, k4]
    rw [if_neg (show ¬ (1 + 3 * ((readR s).1.length : Int) < 0) by omega)]
    simp
    omega

end Go.Proofs.YtagknifdfpjlbaaDoor.Pure
