/- The program's TokenRun and the reference's TokenRun return the same for every number and every list of bools, and the list reads afterwards as before. No condition. -/
import Derived.Test.YtpeifepnaecjiaaQFnExactTokenRun0
namespace Go.Proofs.Ytpeifepnaecjiaa.Pure
open Go.RowKit Go.Proofs.Ytpeifepnaecjiaa.PFnExactTokenRun Go.Proofs.YtpeifepnaecjiaaW.PrintWords Go.Proofs.YtpeifepnaecjiaaW.PrintLast Go.Proofs.YtpeifepnaecjiaaW.PrintMore Go.Proofs.Ytpeifepnaecjiaa.Lim
set_option linter.unusedVariables false
set_option linter.unusedSimpArgs false

theorem FnExactTokenRun : laws_FnExactTokenRun.Pure := by
  intro t xs ht hx
  refine (laws_FnExactTokenRun.fL_is t xs).rounds ?_
  rw [laws_FnExactTokenRun.fL_eq]
  by_cases h : (xs.length : Int) > 1048576
  · rw [if_pos h]
  · rw [if_neg h, laws_toBoolS_f xs (by omega), Option.bind_some, spec_TokenRun_f, Option.bind_some, Option.bind_some, impl_TokenRun_f, Option.bind_some]
    simp only [laws_FnExactTokenRun.j0L_eq, laws_toBoolS_f xs (by omega), laws_eqBoolS_refl xs (by omega), Option.bind_some]
    simp

end Go.Proofs.Ytpeifepnaecjiaa.Pure
