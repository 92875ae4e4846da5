/- The program's RetryTimes and the reference's RetryTimes return the same list for every two numbers, and the program's result is new memory. No condition. -/
import Derived.Test.YtpeifepnaecjiaaQFnExactRetryTimes0
namespace Go.Proofs.Ytpeifepnaecjiaa.Pure
open Go.RowKit Go.Proofs.Ytpeifepnaecjiaa.PFnExactRetryTimes Go.Proofs.YtpeifepnaecjiaaW.PrintWords Go.Proofs.YtpeifepnaecjiaaW.PrintLast Go.Proofs.YtpeifepnaecjiaaW.PrintMore Go.Proofs.Ytpeifepnaecjiaa.Lim
set_option linter.unusedVariables false
set_option linter.unusedSimpArgs false

theorem FnExactRetryTimes : laws_FnExactRetryTimes.Pure := by
  intro t many _ _
  refine (laws_FnExactRetryTimes.fL_is t many).rounds ?_
  have hl := retryTimes_length t many
  rw [laws_FnExactRetryTimes.fL_eq, spec_RetryTimes_f, Option.bind_some, impl_RetryTimes_f, Option.bind_some, laws_eqIntS_f _ _ (by omega), Option.bind_some, if_pos (by simp),
    laws_markIntS_f _ 1 (by omega) (by omega) (by omega), Option.bind_some, laws_heldIntS_f _ 1 (by omega) (by omega) (by omega), Option.bind_some, if_neg (by omega), if_pos rfl, Option.bind_some, laws_eqIntS_f _ _ (by omega), Option.bind_some, if_pos (by simp), Option.bind_some, if_neg (by omega), if_pos rfl]

end Go.Proofs.Ytpeifepnaecjiaa.Pure
