/- The program's TokenStep and the reference's TokenStep return the same for every number and every bool. No condition. -/
import Derived.Test.YtpeifepnaecjiaaQFnExactTokenStep0
namespace Go.Proofs.Ytpeifepnaecjiaa.Pure
open Go.RowKit Go.Proofs.Ytpeifepnaecjiaa.PFnExactTokenStep Go.Proofs.YtpeifepnaecjiaaW.PrintWords Go.Proofs.YtpeifepnaecjiaaW.PrintLast Go.Proofs.YtpeifepnaecjiaaW.PrintMore Go.Proofs.Ytpeifepnaecjiaa.Lim
set_option linter.unusedVariables false
set_option linter.unusedSimpArgs false

theorem FnExactTokenStep : laws_FnExactTokenStep.Pure := by
  intro t s ht
  refine (laws_FnExactTokenStep.fL_is t s).rounds ?_
  rw [laws_FnExactTokenStep.fL_eq, spec_TokenStep_f, impl_TokenStep_f]
  simp

end Go.Proofs.Ytpeifepnaecjiaa.Pure
