/- The program's Backoff and the reference's Backoff return the same number for every number. No condition. -/
import Derived.Test.YtpeifepnaecjiaaQFnExactBackoff0
namespace Go.Proofs.Ytpeifepnaecjiaa.Pure
open Go.RowKit Go.Proofs.Ytpeifepnaecjiaa.PFnExactBackoff Go.Proofs.YtpeifepnaecjiaaW.PrintWords Go.Proofs.YtpeifepnaecjiaaW.PrintLast Go.Proofs.YtpeifepnaecjiaaW.PrintMore Go.Proofs.Ytpeifepnaecjiaa.Lim
set_option linter.unusedVariables false
set_option linter.unusedSimpArgs false

theorem FnExactBackoff : laws_FnExactBackoff.Pure := by
  intro t ht
  have h := wf64 ht
  refine (laws_FnExactBackoff.fL_is t).rounds ?_
  rw [laws_FnExactBackoff.fL_eq, spec_Backoff_f, impl_Backoff_f t h.1 h.2]
  simp

end Go.Proofs.Ytpeifepnaecjiaa.Pure
