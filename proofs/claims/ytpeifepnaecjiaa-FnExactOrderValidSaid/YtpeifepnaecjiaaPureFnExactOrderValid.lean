/- The program's OrderValid and the reference's OrderValid return the same for every number and every list of numbers, and the list reads afterwards as before. No condition. -/
import Derived.Test.YtpeifepnaecjiaaQFnExactOrderValid0
namespace Go.Proofs.Ytpeifepnaecjiaa.Pure
open Go.RowKit Go.Proofs.Ytpeifepnaecjiaa.PFnExactOrderValid Go.Proofs.YtpeifepnaecjiaaW.PrintWords Go.Proofs.YtpeifepnaecjiaaW.PrintLast Go.Proofs.YtpeifepnaecjiaaW.PrintMore Go.Proofs.Ytpeifepnaecjiaa.Lim
set_option linter.unusedVariables false
set_option linter.unusedSimpArgs false

theorem FnExactOrderValid : laws_FnExactOrderValid.Pure := by
  intro many l hm _ hl hw
  refine (laws_FnExactOrderValid.fL_is many l).rounds ?_
  rw [laws_FnExactOrderValid.fL_eq]
  by_cases h : (l.length : Int) > 1048576
  · rw [if_pos h]
  · rw [if_neg h, laws_toIntS_f l (by omega), Option.bind_some, spec_OrderValid_f, Option.bind_some, Option.bind_some, impl_OrderValid_f, Option.bind_some, Option.bind_some, laws_eqIntS_f l l (by omega)]
    simp

end Go.Proofs.Ytpeifepnaecjiaa.Pure
