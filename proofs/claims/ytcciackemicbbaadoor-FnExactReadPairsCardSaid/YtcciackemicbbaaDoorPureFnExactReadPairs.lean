/- The program's ReadPairs and the reference's ReadPairs return the same for every text, and the program's result is new memory. The variables of Go's library that are read on the way are tied to the program's text. No other condition. -/
import Derived.Test.YtcciackemicbbaaDoorQFnExactReadPairs0
namespace Go.Proofs.YtcciackemicbbaaDoor.Pure
open Go.RowKit Go.Proofs.YtcciackemicbbaaDoor.PFnExactReadPairs Go.Proofs.YtcciackemicbbaaDoorW.PrintWords Go.Proofs.YtcciackemicbbaaDoorW.PrintLast Go.Proofs.YtcciackemicbbaaDoorW.PrintMore Go.Proofs.YtcciackemicbbaaDoor.Lim
set_option linter.unusedVariables false
set_option linter.unusedSimpArgs false

theorem FnExactReadPairs : laws_FnExactReadPairs.Pure := by
  intro s hs
  refine (laws_FnExactReadPairs.fL_is s).rounds ?_
  rw [laws_FnExactReadPairs.fL_eq]
  by_cases h : (s.size : Int) > 1048576
  · rw [if_pos h]
  · have hf := readP_length s
    have k3 := markPairS_f (readP s).1 1 (by omega) (by omega) (by omega)
    have k4 := heldPairS_f (readP s).1.length 1 (by omega) (by omega) (by omega)
    have e3 := eqPairS_refl (readP s).1 (by omega)
    rw [if_neg h]
    simp only [spec_ReadPairs_f s (by omega), impl_ReadPairs_f s (by omega), Option.bind_some, e3, if_true, bne_self_eq_false, laws_FnExactReadPairs.j0L_eq, laws_FnExactReadPairs.j1L_eq, k3, k4]
    rw [if_neg (show ¬ (1 + 2 * ((readP s).1.length : Int) < 0) by omega)]
    simp
    omega

end Go.Proofs.YtcciackemicbbaaDoor.Pure
