/- The program's MasterValid and the reference's MasterValid return the same for every master, and the argument reads afterwards as before. No condition. -/
import Derived.Test.YtkejaolfbejokaaQFnExactMasterValid0
namespace Go.Proofs.Ytkejaolfbejokaa.Pure
open Go.RowKit Go.Proofs.Ytkejaolfbejokaa.PFnExactMasterValid Go.Proofs.YtkejaolfbejokaaW.PrintWords Go.Proofs.YtkejaolfbejokaaW.PrintLast Go.Proofs.YtkejaolfbejokaaW.PrintMore Go.Proofs.Ytkejaolfbejokaa.Lim
set_option linter.unusedVariables false
set_option linter.unusedSimpArgs false

theorem FnExactMasterValid : laws_FnExactMasterValid.Pure := by
  intro xs sh a b c d e f g t hx _ _ _ _ hd _ _ _ _
  obtain ⟨r, hr, hs⟩ := szMaster_f xs sh a b c d e f g t 1048576 (by omega) (by omega) hd hx.1 (fun x h => (hx.2 x h).2)
  refine (laws_FnExactMasterValid.fL_is xs sh a b c d e f g t).rounds ?_
  rw [laws_FnExactMasterValid.fL_eq, hr, Option.bind_some]
  by_cases h : r < 0
  · rw [if_pos h]
  · have hl : xs.length ≤ 1048576 := by omega
    have hm : (xs.map cvRoute).length ≤ 1000000000000 := by simp; omega
    rw [if_neg h, toMaster_f xs hl, Option.bind_some]
    dsimp only
    rw [spec_MasterValid_f _ hm, Option.bind_some, Option.bind_some]
    dsimp only
    rw [impl_MasterValid_f _ hm, Option.bind_some]
    simp only [eqMaster_refl _ hm, Option.bind_some]
    simp

end Go.Proofs.Ytkejaolfbejokaa.Pure
