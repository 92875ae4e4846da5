/- The program's RepliesRight and the reference's RepliesRight return the same for every list of results and every order, and both lists read afterwards as before. No condition. -/
import Derived.Test.YtfeeifefmenlmaaQFnExactRepliesRight0
namespace Go.Proofs.Ytfeeifefmenlmaa.Pure
open Go.RowKit Go.Proofs.Ytfeeifefmenlmaa.PFnExactRepliesRight Go.Proofs.YtfeeifefmenlmaaW.PrintWords Go.Proofs.YtfeeifefmenlmaaW.PrintLast Go.Proofs.YtfeeifefmenlmaaW.PrintMore Go.Proofs.Ytfeeifefmenlmaa.Lim
set_option linter.unusedVariables false
set_option linter.unusedSimpArgs false

theorem FnExactRepliesRight : laws_FnExactRepliesRight.Pure := by
  intro xs o hx ho
  obtain ⟨r, hr, hs⟩ := szResultS_f xs 1048576 (by omega) (by omega) hx.1 (fun x h => (hx.2 x h).2.2.1.2.1)
  refine (laws_FnExactRepliesRight.fL_is xs o).rounds ?_
  rw [laws_FnExactRepliesRight.fL_eq]
  by_cases h1 : (o.length : Int) > 1048576
  · rw [if_pos h1]
  · rw [if_neg h1, hr, Option.bind_some]
    by_cases h : r < 0
    · rw [if_pos h]
    · have hl : xs.length ≤ 1048576 := by omega
      have hm : (xs.map cvResult).length ≤ 1000000000000 := by simp; omega
      rw [if_neg h, toResultS_f xs hl, Option.bind_some, laws_toIntS_f o (by omega), Option.bind_some, spec_RepliesRight_f, Option.bind_some, Option.bind_some, Option.bind_some, impl_RepliesRight_f, Option.bind_some]
      simp only [eqResultS_refl _ hm, Option.bind_some, laws_eqIntS_f o o (by omega)]
      simp

end Go.Proofs.Ytfeeifefmenlmaa.Pure
