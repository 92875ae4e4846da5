/- The program's PartDigests and the reference's PartDigests return the same for all lists of pairs and all lists of intervals, the arguments read afterwards as before, and the program's result is new memory. No condition. -/
import Derived.Test.YtfeeifefmenlmaaQFnExactPartDigests0
namespace Go.Proofs.Ytfeeifefmenlmaa.Pure
open Go.RowKit Go.Proofs.Ytfeeifefmenlmaa.PFnExactPartDigests Go.Proofs.YtfeeifefmenlmaaW.PrintWords Go.Proofs.YtfeeifefmenlmaaW.PrintLast Go.Proofs.YtfeeifefmenlmaaW.PrintMore Go.Proofs.Ytfeeifefmenlmaa.Lim
set_option linter.unusedVariables false
set_option linter.unusedSimpArgs false

theorem FnExactPartDigests : laws_FnExactPartDigests.Pure := by
  intro xs ps hx hp
  obtain ⟨r, hr, hs⟩ := szPairS_f xs 1048576 (by omega) (by omega) hx.1 (fun x h => (hx.2 x h).1)
  refine (laws_FnExactPartDigests.fL_is xs ps).rounds ?_
  rw [laws_FnExactPartDigests.fL_eq, hr, Option.bind_some]
  by_cases h : r < 0
  · rw [if_pos h]
  · obtain ⟨r3, hr3, hs3⟩ := szIntervalS_f ps r (by omega) (by omega) hp.1 (fun x h => hp.2 x h)
    rw [if_neg h, hr3, Option.bind_some]
    by_cases h3 : r3 < 0
    · rw [if_pos h3]
    · have hl : xs.length ≤ 1048576 := by omega
      have hl3 : ps.length ≤ 1048576 := by omega
      have hm : (xs.map cvPair).length ≤ 1048576 := by simp; omega
      have hm3 : (ps.map cvInterval).length ≤ 1048576 := by simp; omega
      have hf := partDigests_length (xs.map cvPair) (ps.map cvInterval)
      have k1 := markPairS_f (xs.map cvPair) 1 (by omega) (by omega) (by omega)
      have k3 := markIntervalS_f (ps.map cvInterval) (1 + 2 * (xs.map cvPair).length) (by omega) (by omega) (by omega)
      have k4 := laws_markIntS_f (partDigests (xs.map cvPair) (ps.map cvInterval)) 1 (by omega) (by omega) (by omega)
      have k5 := laws_heldIntS_f (partDigests (xs.map cvPair) (ps.map cvInterval)).length 1 (by omega) (by omega) (by omega)
      have e1 := eqPairS_refl (xs.map cvPair) (by omega)
      have e3 := eqIntervalS_refl (ps.map cvInterval) (by omega)
      have e4 := laws_eqIntS_f (partDigests (xs.map cvPair) (ps.map cvInterval)) (partDigests (xs.map cvPair) (ps.map cvInterval)) (by omega)
      rw [if_neg h3]
      simp only [toPairS_f xs hl, toIntervalS_f ps hl3, Option.bind_some, spec_PartDigests_f, impl_PartDigests_f, e1, e3, e4, k1, k3, decide_true, if_true, Bool.not_true, laws_FnExactPartDigests.j0L_eq, k4, k5]
      rw [if_neg (show ¬ (1 + 2 * ((xs.map cvPair).length : Int) + 2 * ((ps.map cvInterval).length : Int) < 0) by omega), if_neg (show ¬ (1 + ((partDigests (xs.map cvPair) (ps.map cvInterval)).length : Int) < 0) by omega)]
      simp
      omega

end Go.Proofs.Ytfeeifefmenlmaa.Pure
