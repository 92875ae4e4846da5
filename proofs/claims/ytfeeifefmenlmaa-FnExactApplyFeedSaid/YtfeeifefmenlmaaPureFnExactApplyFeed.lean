/- The program's ApplyFeed and the reference's ApplyFeed return the same for every list of pairs and every feed, both read afterwards as before, and the program's result is new memory. No condition. -/
import Derived.Test.YtfeeifefmenlmaaQFnExactApplyFeed0
namespace Go.Proofs.Ytfeeifefmenlmaa.Pure
open Go.RowKit Go.Proofs.Ytfeeifefmenlmaa.PFnExactApplyFeed Go.Proofs.YtfeeifefmenlmaaW.PrintWords Go.Proofs.YtfeeifefmenlmaaW.PrintLast Go.Proofs.YtfeeifefmenlmaaW.PrintMore Go.Proofs.Ytfeeifefmenlmaa.Lim
set_option linter.unusedVariables false
set_option linter.unusedSimpArgs false

theorem FnExactApplyFeed : laws_FnExactApplyFeed.Pure := by
  intro xs cs hx hc
  obtain ⟨r, hr, hs⟩ := szPairS_f xs 1048576 (by omega) (by omega) hx.1 (fun x h => (hx.2 x h).1)
  refine (laws_FnExactApplyFeed.fL_is xs cs).rounds ?_
  rw [laws_FnExactApplyFeed.fL_eq, hr, Option.bind_some]
  by_cases h : r < 0
  · rw [if_pos h]
  · obtain ⟨r2, hr2, hs2⟩ := szChangeS_f cs r (by omega) (by omega) hc.1 (fun x h => (hc.2 x h).2.1)
    rw [if_neg h, hr2, Option.bind_some]
    by_cases h2 : r2 < 0
    · rw [if_pos h2]
    · have hl : xs.length ≤ 1048576 := by omega
      have hl2 : cs.length ≤ 1048576 := by omega
      have hm : (xs.map cvPair).length ≤ 1048576 := by simp; omega
      have hm2 : (cs.map cvChange).length ≤ 1048576 := by simp; omega
      have hf := applyFeed_length (xs.map cvPair) (cs.map cvChange)
      have k1 := markPairS_f (xs.map cvPair) 1 (by omega) (by omega) (by omega)
      have k2 := markChangeS_f (cs.map cvChange) (1 + 2 * (xs.map cvPair).length) (by omega) (by omega) (by omega)
      have k3 := markPairS_f (applyFeed (xs.map cvPair) (cs.map cvChange)).1 1 (by omega) (by omega) (by omega)
      have k4 := heldPairS_f (applyFeed (xs.map cvPair) (cs.map cvChange)).1.length 1 (by omega) (by omega) (by omega)
      have e1 := eqPairS_refl (xs.map cvPair) (by omega)
      have e2 := eqChangeS_refl (cs.map cvChange) (by omega)
      have e3 := eqPairS_refl (applyFeed (xs.map cvPair) (cs.map cvChange)).1 (by omega)
      rw [if_neg h2]
      simp only [toPairS_f xs hl, toChangeS_f cs hl2, Option.bind_some, spec_ApplyFeed_f _ _ hm2, impl_ApplyFeed_f, e1, e2, e3, k1, k2, if_true, bne_self_eq_false, laws_FnExactApplyFeed.j0L_eq, laws_FnExactApplyFeed.j1L_eq, laws_FnExactApplyFeed.j2L_eq, k3, k4]
      rw [if_neg (show ¬ (1 + 2 * ((xs.map cvPair).length : Int) + 4 * ((cs.map cvChange).length : Int) < 0) by omega), if_neg (show ¬ (1 + 2 * ((applyFeed (xs.map cvPair) (cs.map cvChange)).1.length : Int) < 0) by omega)]
      simp
      omega

end Go.Proofs.Ytfeeifefmenlmaa.Pure
