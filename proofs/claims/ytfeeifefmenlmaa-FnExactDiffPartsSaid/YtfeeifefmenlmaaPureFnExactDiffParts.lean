/- The program's DiffParts and the reference's DiffParts return the same for all lists of pairs and all lists of intervals, the arguments read afterwards as before, and the program's result is new memory. No condition. -/
import Derived.Test.YtfeeifefmenlmaaQFnExactDiffParts0
namespace Go.Proofs.Ytfeeifefmenlmaa.Pure
open Go.RowKit Go.Proofs.Ytfeeifefmenlmaa.PFnExactDiffParts Go.Proofs.YtfeeifefmenlmaaW.PrintWords Go.Proofs.YtfeeifefmenlmaaW.PrintLast Go.Proofs.YtfeeifefmenlmaaW.PrintMore Go.Proofs.Ytfeeifefmenlmaa.Lim
set_option linter.unusedVariables false
set_option linter.unusedSimpArgs false

theorem FnExactDiffParts : laws_FnExactDiffParts.Pure := by
  intro xs ys ps hx hy hp
  obtain ⟨r, hr, hs⟩ := szPairS_f xs 1048576 (by omega) (by omega) hx.1 (fun x h => (hx.2 x h).1)
  refine (laws_FnExactDiffParts.fL_is xs ys ps).rounds ?_
  rw [laws_FnExactDiffParts.fL_eq, hr, Option.bind_some]
  by_cases h : r < 0
  · rw [if_pos h]
  · obtain ⟨r2, hr2, hs2⟩ := szPairS_f ys r (by omega) (by omega) hy.1 (fun x h => (hy.2 x h).1)
    rw [if_neg h, hr2, Option.bind_some]
    by_cases h2 : r2 < 0
    · rw [if_pos h2]
    · obtain ⟨r3, hr3, hs3⟩ := szIntervalS_f ps r2 (by omega) (by omega) hp.1 (fun x h => hp.2 x h)
      rw [if_neg h2, hr3, Option.bind_some]
      by_cases h3 : r3 < 0
      · rw [if_pos h3]
      · have hl : xs.length ≤ 1048576 := by omega
        have hl2 : ys.length ≤ 1048576 := by omega
        have hl3 : ps.length ≤ 1048576 := by omega
        have hm : (xs.map cvPair).length ≤ 1048576 := by simp; omega
        have hm2 : (ys.map cvPair).length ≤ 1048576 := by simp; omega
        have hm3 : (ps.map cvInterval).length ≤ 1048576 := by simp; omega
        have hf := diffParts_length (xs.map cvPair) (ys.map cvPair) (ps.map cvInterval)
        have k1 := markPairS_f (xs.map cvPair) 1 (by omega) (by omega) (by omega)
        have k2 := markPairS_f (ys.map cvPair) (1 + 2 * (xs.map cvPair).length) (by omega) (by omega) (by omega)
        have k3 := markIntervalS_f (ps.map cvInterval) (1 + 2 * (xs.map cvPair).length + 2 * (ys.map cvPair).length) (by omega) (by omega) (by omega)
        have k4 := laws_markIntS_f (diffParts (xs.map cvPair) (ys.map cvPair) (ps.map cvInterval)) 1 (by omega) (by omega) (by omega)
        have k5 := laws_heldIntS_f (diffParts (xs.map cvPair) (ys.map cvPair) (ps.map cvInterval)).length 1 (by omega) (by omega) (by omega)
        have e1 := eqPairS_refl (xs.map cvPair) (by omega)
        have e2 := eqPairS_refl (ys.map cvPair) (by omega)
        have e3 := eqIntervalS_refl (ps.map cvInterval) (by omega)
        have e4 := laws_eqIntS_f (diffParts (xs.map cvPair) (ys.map cvPair) (ps.map cvInterval)) (diffParts (xs.map cvPair) (ys.map cvPair) (ps.map cvInterval)) (by omega)
        rw [if_neg h3]
        simp only [toPairS_f xs hl, toPairS_f ys hl2, toIntervalS_f ps hl3, Option.bind_some, spec_DiffParts_f, impl_DiffParts_f, e1, e2, e3, e4, k1, k2, k3, decide_true, if_true, Bool.not_true, laws_FnExactDiffParts.j0L_eq, k4, k5]
        rw [if_neg (show ¬ (1 + 2 * ((xs.map cvPair).length : Int) + 2 * ((ys.map cvPair).length : Int) + 2 * ((ps.map cvInterval).length : Int) < 0) by omega), if_neg (show ¬ (1 + ((diffParts (xs.map cvPair) (ys.map cvPair) (ps.map cvInterval)).length : Int) < 0) by omega)]
        simp
        omega

end Go.Proofs.Ytfeeifefmenlmaa.Pure
