/- The program's PairsDigest and the reference's PairsDigest return the same for every list of pairs, and the list reads afterwards as before. No condition. -/
import Derived.Test.YtkejaolfbejokaaQFnExactPairsDigest0
namespace Go.Proofs.Ytkejaolfbejokaa.Pure
open Go.RowKit Go.Proofs.Ytkejaolfbejokaa.PFnExactPairsDigest Go.Proofs.YtkejaolfbejokaaW.PrintWords Go.Proofs.YtkejaolfbejokaaW.PrintLast Go.Proofs.YtkejaolfbejokaaW.PrintMore Go.Proofs.Ytkejaolfbejokaa.Lim
set_option linter.unusedVariables false
set_option linter.unusedSimpArgs false

theorem FnExactPairsDigest : laws_FnExactPairsDigest.Pure := by
  intro xs hx
  obtain ⟨r, hr, hs⟩ := szPairS_f xs 1048576 (by omega) (by omega) hx.1 (fun x h => (hx.2 x h).1)
  refine (laws_FnExactPairsDigest.fL_is xs).rounds ?_
  rw [laws_FnExactPairsDigest.fL_eq, hr, Option.bind_some]
  by_cases h : r < 0
  · rw [if_pos h]
  · have hl : xs.length ≤ 1048576 := by omega
    have hm : (xs.map cvPair).length ≤ 1000000000000 := by simp; omega
    rw [if_neg h, toPairS_f xs hl, Option.bind_some, spec_PairsDigest_f, Option.bind_some, Option.bind_some, impl_PairsDigest_f, Option.bind_some]
    simp only [eqPairS_refl _ hm, Option.bind_some]
    simp

end Go.Proofs.Ytkejaolfbejokaa.Pure
