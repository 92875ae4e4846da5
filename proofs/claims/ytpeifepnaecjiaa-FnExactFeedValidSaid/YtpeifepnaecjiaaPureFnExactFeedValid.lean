/- The program's FeedValid and the reference's FeedValid return the same for every list of changes, and the list reads afterwards as before. No condition. -/
import Derived.Test.YtpeifepnaecjiaaQFnExactFeedValid0
namespace Go.Proofs.Ytpeifepnaecjiaa.Pure
open Go.RowKit Go.Proofs.Ytpeifepnaecjiaa.PFnExactFeedValid Go.Proofs.YtpeifepnaecjiaaW.PrintWords Go.Proofs.YtpeifepnaecjiaaW.PrintLast Go.Proofs.YtpeifepnaecjiaaW.PrintMore Go.Proofs.Ytpeifepnaecjiaa.Lim
set_option linter.unusedVariables false
set_option linter.unusedSimpArgs false

theorem FnExactFeedValid : laws_FnExactFeedValid.Pure := by
  intro xs hx
  obtain ⟨r, hr, hs⟩ := szChangeS_f xs 1048576 (by omega) (by omega) hx.1 (fun x h => (hx.2 x h).2.1)
  refine (laws_FnExactFeedValid.fL_is xs).rounds ?_
  rw [laws_FnExactFeedValid.fL_eq, hr, Option.bind_some]
  by_cases h : r < 0
  · rw [if_pos h]
  · have hl : xs.length ≤ 1048576 := by omega
    have hm : (xs.map cvChange).length ≤ 1000000000000 := by simp; omega
    rw [if_neg h, toChangeS_f xs hl, Option.bind_some, spec_FeedValid_f _ hm, Option.bind_some, Option.bind_some, impl_FeedValid_f, Option.bind_some]
    simp only [eqChangeS_refl _ hm, Option.bind_some]
    simp

end Go.Proofs.Ytpeifepnaecjiaa.Pure
