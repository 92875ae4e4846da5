/- The program's FeedFrom and the reference's FeedFrom return the same for every list of changes and every number, the list reads afterwards as before, and the program's result is new memory. No condition. -/
import Derived.Test.YtkejaolfbejokaaQFnExactFeedFrom0
namespace Go.Proofs.Ytkejaolfbejokaa.Pure
open Go.RowKit Go.Proofs.Ytkejaolfbejokaa.PFnExactFeedFrom Go.Proofs.YtkejaolfbejokaaW.PrintWords Go.Proofs.YtkejaolfbejokaaW.PrintLast Go.Proofs.YtkejaolfbejokaaW.PrintMore Go.Proofs.Ytkejaolfbejokaa.Lim
set_option linter.unusedVariables false
set_option linter.unusedSimpArgs false

theorem FnExactFeedFrom : laws_FnExactFeedFrom.Pure := by
  intro xs n hx _
  obtain ⟨r, hr, hs⟩ := szChangeS_f xs 1048576 (by omega) (by omega) hx.1 (fun x h => (hx.2 x h).2.1)
  refine (laws_FnExactFeedFrom.fL_is xs n).rounds ?_
  rw [laws_FnExactFeedFrom.fL_eq, hr, Option.bind_some]
  by_cases h : r < 0
  · rw [if_pos h]
  · have hl : xs.length ≤ 1048576 := by omega
    have hm : (xs.map cvChange).length ≤ 1000000000 := by simp; omega
    have hf := feedLater_length (xs.map cvChange) n
    have k1 := markChangeS_f (xs.map cvChange) 1 hm (by omega) (by omega)
    have k2 := markChangeS_f (feedLater (xs.map cvChange) n) 1 (by omega) (by omega) (by omega)
    have k3 := heldChangeS_f (feedLater (xs.map cvChange) n).length 1 (by omega) (by omega) (by omega)
    have e1 := eqChangeS_refl (xs.map cvChange) (by omega)
    have e2 := eqChangeS_refl (feedLater (xs.map cvChange) n) (by omega)
    rw [if_neg h]
    simp only [toChangeS_f xs hl, Option.bind_some, spec_FeedFrom_f (xs.map cvChange) n (by omega), impl_FeedFrom_f, e1, e2, k1, if_true, Bool.not_true, laws_FnExactFeedFrom.j0L_eq, k2, k3]
    rw [if_neg (by omega), if_neg (by simp), if_neg (by omega), if_neg (by omega)]

end Go.Proofs.Ytkejaolfbejokaa.Pure
