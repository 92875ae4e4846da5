/- The program's UndoFeed and the reference's UndoFeed return the same for every list of changes and every number, the list reads afterwards as before, and the program's result is new memory. No condition. -/
import Derived.Test.YtkejaolfbejokaaQFnExactUndoFeed0
namespace Go.Proofs.Ytkejaolfbejokaa.Pure
open Go.RowKit Go.Proofs.Ytkejaolfbejokaa.PFnExactUndoFeed Go.Proofs.YtkejaolfbejokaaW.PrintWords Go.Proofs.YtkejaolfbejokaaW.PrintLast Go.Proofs.YtkejaolfbejokaaW.PrintMore Go.Proofs.Ytkejaolfbejokaa.Lim
set_option linter.unusedVariables false
set_option linter.unusedSimpArgs false

theorem FnExactUndoFeed : laws_FnExactUndoFeed.Pure := by
  intro xs n hx hn
  obtain ⟨r, hr, hs⟩ := szChangeS_f xs 1048576 (by omega) (by omega) hx.1 (fun x h => (hx.2 x h).2.1)
  refine (laws_FnExactUndoFeed.fL_is xs n).rounds ?_
  rw [laws_FnExactUndoFeed.fL_eq, hr, Option.bind_some]
  by_cases h : r < 0
  · rw [if_pos h]
  · have hl : xs.length ≤ 1048576 := by omega
    have hm : (xs.map cvChange).length ≤ 1000000000 := by simp; omega
    have hf := undoFeed_length (xs.map cvChange) n
    have k1 := markChangeS_f (xs.map cvChange) 1 hm (by omega) (by omega)
    have k2 := markChangeS_f (undoFeed (xs.map cvChange) n) 1 (by omega) (by omega) (by omega)
    have k3 := heldChangeS_f (undoFeed (xs.map cvChange) n).length 1 (by omega) (by omega) (by omega)
    have e1 := eqChangeS_refl (xs.map cvChange) (by omega)
    have e2 := eqChangeS_refl (undoFeed (xs.map cvChange) n) (by omega)
    rw [if_neg h]
    simp only [toChangeS_f xs hl, Option.bind_some, spec_UndoFeed_f (xs.map cvChange) n (by omega), impl_UndoFeed_f (xs.map cvChange) n (by omega) (wf64 hn).1, e1, e2, k1, if_true, Bool.not_true, laws_FnExactUndoFeed.j0L_eq, k2, k3]
    rw [if_neg (by omega), if_neg (by simp), if_neg (by omega), if_neg (by omega)]

end Go.Proofs.Ytkejaolfbejokaa.Pure
