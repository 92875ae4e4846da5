/- The program's ChangesOf and the reference's ChangesOf return the same for every state and every log, both read afterwards as before, and the program's result is new memory. No condition. -/
import Derived.Test.YtcciackemicbbaaQFnExactChangesOf0
namespace Go.Proofs.Ytcciackemicbbaa.Pure
open Go.RowKit Go.Proofs.Ytcciackemicbbaa.PFnExactChangesOf Go.Proofs.YtcciackemicbbaaW.PrintWords Go.Proofs.YtcciackemicbbaaW.PrintLast Go.Proofs.YtcciackemicbbaaW.PrintMore Go.Proofs.Ytcciackemicbbaa.Lim
set_option linter.unusedVariables false
set_option linter.unusedSimpArgs false

theorem FnExactChangesOf : laws_FnExactChangesOf.Pure := by
  intro a b xs ys g s es ha hb hx hy hs he
  obtain ⟨r, hr, rk, hsz⟩ := szState_f a b xs ys g s 1048576 (by omega) (by omega) ha hb hs hx.1 hy.1 (fun x h => (hx.2 x h).1)
  refine (laws_FnExactChangesOf.fL_is a b xs ys g s es).rounds ?_
  rw [laws_FnExactChangesOf.fL_eq, hr, Option.bind_some]
  by_cases h : r < 0
  · rw [if_pos h]
  · obtain ⟨r2, hr2, rk2, hsz2⟩ := szEntryS_f es r (by omega) (by omega) he.1 (fun x h => (he.2 x h).2.2.2.1)
    rw [if_neg h, hr2, Option.bind_some]
    by_cases h2 : r2 < 0
    · rw [if_pos h2]
    · have hl1 : xs.length ≤ 1048576 := by omega
      have hl2 : ys.length ≤ 1048576 := by omega
      have hl3 : es.length ≤ 1048576 := by omega
      have m1 : (xs.map cvPair).length ≤ 2000000 := by simp; omega
      have m2 : (ys.map cvSession).length ≤ 2000000 := by simp; omega
      have m3 : (es.map cvEntry).length ≤ 2000000 := by simp; omega
      have hf := changesOf_length a b (xs.map cvPair) (ys.map cvSession) g s (es.map cvEntry)
      obtain ⟨us, vs, k1⟩ := markState_f a b (xs.map cvPair) (ys.map cvSession) g s 1 (by omega) (by omega) (by omega) (by omega)
      have k2 := markEntryS_f (es.map cvEntry) (1 + 2 * (xs.map cvPair).length + 3 * (ys.map cvSession).length) (by omega) (by omega) (by omega)
      have k3 := markChangeS_f (changesOf a b (xs.map cvPair) (ys.map cvSession) g s (es.map cvEntry)) 1 (by omega) (by omega) (by omega)
      have k4 := heldChangeS_f (changesOf a b (xs.map cvPair) (ys.map cvSession) g s (es.map cvEntry)).length 1 (by omega) (by omega) (by omega)
      have e1 := eqState_refl a b (xs.map cvPair) (ys.map cvSession) g s (by omega) (by omega)
      have e2 := eqEntryS_refl (es.map cvEntry) (by omega)
      have e3 := eqChangeS_refl (changesOf a b (xs.map cvPair) (ys.map cvSession) g s (es.map cvEntry)) (by omega)
      have hj : laws_FnExactChangesOf.j0L es (changesOf a b (xs.map cvPair) (ys.map cvSession) g s (es.map cvEntry)) (changesOf a b (xs.map cvPair) (ys.map cvSession) g s (es.map cvEntry)) false a b xs ys g s = some true := by
        rw [laws_FnExactChangesOf.j0L_eq, if_neg (by simp), k3, Option.bind_some]
        dsimp only
        rw [k4, Option.bind_some, if_neg (by omega), if_pos rfl, toState_f a b xs ys g s hl1 hl2, Option.bind_some]
        dsimp only
        rw [toEntryS_f es hl3, Option.bind_some, impl_ChangesOf_f _ _ _ _ _ _ _ (by omega), Option.bind_some, e3, Option.bind_some, if_pos rfl, Option.bind_some, if_neg (by omega), if_pos rfl]
      rw [if_neg h2, toState_f a b xs ys g s hl1 hl2, Option.bind_some]
      dsimp only
      rw [toEntryS_f es hl3, Option.bind_some, spec_ChangesOf_f _ _ _ _ _ _ _ (by omega) (by omega), Option.bind_some, Option.bind_some]
      dsimp only
      rw [Option.bind_some, impl_ChangesOf_f _ _ _ _ _ _ _ (by omega), Option.bind_some, e3, Option.bind_some, if_pos rfl, Option.bind_some]
      dsimp only
      rw [e1, Option.bind_some, if_pos rfl, Option.bind_some, e2, Option.bind_some, if_pos rfl, k1, Option.bind_some]
      dsimp only
      rw [k2, Option.bind_some]
      dsimp only
      rw [if_neg (by omega), Option.bind_some, Bool.not_true, hj]

end Go.Proofs.Ytcciackemicbbaa.Pure
