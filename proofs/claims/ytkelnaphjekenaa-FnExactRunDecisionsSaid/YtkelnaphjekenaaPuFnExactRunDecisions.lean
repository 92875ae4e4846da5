/- The program's RunDecisions and the reference's RunDecisions return the same for every list, the list reads afterwards as before, and the program's result is new memory. No condition. -/
import Derived.Test.YtkelnaphjekenaaPuH
set_option linter.unusedVariables false
set_option linter.unusedSimpArgs false
namespace Go.Proofs.Ytkelnaphjekenaa.Ev
open Go.Proofs.Ytkelnaphjekenaa.Eng
open Go.RowKit (wrap64)
theorem law (a0 : List laws_Decision) (h0 : Bnd (.sl Y_laws_Decision) a0) : laws_FnExactRunDecisions a0 = some (true, ()) := by
  obtain ⟨b1, b2⟩ := h0
  have hk : ∀ x ∈ a0, small x.Begun.Key := fun x hx => by
    obtain ⟨_, _, ⟨_, _, _, _, k, _⟩, _⟩ := b2 x hx
    exact k
  obtain ⟨r, hr, r0, r1, hs⟩ := szDecisionS_f a0 1048576 (by omega) (by omega) b1 hk
  rw [laws_FnExactRunDecisions_eq, hr, Option.bind_some, cond_dec]
  by_cases h : r < 0
  · rw [if_pos h]
  · have hl : a0.length ≤ 1048576 := by omega
    have hl' : (a0.map cvDecision).length ≤ 1048576 := by rw [List.length_map]; exact hl
    rw [if_neg h]
    have hs := runR_len (a0.map cvDecision)
    obtain ⟨k, l, hm, k0⟩ := markDecisionS_f (a0.map cvDecision) (by omega)
    generalize hR : runR (a0.map cvDecision) = R at hs
    simp only [toDecisionS_f a0 hl, spec_RunDecisions_f, impl_RunDecisions_f, Option.bind_some, hR, eqMaster_refl R.1 (by omega), eqDecisionS_refl (a0.map cvDecision) (by omega), beqB_self, Bool.not_true, cond_false, hm,
        markMaster_f R.1 1 (show R.1.Routes.length ≤ 1000000000 by omega) (by omega) (by omega), heldMaster_f _ _ _ _ 1 (show R.1.Routes.length ≤ 1000000000 by omega) (by omega) (by omega), decide_true, cond_dec]
    rw [if_neg (by omega), if_neg (by omega), if_neg (by omega)]
end Go.Proofs.Ytkelnaphjekenaa.Ev
