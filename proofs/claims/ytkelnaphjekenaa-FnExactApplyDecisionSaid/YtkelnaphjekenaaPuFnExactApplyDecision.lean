/- The program's ApplyDecision and the reference's ApplyDecision return the same for every master and decision, both read afterwards as before, and the program's result is new memory. No condition. -/
import Derived.Test.YtkelnaphjekenaaPuG
set_option linter.unusedVariables false
set_option linter.unusedSimpArgs false
namespace Go.Proofs.Ytkelnaphjekenaa.Ev
open Go.Proofs.Ytkelnaphjekenaa.Eng
open Go.RowKit (wrap64)
theorem masterIn {m : laws_Master} (h : Bnd Y_laws_Master m) : MasterIn m := by
  obtain ⟨h0, h1, h2, h3, h4⟩ := h
  obtain ⟨l1, l2⟩ := h1
  obtain ⟨w0, w1, w2, w3, w4, _⟩ := h3
  refine ⟨l1, fun x hx => ?_, w4⟩
  obtain ⟨_, _, ⟨_, s1, s2, _⟩, _⟩ := l2 x hx
  exact ⟨s1, s2⟩
theorem law (a0 : laws_Master) (a1 : laws_Decision) (h0 : Bnd Y_laws_Master a0) (h1 : Bnd Y_laws_Decision a1) : laws_FnExactApplyDecision a0 a1 = some (true, ()) := by
  have hm := masterIn h0
  have hk : small a1.Begun.Key := by
    obtain ⟨_, _, ⟨_, _, _, _, k, _⟩, _⟩ := h1
    exact k
  obtain ⟨r, hr, r0, r1, hs⟩ := szMaster_f a0 1048576 (by omega) (by omega) hm
  rw [laws_FnExactApplyDecision_eq, hr, Option.bind_some, cond_dec]
  by_cases h : r < 0
  · rw [if_pos h]
  · obtain ⟨q, hq, q0, q1⟩ := szDecision_f a1 r (by omega) (by omega) hk
    rw [if_neg h, hq, Option.bind_some, cond_dec]
    by_cases h2 : q < 0
    · rw [if_pos h2]
    · have hl : a0.Routes.length ≤ 1048576 := by omega
      have hl' : (cvMaster a0).Routes.length ≤ 1048576 := by simp only [cvMaster, List.length_map]; exact hl
      rw [if_neg h2]
      have hs := applyR_len (cvMaster a0) (cvDecision a1) (by omega)
      generalize hR : applyR (cvMaster a0) (cvDecision a1) = R at hs
      simp only [toMaster_f a0 hl, toDecision_f, spec_ApplyDecision_f (cvMaster a0) (cvDecision a1) (by omega), impl_ApplyDecision_f (cvMaster a0) (cvDecision a1) (by omega), Option.bind_some, hR, eqMaster_refl R.1 (by omega), eqMaster_refl (cvMaster a0) (by omega), beqB_self, Bool.not_true, cond_false,
        markMaster_f (cvMaster a0) 1 (by omega) (by omega) (by omega), markMaster_f R.1 1 hs (by omega) (by omega), heldMaster_f _ _ _ _ 1 hs (by omega) (by omega), decide_true, cond_dec]
      rw [if_neg (by omega), if_neg (by omega), if_neg (by omega)]
end Go.Proofs.Ytkelnaphjekenaa.Ev
