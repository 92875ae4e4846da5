/- Of drawn tokens and a drawn try: the program's TokenStep is the reference's, tokens stay in bounds, a retry costs its price, and after a success there is no retry. No condition. -/
import Derived.Test.YtpeifepnaecjiaaQFnTokenStep0
namespace Go.Proofs.Ytpeifepnaecjiaa.Pure
open Go.RowKit Go.Proofs.Ytpeifepnaecjiaa.PFnTokenStep Go.Proofs.YtpeifepnaecjiaaW.PrintWords Go.Proofs.YtpeifepnaecjiaaW.PrintLast Go.Proofs.YtpeifepnaecjiaaW.PrintMore Go.Proofs.Ytpeifepnaecjiaa.Lim
set_option linter.unusedVariables false
set_option linter.unusedSimpArgs false

theorem FnTokenStep : laws_FnTokenStep.Pure := by
  intro l _ hl hw
  refine (laws_FnTokenStep.fL_is l).rounds ?_
  rw [laws_FnTokenStep.fL_eq]
  by_cases h : (l.length : Int) > 1048576
  · rw [if_pos h]
  · have hc := Code.take hw
    obtain ⟨v, hv, v0, v1, _⟩ := pick_ok hc 0 13 (by omega) (by omega) (by omega)
    obtain ⟨u, hu, u0, u1, _⟩ := pick_ok hc (0 + 1) 2 (by omega) (by omega) (by omega)
    have v1 := v1 (by omega)
    rw [if_neg h, spec_DrawTokenStep.fL_eq, spec_l20Open_f, Option.bind_some]
    dsimp only
    rw [hv, Option.bind_some]
    dsimp only
    rw [hu, Option.bind_some]
    dsimp only
    rw [Option.bind_some, w64 (by omega) (by omega)]
    generalize ht : v - 1 = t
    generalize (u == 0) = s
    rw [impl_TokenStep_f, Option.bind_some, spec_TokenStep_f, Option.bind_some, if_pos rfl, laws_FnTokenStep.j0L_eq, if_neg (by simp), laws_alive_f, Option.bind_some, w64 (n := t - 3) (by omega) (by omega)]
    unfold tokStep
    by_cases h1 : t < 0 ∨ 10 < t
    · rw [if_pos h1]; rfl
    · rw [if_neg h1]
      cases s with
      | true =>
        rw [if_pos rfl]
        by_cases h2 : t + 1 ≤ 10
        · rw [if_pos h2]
          dsimp only
          rw [if_neg (by omega), if_pos (by omega), if_pos (by simp; omega), if_pos rfl, if_neg (by simp), decide_eq_true (by omega)]
        · rw [if_neg h2]
          dsimp only
          rw [if_neg (by omega), if_pos (by omega), if_pos (by simp; omega), if_pos rfl, if_neg (by simp), decide_eq_true (by omega)]
      | false =>
        have hf : ¬ (false = true) := by simp
        by_cases h3 : 3 ≤ t
        · rw [if_neg hf, if_pos h3]
          dsimp only
          rw [if_neg (show ¬ (t - 3 < 0) by omega), if_pos (show t - 3 ≤ 10 by omega)]
          simp
        · rw [if_neg hf, if_neg h3]
          dsimp only
          rw [if_neg (show ¬ (t < 0) by omega), if_pos (show t ≤ 10 by omega)]
          have : ¬ t = t - 3 := by omega
          simp [this]

end Go.Proofs.Ytpeifepnaecjiaa.Pure
