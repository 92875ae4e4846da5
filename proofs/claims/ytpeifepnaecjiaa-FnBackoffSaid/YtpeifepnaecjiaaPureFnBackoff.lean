/- Of a drawn try: the program's Backoff is the reference's, the wait after a later try is not shorter, at most twice as long, and at most the greatest one. No condition. -/
import Derived.Test.YtpeifepnaecjiaaQFnBackoff0
namespace Go.Proofs.Ytpeifepnaecjiaa.Pure
open Go.RowKit Go.Proofs.Ytpeifepnaecjiaa.PFnBackoff Go.Proofs.YtpeifepnaecjiaaW.PrintWords Go.Proofs.YtpeifepnaecjiaaW.PrintLast Go.Proofs.YtpeifepnaecjiaaW.PrintMore Go.Proofs.Ytpeifepnaecjiaa.Lim
set_option linter.unusedVariables false
set_option linter.unusedSimpArgs false

theorem bk_steps : ∀ n : Nat, 1 ≤ n → n ≤ 9 → 1 ≤ backoff n ∧ backoff n ≤ backoff (n + 1) ∧ backoff (n + 1) ≤ 2 * backoff n ∧ backoff (n + 1) ≤ 32 := by
  intro n h1 h2
  have : n = 1 ∨ n = 2 ∨ n = 3 ∨ n = 4 ∨ n = 5 ∨ n = 6 ∨ n = 7 ∨ n = 8 ∨ n = 9 := by omega
  rcases this with rfl | rfl | rfl | rfl | rfl | rfl | rfl | rfl | rfl <;> decide
theorem FnBackoff : laws_FnBackoff.Pure := by
  intro l _ hl hw
  refine (laws_FnBackoff.fL_is l).rounds ?_
  rw [laws_FnBackoff.fL_eq]
  by_cases h : (l.length : Int) > 1048576
  · rw [if_pos h]
  · have hc := Code.take hw
    obtain ⟨v, hv, v0, v1, _⟩ := pick_ok hc 0 13 (by omega) (by omega) (by omega)
    have v1 := v1 (by omega)
    rw [if_neg h, spec_DrawBackoff.fL_eq, spec_l20Open_f, Option.bind_some]
    dsimp only
    rw [hv, Option.bind_some]
    dsimp only
    rw [Option.bind_some, w64 (by omega) (by omega)]
    generalize ht : v - 1 = t
    rw [impl_Backoff_f t (by omega) (by omega), Option.bind_some, spec_Backoff_f, Option.bind_some, if_pos rfl, laws_alive_f, Option.bind_some, w64 (n := t + 1) (by omega) (by omega), impl_Backoff_f (t + 1) (by omega) (by omega), Option.bind_some]
    by_cases h1 : t < 1
    · have e : backoff t = -1 := by unfold backoff; rw [if_neg (by omega)]
      rw [e, if_pos (by omega), if_pos rfl, if_pos h1]
    · by_cases h2 : t > 10
      · have e : backoff t = -1 := by unfold backoff; rw [if_neg (by omega)]
        rw [e, if_pos (by omega), if_pos rfl, if_neg h1, if_pos h2]
      · by_cases h3 : t = 10
        · have e : backoff t = 32 := by rw [h3]; decide
          rw [e, if_neg (by omega), if_pos h3]; rfl
        · have hs := bk_steps t.toNat (by omega) (by omega)
          rw [show ((t.toNat : Nat) : Int) = t by omega] at hs
          rw [if_neg (by omega), if_neg h3, if_pos (by omega), if_pos (by omega), w64 (by omega) (by omega), if_pos (by omega), decide_eq_true (by omega)]

end Go.Proofs.Ytpeifepnaecjiaa.Pure
