/- The program's FindOrder and the reference's FindOrder return the same for every list of results, the list reads afterwards as before, and the program's result is new memory. No condition. -/
import Derived.Test.YtcciackemicbbaaQFnExactFindOrder0
namespace Go.Proofs.Ytcciackemicbbaa.Pure
open Go.RowKit Go.Proofs.Ytcciackemicbbaa.PFnExactFindOrder Go.Proofs.YtcciackemicbbaaW.PrintWords Go.Proofs.YtcciackemicbbaaW.PrintLast Go.Proofs.YtcciackemicbbaaW.PrintMore Go.Proofs.Ytcciackemicbbaa.Lim
set_option linter.unusedVariables false
set_option linter.unusedSimpArgs false

theorem FnExactFindOrder : laws_FnExactFindOrder.Pure := by
  intro xs hx
  obtain ⟨r, hr, hs⟩ := szResultS_f xs 1048576 (by omega) (by omega) hx.1 (fun x h => (hx.2 x h).2.2.1.2.1)
  refine (laws_FnExactFindOrder.fL_is xs).rounds ?_
  rw [laws_FnExactFindOrder.fL_eq, hr, Option.bind_some]
  by_cases h : r < 0
  · rw [if_pos h]
  · have hl : xs.length ≤ 1048576 := by omega
    have hm : (xs.map cvResult).length ≤ 2000000 := by simp; omega
    have hf := findOrder_len (xs.map cvResult)
    have e1 := eqResultS_refl (xs.map cvResult) (by omega)
    have e2 := laws_eqIntS_f (findOrder (xs.map cvResult)).1 (findOrder (xs.map cvResult)).1 (by omega)
    have k1 := markResultS_f (xs.map cvResult) 1 (by omega) (by omega) (by omega)
    have k2 := laws_markIntS_f (findOrder (xs.map cvResult)).1 1 (by omega) (by omega) (by omega)
    have k3 := laws_heldIntS_f (findOrder (xs.map cvResult)).1.length 1 (by omega) (by omega) (by omega)
    rw [if_neg h]
    simp only [toResultS_f xs hl, Option.bind_some, spec_FindOrder_f, impl_FindOrder_f, e1, e2, k1, k2, k3, decide_true, if_true, bne_self_eq_false, laws_FnExactFindOrder.j0L_eq, laws_FnExactFindOrder.j1L_eq, laws_FnExactFindOrder.j2L_eq]
    rw [if_neg (show ¬ (1 + 9 * ((xs.map cvResult).length : Int) < 0) by omega), if_neg (show ¬ (1 + ((findOrder (xs.map cvResult)).1.length : Int) < 0) by omega)]
    simp
    omega

end Go.Proofs.Ytcciackemicbbaa.Pure
