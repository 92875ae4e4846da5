/- Of drawn pairs: the program's PairsText is the reference's; where it is empty there are no pairs, or they are not valid; else ReadPairs of it is the list. The variables of Go's library that are read on the way are tied to the program's text. No other condition. -/
import Derived.Test.YtagknifdfpjlbaaDoorQFnPairsText0
namespace Go.Proofs.YtagknifdfpjlbaaDoor.Pure
open Go.RowKit Go.Proofs.YtagknifdfpjlbaaDoor.PFnPairsText Go.Proofs.YtagknifdfpjlbaaDoorW.PrintWords Go.Proofs.YtagknifdfpjlbaaDoorW.PrintLast Go.Proofs.YtagknifdfpjlbaaDoorW.PrintMore Go.Proofs.YtagknifdfpjlbaaDoor.Lim
set_option linter.unusedVariables false
set_option linter.unusedSimpArgs false

theorem FnPairsText : laws_FnPairsText.Pure := by
  intro l _ hl hw
  refine (laws_FnPairsText.fL_is l).rounds ?_
  rw [laws_FnPairsText.fL_eq]
  by_cases h : (l.length : Int) > 1048576
  · rw [if_pos h]
  · have hc := Code.take hw
    obtain ⟨xs, q, hx, _, _, hxl⟩ := l20Pairs_ok hc 0 6 (by omega) (by omega) (by omega)
    have hd : spec_DrawPairsText.fL l = some xs := by
      rw [spec_DrawPairsText.fL_eq, spec_l20Open_f, Option.bind_some]
      dsimp only
      rw [hx, Option.bind_some]
    rw [if_neg h, hd, Option.bind_some, impl_PairsText_f, Option.bind_some, spec_PairsText_f, Option.bind_some, if_pos rfl]
    by_cases he : (ptext xs).toList = []
    · rw [if_pos he]
      by_cases h0 : (xs.length : Int) = 0
      · rw [if_pos h0, laws_alive_f, Option.bind_some]
      · have hn : pairsOk xs = false := by
          cases hp : pairsOk xs with
          | false => rfl
          | true => exact absurd he (ptext_ne hp (fun q => h0 (by rw [q]; rfl)))
        rw [if_neg h0, impl_PairsValid_f, Option.bind_some, hn]
        simp [laws_alive_f]
    · have hp : pairsOk xs = true := by
        cases hp : pairsOk xs with
        | true => rfl
        | false => exact absurd (by unfold ptext; rw [if_neg (by rw [hp]; simp), toList_data]) he
      have h0 : xs ≠ [] := fun q => he (by rw [q]; exact (toList_data _).trans rfl)
      have hs := ptext_size xs
      rw [if_neg he, impl_ReadPairs_f _ (by omega), readP_of hp h0, Option.bind_some]
      dsimp only
      rw [if_pos rfl, samePairs_refl xs (by omega), Option.bind_some]

end Go.Proofs.YtagknifdfpjlbaaDoor.Pure
