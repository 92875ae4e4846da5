/- Of drawn texts: the program's ReadRoutes is the reference's; where it fails there are no routes; else the routes are valid and their RoutesText is the text. The variables of Go's library that are read on the way are tied to the program's text. No other condition. -/
import Derived.Test.YtagknifdfpjlbaaDoorQFnReadRoutes0
namespace Go.Proofs.YtagknifdfpjlbaaDoor.Pure
open Go.RowKit Go.Proofs.YtagknifdfpjlbaaDoor.PFnReadRoutes Go.Proofs.YtagknifdfpjlbaaDoorW.PrintWords Go.Proofs.YtagknifdfpjlbaaDoorW.PrintLast Go.Proofs.YtagknifdfpjlbaaDoorW.PrintMore Go.Proofs.YtagknifdfpjlbaaDoor.Lim
set_option linter.unusedVariables false
set_option linter.unusedSimpArgs false

theorem drawn_at (w : Int) (w0 : 0 ≤ w) (w1 : w < 13) : 0 ≤ rd ([0, 0, 0, 0, 0, 1, 2, 3, 4, 5, 6, 7, 8] : List Int) w ∧ rd ([0, 0, 0, 0, 0, 1, 2, 3, 4, 5, 6, 7, 8] : List Int) w < 9 := by
  obtain ⟨n, rfl⟩ := Int.eq_ofNat_of_zero_le w0
  have h : n < 13 := by omega
  clear w0 w1
  revert h
  revert n
  decide
theorem FnReadRoutes : laws_FnReadRoutes.Pure := by
  intro l _ hl hw
  refine (laws_FnReadRoutes.fL_is l).rounds ?_
  rw [laws_FnReadRoutes.fL_eq]
  by_cases h : (l.length : Int) > 1048576
  · rw [if_pos h]
  · have hc := Code.take hw
    have hd : ∃ s, spec_DrawReadRoutes.fL l = some s ∧ s.size ≤ 300000 := by
      obtain ⟨xs, q, hx, q0, q1, hxl⟩ := l20Routes_ok hc 0 0 (by omega) (by omega) (by omega)
      obtain ⟨w, hw, w0, w1, _⟩ := pick_ok hc q 13 (by omega) (by omega) (by omega)
      have w1 := w1 (by omega)
      have hs := rtext_size xs
      obtain ⟨e0, e1⟩ := drawn_at w w0 w1
      rw [spec_DrawReadRoutes.fL_eq, spec_l20Open_f, Option.bind_some]
      dsimp only
      rw [hx, Option.bind_some]
      dsimp only
      rw [spec_RoutesText_f _ (by omega), Option.bind_some, if_pos (by omega), Option.bind_some, Option.bind_some, hw, Option.bind_some]
      dsimp only
      rw [if_pos w0, if_pos (by simp; omega), if_pos e0, if_pos (by simp; omega)]
      refine ⟨_, rfl, ?_⟩
      generalize rd ([0, 0, 0, 0, 0, 1, 2, 3, 4, 5, 6, 7, 8] : List Int) w = i at e0 e1 ⊢
      have z : ∀ x ∈ ([rtext xs, rtext xs ++ (⟨#[32]⟩ : ByteArray), (⟨#[48, 49, 58, 45]⟩ : ByteArray), (⟨#[56, 58, 45]⟩ : ByteArray), (⟨#[48, 58, 45, 98, 32, 48, 58, 98, 45]⟩ : ByteArray), (⟨#[48, 58, 45, 98, 32, 49, 58, 99, 45]⟩ : ByteArray), (⟨#[48, 58, 98, 45]⟩ : ByteArray), (⟨#[]⟩ : ByteArray), (⟨#[48, 58]⟩ : ByteArray)] : List ByteArray), x.size ≤ 300000 := by
        intro x hx
        simp only [List.mem_cons, List.mem_nil_iff, or_false] at hx
        rcases hx with rfl | rfl | rfl | rfl | rfl | rfl | rfl | rfl | rfl
        · omega
        · rw [ByteArray.size_append]; show (rtext xs).size + 1 ≤ _; omega
        all_goals decide
      unfold rdOf
      rw [List.getD_eq_getElem?_getD, List.getElem?_eq_getElem (by simp; omega)]
      exact z _ (List.getElem_mem _)
    obtain ⟨s, hs, hz⟩ := hd
    have hr := readR_says s
    have hlen := readR_length s
    rw [if_neg h, hs, Option.bind_some, impl_ReadRoutes_f s (by omega), Option.bind_some, spec_ReadRoutes_f s (by omega), Option.bind_some, sameRoutes_refl _ (by omega), Option.bind_some, if_pos rfl, bne_self_eq_false, laws_FnReadRoutes.j0L_eq, if_neg Bool.false_ne_true]
    cases hk : (readR s).2 with
    | true =>
      obtain ⟨r1, r2⟩ := hr.2 hk
      rw [if_pos rfl, impl_RoutesValid_f, Option.bind_some, r1, if_pos rfl, impl_RoutesText_f, Option.bind_some, r2, beq_self_eq_true]
    | false =>
      have r1 := hr.1 hk
      rw [if_neg Bool.false_ne_true, r1, if_pos (by rfl), laws_alive_f, Option.bind_some]

end Go.Proofs.YtagknifdfpjlbaaDoor.Pure
