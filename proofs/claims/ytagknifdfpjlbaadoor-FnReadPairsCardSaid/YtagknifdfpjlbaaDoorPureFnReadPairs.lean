/- Of drawn texts: the program's ReadPairs is the reference's; where it fails there are no pairs and the text is not empty; else the pairs are valid and their PairsText is the text. The variables of Go's library that are read on the way are tied to the program's text. No other condition. -/
import Derived.Test.YtagknifdfpjlbaaDoorQFnReadPairs0
namespace Go.Proofs.YtagknifdfpjlbaaDoor.Pure
open Go.RowKit Go.Proofs.YtagknifdfpjlbaaDoor.PFnReadPairs Go.Proofs.YtagknifdfpjlbaaDoorW.PrintWords Go.Proofs.YtagknifdfpjlbaaDoorW.PrintLast Go.Proofs.YtagknifdfpjlbaaDoorW.PrintMore Go.Proofs.YtagknifdfpjlbaaDoor.Lim
set_option linter.unusedVariables false
set_option linter.unusedSimpArgs false

theorem drawn_text (w : Int) (w0 : 0 ≤ w) (w1 : w < 13) : 0 ≤ rd ([0, 0, 0, 0, 0, 1, 2, 3, 4, 5, 6, 7, 8] : List Int) w ∧ rd ([0, 0, 0, 0, 0, 1, 2, 3, 4, 5, 6, 7, 8] : List Int) w < 9 := by
  obtain ⟨n, rfl⟩ := Int.eq_ofNat_of_zero_le w0
  have h : n < 13 := by omega
  clear w0 w1
  revert h
  revert n
  decide
theorem FnReadPairs : laws_FnReadPairs.Pure := by
  intro l _ hl hw
  refine (laws_FnReadPairs.fL_is l).rounds ?_
  rw [laws_FnReadPairs.fL_eq]
  by_cases h : (l.length : Int) > 1048576
  · rw [if_pos h]
  · have hc := Code.take hw
    have hd : ∃ s, spec_DrawReadPairs.fL l = some s ∧ s.size ≤ 300000 := by
      obtain ⟨xs, q, hx, q0, q1, hxl⟩ := l20Pairs_ok hc 0 0 (by omega) (by omega) (by omega)
      obtain ⟨w, hw, w0, w1, _⟩ := pick_ok hc q 13 (by omega) (by omega) (by omega)
      have w1 := w1 (by omega)
      have hs := ptext_size xs
      obtain ⟨e0, e1⟩ := drawn_text w w0 w1
      rw [spec_DrawReadPairs.fL_eq, spec_l20Open_f, Option.bind_some]
      dsimp only
      rw [hx, Option.bind_some]
      dsimp only
      rw [spec_PairsText_f, Option.bind_some, if_pos (by omega), Option.bind_some, Option.bind_some, hw, Option.bind_some]
      dsimp only
      rw [if_pos w0, if_pos (by simp; omega), if_pos e0, if_pos (by simp; omega)]
      refine ⟨_, rfl, ?_⟩
      generalize rd ([0, 0, 0, 0, 0, 1, 2, 3, 4, 5, 6, 7, 8] : List Int) w = i at e0 e1 ⊢
      have z : ∀ x ∈ ([ptext xs, ptext xs ++ (⟨#[32]⟩ : ByteArray), (⟨#[98, 61, 48, 53]⟩ : ByteArray), (⟨#[98]⟩ : ByteArray), (⟨#[99, 61, 49, 32, 98, 61, 50]⟩ : ByteArray), (⟨#[98, 61, 49, 48, 48, 48]⟩ : ByteArray), (⟨#[98, 61, 45, 49]⟩ : ByteArray), (⟨#[66, 61, 49]⟩ : ByteArray), (⟨#[]⟩ : ByteArray)] : List ByteArray), x.size ≤ 300000 := by
        intro x hx
        simp only [List.mem_cons, List.mem_nil_iff, or_false] at hx
        rcases hx with rfl | rfl | rfl | rfl | rfl | rfl | rfl | rfl | rfl
        · omega
        · rw [ByteArray.size_append]; show (ptext xs).size + 1 ≤ _; omega
        all_goals decide
      unfold rdOf
      rw [List.getD_eq_getElem?_getD, List.getElem?_eq_getElem (by simp; omega)]
      exact z _ (List.getElem_mem _)
    obtain ⟨s, hs, hz⟩ := hd
    have hr := readP_says s
    have hlen := readP_length s
    rw [if_neg h, hs, Option.bind_some, impl_ReadPairs_f s (by omega), Option.bind_some, spec_ReadPairs_f s (by omega), Option.bind_some, samePairs_refl _ (by omega), Option.bind_some, if_pos rfl, bne_self_eq_false, laws_FnReadPairs.j0L_eq, if_neg Bool.false_ne_true]
    cases hk : (readP s).2 with
    | true =>
      obtain ⟨r1, r2⟩ := hr.2 hk
      rw [if_pos rfl, impl_PairsValid_f, Option.bind_some, r1, if_pos rfl, impl_PairsText_f, Option.bind_some, r2, if_pos rfl, laws_alive_f, Option.bind_some]
    | false =>
      obtain ⟨r1, r2⟩ := hr.1 hk
      rw [if_neg Bool.false_ne_true, r1, if_pos (by rfl), if_neg r2, laws_alive_f, Option.bind_some]

end Go.Proofs.YtagknifdfpjlbaaDoor.Pure
