/- Of drawn feeds: the program's FeedValid is the reference's; with a change behind it that changes nothing a feed is not valid; a valid feed is valid without its first change. No condition. -/
import Derived.Test.YtfeeifefmenlmaaQFnFeedValid0
namespace Go.Proofs.Ytfeeifefmenlmaa.Pure
open Go.RowKit Go.Proofs.Ytfeeifefmenlmaa.PFnFeedValid Go.Proofs.YtfeeifefmenlmaaW.PrintWords Go.Proofs.YtfeeifefmenlmaaW.PrintLast Go.Proofs.YtfeeifefmenlmaaW.PrintMore Go.Proofs.Ytfeeifefmenlmaa.Lim
set_option linter.unusedVariables false
set_option linter.unusedSimpArgs false

theorem feedFrom_bad (y : S75) (hy : feedItem y = false) : ∀ (xs : List S75) (p : Int), feedFrom p (xs ++ [y]) = false
  | [], p => by simp [feedFrom, hy]
  | x :: xs, p => by
    show (feedItem x && decide (p < x.f0) && feedFrom x.f0 (xs ++ [y])) = false
    rw [feedFrom_bad y hy xs, Bool.and_false]
theorem feedFrom_le {p q : Int} (h : q ≤ p) : ∀ xs : List S75, feedFrom p xs = true → feedFrom q xs = true
  | [], _ => rfl
  | x :: xs, hx => by
    simp only [feedFrom, Bool.and_eq_true, decide_eq_true_eq] at hx ⊢
    exact ⟨⟨hx.1.1, by omega⟩, hx.2⟩
theorem feedOk_drop (xs : List S75) (h : feedOk xs = true) : feedOk (xs.drop 1) = true := by
  cases xs with
  | nil => exact h
  | cons x xs =>
    simp only [feedOk, feedFrom, feedItem, Bool.and_eq_true, decide_eq_true_eq, List.length_cons, List.drop_succ_cons, List.drop_zero] at h ⊢
    exact ⟨by omega, feedFrom_le (by omega) xs h.2.2⟩
theorem drawFeedValid {l : List Int} (hw : ∀ x ∈ l, (Lit.int .u8 x).wf = true) : ∃ cs, spec_DrawFeedValid.fL l = some cs ∧ cs.length ≤ 400 := by
  obtain ⟨xs, cs, q, h1, _, _, hl, _⟩ := l20Feed_ok (Code.take hw) 0 2 (by omega) (by omega) (by omega)
  refine ⟨cs, ?_, hl⟩
  rw [spec_DrawFeedValid.fL_eq, spec_l20Open_f, Option.bind_some]
  dsimp only
  rw [h1, Option.bind_some]
theorem FnFeedValid : laws_FnFeedValid.Pure := by
  intro l _ hl hw
  refine (laws_FnFeedValid.fL_is l).rounds ?_
  rw [laws_FnFeedValid.fL_eq]
  by_cases h : (l.length : Int) > 1048576
  · rw [if_pos h]
  · obtain ⟨cs, hd, hcl⟩ := drawFeedValid hw
    have hb : feedOk (cs ++ [(⟨23, (⟨#[98]⟩ : ByteArray), 4, 4⟩ : S75)]) = false := by
      unfold feedOk
      rw [feedFrom_bad _ (by simp [feedItem]), Bool.and_false]
    rw [if_neg h, hd, Option.bind_some, impl_FeedValid_f, Option.bind_some, spec_FeedValid_f cs (by omega), Option.bind_some, if_neg (by simp), Option.bind_some, if_pos (by simp; omega), Option.bind_some]
    simp only [List.nil_append]
    rw [if_pos (by omega), impl_FeedValid_f, Option.bind_some, hb, if_neg (by simp), laws_alive_f, Option.bind_some]
    by_cases hok : feedOk cs = true
    · rw [if_pos hok]
      by_cases he : (cs.length : Int) = 0
      · rw [if_pos he]
      · rw [if_neg he, if_pos (by omega), impl_FeedValid_f, Option.bind_some, feedOk_drop cs hok, if_pos rfl]
    · rw [if_neg hok]

end Go.Proofs.Ytfeeifefmenlmaa.Pure
