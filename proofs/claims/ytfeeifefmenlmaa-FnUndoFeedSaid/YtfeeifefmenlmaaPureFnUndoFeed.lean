/- Of drawn feeds and lengths: the program's UndoFeed is the reference's; where it is not empty it is valid, as long as the feed, and the feed comes back from it. No condition. -/
import Derived.Test.YtfeeifefmenlmaaQFnUndoFeed0
namespace Go.Proofs.Ytfeeifefmenlmaa.Pure
open Go.RowKit Go.Proofs.Ytfeeifefmenlmaa.PFnUndoFeed Go.Proofs.YtfeeifefmenlmaaW.PrintWords Go.Proofs.YtfeeifefmenlmaaW.PrintLast Go.Proofs.YtfeeifefmenlmaaW.PrintMore Go.Proofs.Ytfeeifefmenlmaa.Lim
set_option linter.unusedVariables false
set_option linter.unusedSimpArgs false

theorem wrap_ge (x : Int) : -9223372036854775808 ≤ wrap64 x := by unfold wrap64; omega
theorem drawUndoFeed {l : List Int} (hw : ∀ x ∈ l, (Lit.int .u8 x).wf = true) : ∃ cs n, spec_DrawUndoFeed.fL l = some (cs, n) ∧ cs.length ≤ 400 ∧ -9223372036854775808 ≤ n := by
  have hc := Code.take hw
  obtain ⟨xs, cs, q, h1, q0, q1, hcl, _⟩ := l20Feed_ok hc 0 9 (by omega) (by omega) (by omega)
  obtain ⟨v, hv, v0, v1, _⟩ := pick_ok hc q 26 (by omega) (by omega) (by omega)
  obtain ⟨u, hu, u0, u1, _⟩ := pick_ok hc (q + 1) 2 (by omega) (by omega) (by omega)
  obtain ⟨t, ht, t0, t1, _⟩ := pick_ok hc (q + 1 + 1) 3 (by omega) (by omega) (by omega)
  rw [spec_DrawUndoFeed.fL_eq, spec_l20Open_f, Option.bind_some]
  dsimp only
  rw [h1, Option.bind_some]
  dsimp only
  rw [hv, Option.bind_some]
  dsimp only
  by_cases e : (cs.length : Int) > 0
  · rw [if_pos e, hu, Option.bind_some]
    dsimp only
    by_cases e2 : u = 0
    · rw [if_pos e2, w64 (n := (cs.length : Int) - 1) (by omega) (by omega), if_pos (by omega), if_pos (by omega), ht, Option.bind_some]
      exact ⟨_, _, rfl, hcl, wrap_ge _⟩
    · rw [if_neg e2]; exact ⟨_, _, rfl, hcl, by omega⟩
  · rw [if_neg e]; exact ⟨_, _, rfl, hcl, by omega⟩
theorem FnUndoFeed : laws_FnUndoFeed.Pure := by
  intro l _ hl hw
  refine (laws_FnUndoFeed.fL_is l).rounds ?_
  rw [laws_FnUndoFeed.fL_eq]
  by_cases h : (l.length : Int) > 1048576
  · rw [if_pos h]
  · obtain ⟨cs, n, hd, hcl, hn⟩ := drawUndoFeed hw
    have hul := undoFeed_length cs n
    rw [if_neg h, hd, Option.bind_some]
    dsimp only
    rw [impl_UndoFeed_f cs n (by omega) hn, Option.bind_some, spec_UndoFeed_f cs n (by omega), Option.bind_some, sameFeed_refl _ (by omega), Option.bind_some, if_pos rfl]
    by_cases he : ((undoFeed cs n).length : Int) = 0
    · rw [if_pos he, laws_alive_f, Option.bind_some]
    · obtain ⟨k1, k2, k3⟩ := undone cs n (by omega)
      rw [if_neg he, impl_FeedValid_f, Option.bind_some, k1, if_pos rfl, if_pos (by omega), impl_UndoFeed_f _ n (by omega) hn, Option.bind_some, k3, sameFeed_refl _ (by omega), Option.bind_some]

end Go.Proofs.Ytfeeifefmenlmaa.Pure
