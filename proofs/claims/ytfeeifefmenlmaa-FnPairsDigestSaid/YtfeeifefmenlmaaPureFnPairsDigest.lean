/- Of drawn pairs: the program's PairsDigest is the reference's; it is the sum of those of both halves modulo 99991; with one value changed it is another one; for a single pair it is that of the pair. No condition. -/
import Derived.Test.YtfeeifefmenlmaaQFnPairsDigest0
namespace Go.Proofs.Ytfeeifefmenlmaa.Pure
open Go.RowKit Go.Proofs.Ytfeeifefmenlmaa.PFnPairsDigest Go.Proofs.YtfeeifefmenlmaaW.PrintWords Go.Proofs.YtfeeifefmenlmaaW.PrintLast Go.Proofs.YtfeeifefmenlmaaW.PrintMore Go.Proofs.Ytfeeifefmenlmaa.Lim
set_option linter.unusedVariables false
set_option linter.unusedSimpArgs false

theorem FnPairsDigest : laws_FnPairsDigest.Pure := by
  intro l _ hl hw
  refine (laws_FnPairsDigest.fL_is l).rounds ?_
  rw [laws_FnPairsDigest.fL_eq]
  by_cases h : (l.length : Int) > 1048576
  · rw [if_pos h]
  · have hc := Code.take hw
    obtain ⟨xs, q, hx, _, _, hxl⟩ := l20Pairs_ok hc 0 9 (by omega) (by omega) (by omega)
    have hd : spec_DrawPairsDigest.fL l = some xs := by
      rw [spec_DrawPairsDigest.fL_eq, spec_l20Open_f, Option.bind_some]
      dsimp only
      rw [hx, Option.bind_some]
    rw [if_neg h, hd, Option.bind_some, impl_PairsDigest_f, Option.bind_some, spec_PairsDigest_f, Option.bind_some, if_pos rfl]
    by_cases hok : pairsOk xs = true
    · have hds : pairsDigest xs = dsum xs % 99991 := by unfold pairsDigest; rw [if_pos hok]
      have hnn : 0 ≤ dsum xs % 99991 := Int.emod_nonneg _ (by omega)
      rw [if_neg (by omega)]
      by_cases he : (xs.length : Int) = 0
      · have : xs = [] := by cases xs with | nil => rfl | cons => simp at he; omega
        subst this
        rw [if_pos he, hds, if_pos (by simp [dsum]), laws_alive_f, Option.bind_some]
      · have hm0 : 0 ≤ (l.length : Int) % (xs.length : Int) := Int.emod_nonneg _ (by omega)
        have hm1 : (l.length : Int) % (xs.length : Int) < (xs.length : Int) := Int.emod_lt_of_pos _ (by omega)
        rw [if_neg he, Option.bind_some, if_pos (by simp; omega), Option.bind_some, if_pos hm0, if_pos hm1, if_pos (by simpa using hm1), w64 (n := (xs.length : Int) / 2) (by omega) (by omega), if_pos (by omega), if_pos (by omega),
          impl_PairsDigest_f, Option.bind_some, impl_PairsDigest_f, Option.bind_some]
        have hcut : Int.tmod (wrap64 (pairsDigest (xs.take ((xs.length : Int) / 2).toNat) + pairsDigest (xs.drop ((xs.length : Int) / 2).toNat))) 99991 = pairsDigest xs := by
          have e := dsum_append (xs.take ((xs.length : Int) / 2).toNat) (xs.drop ((xs.length : Int) / 2).toNat)
          rw [List.take_append_drop] at e
          unfold pairsDigest
          rw [if_pos (pairsOk_take hok _), if_pos (pairsOk_drop hok _), if_pos hok, e]
          generalize dsum (xs.take ((xs.length : Int) / 2).toNat) = A
          generalize dsum (xs.drop ((xs.length : Int) / 2).toNat) = B
          rw [w64 (by omega) (by omega), Int.tmod_eq_emod_of_nonneg (by omega)]
          omega
        rw [if_pos hcut, List.nil_append]
        generalize hM : (l.length : Int) % (xs.length : Int) = M at *
        generalize hV : (l.length : Int) % 999 = V
        have hV0 : 0 ≤ V ∧ V ≤ 998 := by omega
        have hmem : rd_T29 xs M ∈ xs := by
          unfold rd_T29
          rw [List.getD_eq_getElem?_getD, List.getElem?_eq_getElem (show M.toNat < xs.length by omega)]
          exact List.getElem_mem _
        have hit := pairsFrom_mem _ _ (pairsOk_from hok) _ hmem
        have hdi := digest_item hit
        rw [w64 (n := (rd_T29 xs M).f1 + 1) (by omega) (by omega), w64 (by omega) (by omega), Int.tmod_eq_emod_of_nonneg (by omega), impl_PairsDigest_f, Option.bind_some]
        have hset := pairsOk_set hok M.toNat (((rd_T29 xs M).f1 + 1 + V) % 1000) (by omega) (by omega)
        have hdset := dsum_set xs M.toNat ⟨(xs.getD M.toNat z29).f0, ((rd_T29 xs M).f1 + 1 + V) % 1000⟩ (by omega)
        have hoth : ¬ pairsDigest (xs.set M.toNat ⟨(rd_T29 xs M).f0, ((rd_T29 xs M).f1 + 1 + V) % 1000⟩) = pairsDigest xs := by
          have hr : rd_T29 xs M = xs.getD M.toNat z29 := rfl
          have hkey : keyOk (bs (rd_T29 xs M).f0) = true := by
            simp only [pairItem, Bool.and_eq_true, decide_eq_true_eq] at hit; exact hit.1
          unfold pairsDigest
          rw [← hr] at hset hdset
          rw [if_pos hset, if_pos hok, hdset]
          dsimp only
          generalize hW : ((rd_T29 xs M).f1 + 1 + V) % 1000 = W
          have hW0 : 0 ≤ W ∧ W ≤ 999 ∧ ¬ W = (rd_T29 xs M).f1 := by omega
          have hdW : digest (bs (rd_T29 xs M).f0) W = (1009 * keyRank (bs (rd_T29 xs M).f0) + 7 * W + 3) % 99991 := by
            unfold digest; rw [if_pos ⟨hkey, hW0.1, hW0.2.1⟩]
          rw [hdW, hdi.1]
          generalize 1009 * keyRank (bs (rd_T29 xs M).f0) = A
          generalize dsum xs = D
          omega
        rw [if_neg hoth, if_pos (by omega), impl_PairsDigest_f, Option.bind_some, if_pos (by omega), impl_PairDigest_f, Option.bind_some]
        have hone : pairsDigest (xs.take 1) = digest (bs (rd_T29 xs 0).f0) (rd_T29 xs 0).f1 := by
          cases xs with
          | nil => simp at he
          | cons y ys =>
            obtain ⟨h1, _, _⟩ := pairsFrom_cons (pairsOk_from hok)
            have hr := digest_item_range h1
            unfold pairsDigest
            rw [if_pos (pairsOk_take hok 1)]
            show (digest (bs y.f0) y.f1 + 0) % 99991 = digest (bs y.f0) y.f1
            omega
        rw [hone]; simp
    · have hds : pairsDigest xs = -1 := by unfold pairsDigest; rw [if_neg hok]
      rw [hds, if_pos (by omega), if_pos rfl, impl_PairsValid_f, Option.bind_some, if_neg hok, laws_alive_f, Option.bind_some]

end Go.Proofs.Ytfeeifefmenlmaa.Pure
