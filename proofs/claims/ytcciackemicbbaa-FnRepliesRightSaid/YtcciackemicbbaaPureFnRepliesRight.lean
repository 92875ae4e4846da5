/- Of drawn results and orders: the program's RepliesRight is the reference's; if replies are right, the first result that did not find the map full has the reply of an empty map. No condition. -/
import Derived.Test.YtcciackemicbbaaQFnRepliesRight0
namespace Go.Proofs.Ytcciackemicbbaa.Pure
open Go.RowKit Go.Proofs.Ytcciackemicbbaa.PFnRepliesRight Go.Proofs.YtcciackemicbbaaW.PrintWords Go.Proofs.YtcciackemicbbaaW.PrintLast Go.Proofs.YtcciackemicbbaaW.PrintMore Go.Proofs.Ytcciackemicbbaa.Lim
set_option linter.unusedVariables false
set_option linter.unusedSimpArgs false

theorem pairGet_nil (k : ByteArray) : pairGet [] k = -1 := by
  unfold pairGet hit
  rw [decide_eq_false (by simp [place])]
  simp
theorem lawRepliesRight_l0 (xs : List S32) (o : List Int) (ho : o.length ≤ 5) (hr : ∀ m ∈ o, 0 ≤ m ∧ m < xs.length) : ∀ (ys : List Int) (i : Int), 0 ≤ i → i ≤ o.length → o.drop i.toNat = ys → (runHist [] (answers xs ys)).2 = true → laws_FnRepliesRight.l0L xs o i = some true
  | [], i, h0, h1, hd, hok => by
    have := drop_nil h0 h1 hd
    rw [laws_FnRepliesRight.l0L_eq, if_neg (by omega)]
  | y :: ys, i, h0, h1, hd, hok => by
    obtain ⟨hz, hl, hd'⟩ := rd_drop h0 hd
    have hm : y ∈ o := by
      have : y ∈ o.drop i.toNat := by rw [hd]; exact List.mem_cons_self
      exact List.mem_of_mem_drop this
    have hy := hr y hm
    have hk : answers xs (y :: ys) = ansOf (rd_T32 xs y) :: answers xs ys := rfl
    have hf : (ansOf (rd_T32 xs y)).f1 = (rd_T32 xs y).f3 := rfl
    rw [hk] at hok
    rw [laws_FnRepliesRight.l0L_eq, if_pos hl, if_pos h0, hz, if_neg (by omega), decide_eq_false (by omega), laws_FnRepliesRight.j2L_eq, if_neg (by simp), if_pos h0, if_pos hl, hz, if_pos hy.1, if_pos hy.2]
    by_cases e : (rd_T32 xs y).f3 = -2
    · have hok : (runHist [] (answers xs ys)).2 = true := by
        simp only [runHist] at hok
        rw [if_pos (show (ansOf (rd_T32 xs y)).f1 = -2 by rw [hf]; exact e)] at hok
        exact hok
      rw [if_pos e, w64 (by omega) (by omega)]
      exact lawRepliesRight_l0 xs o ho hr ys (i + 1) (by omega) (by omega) hd' hok
    · have : (rd_T32 xs y).f3 = -1 := by
        by_cases e2 : (rd_T32 xs y).f3 = -1
        · exact e2
        · exfalso
          simp only [runHist] at hok
          rw [if_neg (show ¬ (ansOf (rd_T32 xs y)).f1 = -2 by rw [hf]; exact e), if_neg (show ¬ (ansOf (rd_T32 xs y)).f1 = pairGet [] (ansOf (rd_T32 xs y)).f0.f2.f1 by rw [hf, pairGet_nil]; exact e2)] at hok
          cases hok
      rw [if_neg e, this]; rfl
theorem FnRepliesRight : laws_FnRepliesRight.Pure := by
  intro l _ hl hw
  refine (laws_FnRepliesRight.fL_is l).rounds ?_
  rw [laws_FnRepliesRight.fL_eq]
  by_cases h : (l.length : Int) > 1048576
  · rw [if_pos h]
  · obtain ⟨xs, o, hdr, hxl, hol⟩ := drawRealTime hw
    have hj : laws_FnRepliesRight.j0L xs o true = some true := by rw [laws_FnRepliesRight.j0L_eq, if_pos rfl, laws_alive_f, Option.bind_some]
    rw [if_neg h, spec_DrawRepliesRight.fL_eq, hdr, Option.bind_some, Option.bind_some]
    dsimp only
    rw [impl_RepliesRight_f, Option.bind_some, spec_RepliesRight_f, Option.bind_some, if_neg (by simp)]
    cases hok : repliesRight xs o with
    | false => rw [if_neg (by simp), hj]
    | true =>
      rw [if_pos rfl]
      by_cases he : (o.length : Int) = 0
      · rw [if_pos he, hj]
      · simp only [repliesRight, Bool.and_eq_true, decide_eq_true_eq] at hok
        obtain ⟨k1, k2, k3, k4⟩ := (orderOk_iff _ _).1 hok.1.2
        have hrun : (runHist [] (answers xs o)).2 = true := by
          have := hok.2
          unfold runHistory at this
          split at this
          · exact this
          · cases this
        rw [if_neg he, decide_eq_false (by omega), laws_FnRepliesRight.j0L_eq, if_neg (by simp), lawRepliesRight_l0 xs o k1 k3 o 0 (by omega) (by omega) (by simp) hrun]

end Go.Proofs.Ytcciackemicbbaa.Pure
