/- Of drawn pairs and feeds: the program's ApplyFeed is the reference's; a feed applied up to any change, and from there on, leads to the same pairs; and taken back it leads to the pairs of before. No condition. -/
import Derived.Test.YtcciackemicbbaaQFnApplyFeed0
namespace Go.Proofs.Ytcciackemicbbaa.Pure
open Go.RowKit Go.Proofs.Ytcciackemicbbaa.PFnApplyFeed Go.Proofs.YtcciackemicbbaaW.PrintWords Go.Proofs.YtcciackemicbbaaW.PrintLast Go.Proofs.YtcciackemicbbaaW.PrintMore Go.Proofs.Ytcciackemicbbaa.Lim
set_option linter.unusedVariables false
set_option linter.unusedSimpArgs false

theorem samePairs_refl (xs : List S181) (hx : xs.length ≤ 1000000000000) : laws_samePairs.fL xs xs = some true := by
  obtain ⟨b, hb, h⟩ := laws_samePairs_f xs xs hx
  rw [hb, h.2 rfl]
/-- Applied up to a change, from there on, and taken back. -/
theorem resumed (xs x : List S181) (cs : List S106) (h : applyFeed xs cs = (x, true)) (d : Nat) (hd : d ≤ cs.length) (e : Int) (he : later e cs = cs.drop d) (hx : xs.length ≤ 48) : laws_FnApplyFeed.j1L xs cs x (d : Int) e = some true := by
  have hok : pairsOk xs = true ∧ feedOk cs = true := by
    by_cases q : pairsOk xs = true ∧ feedOk cs = true
    · exact q
    · unfold applyFeed at h; rw [if_neg q] at h; injection h with _ h; cases h
  have ha : applyFrom xs cs = (x, true) := by unfold applyFeed at h; rwa [if_pos hok] at h
  have hi := ((feedOk_iff cs).1 hok.2).2.1
  have ecs : cs.take d ++ cs.drop d = cs := List.take_append_drop d cs
  have h1 : (applyFrom xs (cs.take d)).2 = true := applyFrom_take _ (cs.drop d) xs (by rw [ecs, ha])
  obtain ⟨p, hp⟩ : ∃ p, applyFrom xs (cs.take d) = (p, true) := ⟨_, by rw [← h1]⟩
  have hpo := (applyFrom_back 24 (cs.take d) xs p hok.1 (fun c hc => hi c (List.mem_of_mem_take hc)) hp).1
  have h2 : applyFrom p (cs.drop d) = (x, true) := by
    have := applyFrom_app (cs.take d) (cs.drop d) xs h1
    rw [ecs, ha, hp] at this; exact this.symm
  obtain ⟨hxo, hb⟩ := applyFrom_back 24 cs xs x hok.1 hi ha
  have a1 : applyFeed xs (cs.take d) = (p, true) := by unfold applyFeed; rw [if_pos ⟨hok.1, feedOk_take hok.2 d⟩, hp]
  have a2 : applyFeed p (feedLater cs e) = (x, true) := by
    unfold feedLater; rw [if_pos hok.2, he]
    unfold applyFeed; rw [if_pos ⟨hpo, feedOk_dropn hok.2 d⟩, h2]
  have a3 : applyFeed x (undoFeed cs 24) = (xs, true) := by
    by_cases q : 0 < cs.length
    · have hlast : lastIdx cs < 24 := by
        have := feedOk_item hok.2 _ (rd_change_mem (l := cs) (i := (cs.length : Int) - 1) (by omega) (by omega))
        unfold lastIdx; omega
      have hu : undoFeed cs 24 = cs.reverse.map (undo 24) := by unfold undoFeed; rw [if_pos ⟨hok.2, q, hlast, by omega⟩]
      have hul := undone cs 24 (by rw [hu]; simpa using q)
      rw [hu] at hul
      rw [hu]
      unfold applyFeed; rw [if_pos ⟨hxo, hul.1⟩, hb]
    · have : cs = [] := List.eq_nil_of_length_eq_zero (by omega)
      subst this
      have hu : undoFeed [] 24 = [] := by unfold undoFeed; rw [if_neg (fun k => q k.2.1)]
      rw [hu]
      simp only [applyFrom] at ha
      injection ha with ha _
      subst ha
      unfold applyFeed; rw [if_pos hok]; rfl
  have hxl := pairsOk_le hxo
  have hcl : cs.length ≤ 24 := ((feedOk_iff cs).1 hok.2).1
  rw [laws_FnApplyFeed.j1L_eq, if_pos (by omega), if_pos (by omega), Int.toNat_natCast, impl_ApplyFeed_f, Option.bind_some, impl_FeedFrom_f, Option.bind_some, a1, impl_ApplyFeed_f, Option.bind_some, impl_UndoFeed_f cs 24 (by omega) (by omega), Option.bind_some, impl_ApplyFeed_f, Option.bind_some]
  dsimp only
  rw [a2, a3, if_pos rfl, if_pos rfl]
  dsimp only
  rw [samePairs_refl x (by omega), Option.bind_some, if_pos rfl, if_pos rfl, samePairs_refl xs (by omega), Option.bind_some]
theorem FnApplyFeed : laws_FnApplyFeed.Pure := by
  intro l _ hl hw
  refine (laws_FnApplyFeed.fL_is l).rounds ?_
  rw [laws_FnApplyFeed.fL_eq]
  by_cases h : (l.length : Int) > 1048576
  · rw [if_pos h]
  · obtain ⟨xs, cs, q, h1, q0, q1, hcl, hxl⟩ := l20Feed_ok (Code.take hw) 0 5 (by omega) (by omega) (by omega)
    have hd : spec_DrawApplyFeed.fL l = some (xs, cs) := by
      rw [spec_DrawApplyFeed.fL_eq, spec_l20Open_f, Option.bind_some]
      dsimp only
      rw [h1, Option.bind_some]
    have hal := applyFeed_length xs cs
    rw [if_neg h, hd, Option.bind_some]
    dsimp only
    rw [impl_ApplyFeed_f, Option.bind_some, spec_ApplyFeed_f xs cs (by omega), Option.bind_some, samePairs_refl _ (by omega), Option.bind_some, if_pos rfl, bne_self_eq_false, laws_FnApplyFeed.j0L_eq, if_neg (by simp)]
    by_cases hok : (applyFeed xs cs).2 = true
    · have hap : applyFeed xs cs = ((applyFeed xs cs).1, true) := by rw [← hok]
      have hfo : pairsOk xs = true ∧ feedOk cs = true := by
        by_cases q : pairsOk xs = true ∧ feedOk cs = true
        · exact q
        · unfold applyFeed at hok; rw [if_neg q] at hok; cases hok
      have hx48 := pairsOk_le hfo.1
      have m0 : 0 ≤ (l.length : Int) % ((cs.length : Int) + 1) := Int.emod_nonneg _ (by omega)
      have m1 : (l.length : Int) % ((cs.length : Int) + 1) < (cs.length : Int) + 1 := Int.emod_lt_of_pos _ (by omega)
      obtain ⟨d, hdd⟩ : ∃ d : Nat, (l.length : Int) % ((cs.length : Int) + 1) = (d : Int) := ⟨((l.length : Int) % ((cs.length : Int) + 1)).toNat, by omega⟩
      rw [if_pos hok, w64 (n := (cs.length : Int) + 1) (by omega) (by omega), if_neg (by omega), hdd]
      by_cases e : (d : Int) < (cs.length : Int)
      · rw [if_pos e, if_pos (by omega)]
        exact resumed xs _ cs hap d (by omega) _ (later_at hfo.2 d (by omega)) hx48
      · rw [if_neg e]
        have ed : d = cs.length := by omega
        subst ed
        exact resumed xs _ cs hap cs.length (by omega) 24 (later_end hfo.2) hx48
    · have hnil : (applyFeed xs cs).1 = [] := applyFeed_none xs cs (Bool.eq_false_iff.2 hok)
      rw [if_neg hok, hnil, if_pos (by simp), laws_alive_f, Option.bind_some]

end Go.Proofs.Ytcciackemicbbaa.Pure
