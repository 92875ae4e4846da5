/- Of drawn feeds and indices: the program's FeedFrom is the reference's; of a feed that is not valid it is empty; else it is the feed's end, behind all that is earlier; from index 0 on it is the whole feed. No condition. -/
import Derived.Test.YtfeeifefmenlmaaQFnFeedFrom0
namespace Go.Proofs.Ytfeeifefmenlmaa.Pure
open Go.RowKit Go.Proofs.Ytfeeifefmenlmaa.PFnFeedFrom Go.Proofs.YtfeeifefmenlmaaW.PrintWords Go.Proofs.YtfeeifefmenlmaaW.PrintLast Go.Proofs.YtfeeifefmenlmaaW.PrintMore Go.Proofs.Ytfeeifefmenlmaa.Lim
set_option linter.unusedVariables false
set_option linter.unusedSimpArgs false

theorem later_all (n : Int) : ∀ (l : List S75) (p : Int), feedFrom p l = true → n ≤ p + 1 → later n l = l
  | [], _, _, _ => rfl
  | x :: l, p, h, hn => by
    simp only [feedFrom, Bool.and_eq_true, decide_eq_true_eq] at h
    have := later_all n l x.f0 h.2 (by omega)
    unfold later at this ⊢
    rw [List.filter_cons, if_pos (by simp; omega), this]
/-- What is later stands at the end; what stands before is earlier. -/
theorem later_drop (n : Int) : ∀ (l : List S75) (p : Int), feedFrom p l = true → ∃ k, k ≤ l.length ∧ later n l = l.drop k ∧ (∀ c ∈ l.take k, c.f0 < n) ∧ (∀ c ∈ l.drop k, n ≤ c.f0)
  | [], _, _ => ⟨0, by simp [later]⟩
  | x :: l, p, h => by
    have h' := h
    simp only [feedFrom, Bool.and_eq_true, decide_eq_true_eq] at h
    by_cases e : x.f0 ≥ n
    · refine ⟨0, by simp, later_all n (x :: l) (x.f0 - 1) (by simp only [feedFrom, Bool.and_eq_true, decide_eq_true_eq]; exact ⟨⟨h.1.1, by omega⟩, h.2⟩) (by omega), by simp, ?_⟩
      intro c hc
      have : c ∈ later n (x :: l) := by rw [later_all n (x :: l) (x.f0 - 1) (by simp only [feedFrom, Bool.and_eq_true, decide_eq_true_eq]; exact ⟨⟨h.1.1, by omega⟩, h.2⟩) (by omega)]; exact hc
      unfold later at this
      have := (List.mem_filter.1 this).2
      simpa using this
    · obtain ⟨k, hk, h1, h2, h3⟩ := later_drop n l x.f0 h.2
      refine ⟨k + 1, by simp; omega, ?_, ?_, by simpa using h3⟩
      · unfold later at h1 ⊢
        rw [List.filter_cons, if_neg (by simp; omega), h1, List.drop_succ_cons]
      · intro c hc
        rw [List.take_succ_cons] at hc
        rcases List.mem_cons.1 hc with rfl | hc
        · omega
        · exact h2 c hc
theorem rd_change_take {l : List S75} {k : Nat} (h : 0 < k) (hk : k ≤ l.length) : rd_T75 l ((k : Int) - 1) ∈ l.take k := by
  unfold rd_T75
  rw [List.getD_eq_getElem?_getD, List.getElem?_eq_getElem (by omega : ((k : Int) - 1).toNat < l.length)]
  exact List.mem_take_iff_getElem.2 ⟨((k : Int) - 1).toNat, by omega, rfl⟩
theorem rd_change_drop {l : List S75} (h : 0 < l.length) : rd_T75 l 0 ∈ l := by
  unfold rd_T75
  rw [List.getD_eq_getElem?_getD, List.getElem?_eq_getElem (by omega : (0 : Int).toNat < l.length)]
  exact List.getElem_mem _
theorem FnFeedFrom : laws_FnFeedFrom.Pure := by
  intro l _ hl hw
  refine (laws_FnFeedFrom.fL_is l).rounds ?_
  rw [laws_FnFeedFrom.fL_eq]
  by_cases h : (l.length : Int) > 1048576
  · rw [if_pos h]
  · have hc := Code.take hw
    obtain ⟨xs, cs, q, h1, q0, q1, hcl, _⟩ := l20Feed_ok hc 0 9 (by omega) (by omega) (by omega)
    obtain ⟨v, hv, v0, v1, _⟩ := pick_ok hc q 12 (by omega) (by omega) (by omega)
    have v1 := v1 (by omega)
    have hd : spec_DrawFeedFrom.fL l = some (cs, v - 1) := by
      rw [spec_DrawFeedFrom.fL_eq, spec_l20Open_f, Option.bind_some]
      dsimp only
      rw [h1, Option.bind_some]
      dsimp only
      rw [hv, Option.bind_some, w64 (by omega) (by omega)]
    have hfl := feedLater_length cs (v - 1)
    rw [if_neg h, hd, Option.bind_some]
    dsimp only
    rw [impl_FeedFrom_f, Option.bind_some, spec_FeedFrom_f cs _ (by omega), Option.bind_some, sameFeed_refl _ (by omega), Option.bind_some, if_pos rfl, impl_FeedValid_f, Option.bind_some]
    by_cases hok : feedOk cs = true
    · have hff : feedFrom (-1) cs = true := by simp only [feedOk, Bool.and_eq_true] at hok; exact hok.2
      obtain ⟨k, hk, e1, e2, e3⟩ := later_drop (v - 1) cs (-1) hff
      have el : feedLater cs (v - 1) = cs.drop k := by unfold feedLater; rw [if_pos hok, e1]
      have ez : feedLater cs 0 = cs := by unfold feedLater; rw [if_pos hok, later_all 0 cs (-1) hff (by omega)]
      have hj : laws_FnFeedFrom.j0L cs false = some true := by
        rw [laws_FnFeedFrom.j0L_eq, if_neg (by simp), impl_FeedFrom_f, Option.bind_some, ez, sameFeed_refl _ (by omega), Option.bind_some, if_pos rfl, laws_alive_f, Option.bind_some]
      have hlen : ((cs.drop k).length : Int) = cs.length - k := by rw [List.length_drop]; omega
      rw [if_pos hok, el, hlen, w64 (n := (cs.length : Int) - (cs.length - k)) (by omega) (by omega), show (cs.length : Int) - (cs.length - k) = k by omega, if_neg (by omega), if_pos (by omega), if_pos (by omega), Int.toNat_natCast, sameFeed_refl _ (by simp; omega), Option.bind_some, if_pos rfl, w64 (n := (k : Int) - 1) (by omega) (by omega)]
      have hlast : (if (k : Int) > 0 then (if 0 ≤ (k : Int) - 1 then (if (k : Int) - 1 < (cs.length : Int) then (laws_FnFeedFrom.j0L cs (decide ((rd_T75 cs ((k : Int) - 1)).f0 ≥ v - 1))) else none) else none) else laws_FnFeedFrom.j0L cs false) = some true := by
        by_cases hk0 : (k : Int) > 0
        · have := e2 _ (rd_change_take (l := cs) (by omega) hk)
          rw [if_pos hk0, if_pos (by omega), if_pos (by omega), decide_eq_false (by omega), hj]
        · rw [if_neg hk0, hj]
      by_cases hp : (cs.length : Int) - k > 0
      · have := e3 _ (rd_change_drop (l := cs.drop k) (by rw [List.length_drop]; omega))
        rw [if_pos hp, if_pos hp, if_neg (by omega), hlast]
      · rw [if_neg hp, hlast]
    · have : feedLater cs (v - 1) = [] := by unfold feedLater; rw [if_neg hok]
      rw [if_neg hok, this, if_pos (by simp), laws_alive_f, Option.bind_some]

end Go.Proofs.Ytfeeifefmenlmaa.Pure
