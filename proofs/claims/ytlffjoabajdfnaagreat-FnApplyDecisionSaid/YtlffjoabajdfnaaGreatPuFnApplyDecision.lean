/- Decisions: what is not possible changes nothing, and none is possible twice. No condition. -/
import Derived.Test.YtlffjoabajdfnaaGreatPuMd
set_option linter.unusedVariables false
set_option linter.unusedSimpArgs false
namespace Go.Proofs.YtlffjoabajdfnaaGreat.Ev
open Go.Proofs.YtlffjoabajdfnaaGreat.Eng
open Go.RowKit (wrap64)
theorem sameRoutes_self (xs : List impl_Route) (hx : xs.length ≤ 1000000000000) : laws_sameRoutes xs xs = some (true, ()) := by
  rw [laws_sameRoutes_eq, decide_eq_true rfl]
  refine refl_loop0 (true, ()) xs.length (fun i => laws_sameRoutes_4 xs xs i) (fun i h0 h1 => ?_)
  rw [laws_sameRoutes_4_eq]
  by_cases hi : i < (xs.length : Int)
  · simp only [cond_dec, if_pos h0, if_pos hi, w64 (n := i + 1) (by omega) (by omega), eqI_dec, sEq_dec, decide_true, Bool.and_self, Bool.not_true, cond_false]
  · simp only [cond_dec, if_neg hi]
theorem sameMaster_self (m : impl_Master) (h : m.Routes.length ≤ 1000000000000) : laws_sameMaster m m = some (true, ()) := by
  rw [laws_sameMaster_eq, sameRoutes_self _ h, Option.bind_some]
  simp only [eqI_dec, sEq_dec, decide_true, Bool.and_self, cond_true]
theorem noMaster_z : laws_noMaster zMaster = some (true, ()) := by
  rw [laws_noMaster_eq]
  have := sameMaster_self zMaster (by simp)
  rw [this]; rfl
theorem once (m : impl_Master) (d : impl_Decision) (h : (applyR m d).2.1 = true) : m.Shards ≤ (applyR m d).1.Shards ∧ m.Turn ≤ (applyR m d).1.Turn ∧ (applyR (applyR m d).1 d).2.1 = false := by
  have hm : masterOk m = true := by
    rcases applyR_cases m d with ⟨_, k, _⟩ | ⟨k, _⟩
    · exact k
    · rw [k] at h; cases h
  have hx := applyR_ok h
  obtain ⟨_, s, t⟩ := masterOk_len hm
  have no : ∀ (x : Bool) (a b : impl_Master), x = false → (fin x a b).2.1 = false := fun x a b e => by rw [e, fin_false]
  have n0 : ¬ masterOk m = false := by rw [hm]; simp
  have n1 : ∀ {q : impl_Master}, masterOk q = true → ¬ masterOk q = false := fun e => by rw [e]; simp
  have go : ∀ (x : Bool) (nx : impl_Master), applyR m d = fin x m nx → (x = true → masterOk nx = true → m.Shards ≤ nx.Shards ∧ m.Turn ≤ nx.Turn ∧ (applyR nx d).2.1 = false) → m.Shards ≤ (applyR m d).1.Shards ∧ m.Turn ≤ (applyR m d).1.Turn ∧ (applyR (applyR m d).1 d).2.1 = false := by
    intro x nx e k
    rcases fin_cases x m nx with ⟨_, c1, c2, c3⟩ | ⟨c1, _⟩
    · rw [e, c3]; exact k c1 c2
    · rw [e, c1] at h; cases h
  by_cases h1 : d.Kind = 1
  · refine go (ok1 m d.Begun) (next1 m d.Begun) (by unfold applyR; rw [if_neg n0, if_pos h1]) fun c1 c2 => ?_
    simp only [ok1, Bool.and_eq_true, decide_eq_true_eq] at c1
    obtain ⟨⟨⟨⟨p1, p2⟩, p3⟩, p4⟩, p5⟩ := c1
    refine ⟨Int.le_refl _, ?_, ?_⟩
    · show m.Turn ≤ wrap64 (m.Turn + 1); rw [w64 (by omega) (by omega)]; omega
    · unfold applyR
      rw [if_neg (n1 c2), if_pos h1]
      refine no _ _ _ ?_
      have : planZero (next1 m d.Begun).Work = false := planZero_not p1
      unfold ok1
      rw [this]; simp
  · by_cases h2 : d.Kind = 2
    · refine go (decide (m.Work.Kind = 1) && (splitR m.Routes m.Work.First m.Work.Key m.Shards (wrap64 (m.Shards + 1))).2.1 && planZero d.Begun) (impl_Master.mk (splitR m.Routes m.Work.First m.Work.Key m.Shards (wrap64 (m.Shards + 1))).1 (wrap64 (m.Shards + 2)) zPlan m.Turn) (by unfold applyR; rw [if_neg n0, if_neg h1, if_pos h2]) fun c1 c2 => ⟨?_, Int.le_refl _, ?_⟩
      · show m.Shards ≤ wrap64 (m.Shards + 2); rw [w64 (by omega) (by omega)]; omega
      · unfold applyR
        rw [if_neg (n1 c2), if_neg h1, if_pos h2]
        exact no _ _ _ (by simp)
    · by_cases h3 : d.Kind = 3
      · refine go (decide (m.Work.Kind = 2) && (mergeR m.Routes m.Work.First m.Shards).2.1 && adj m && planZero d.Begun) (impl_Master.mk (mergeR m.Routes m.Work.First m.Shards).1 (wrap64 (m.Shards + 1)) zPlan m.Turn) (by unfold applyR; rw [if_neg n0, if_neg h1, if_neg h2, if_pos h3]) fun c1 c2 => ⟨?_, Int.le_refl _, ?_⟩
        · show m.Shards ≤ wrap64 (m.Shards + 1); rw [w64 (by omega) (by omega)]; omega
        · unfold applyR
          rw [if_neg (n1 c2), if_neg h1, if_neg h2, if_pos h3]
          exact no _ _ _ (by simp)
      · by_cases h4 : d.Kind = 4
        · refine go (decide (m.Work.Kind = 3) && decide (m.Work.Step = 0) && planZero d.Begun) (impl_Master.mk m.Routes m.Shards (impl_Plan.mk m.Work.Kind m.Work.First m.Work.Second m.Work.Key m.Work.From m.Work.To 1) m.Turn) (by unfold applyR; rw [if_neg n0, if_neg h1, if_neg h2, if_neg h3, if_pos h4]) fun c1 c2 => ⟨Int.le_refl _, Int.le_refl _, ?_⟩
          unfold applyR
          rw [if_neg (n1 c2), if_neg h1, if_neg h2, if_neg h3, if_pos h4]
          exact no _ _ _ (by simp)
        · by_cases h5 : d.Kind = 5
          · refine go (decide (m.Work.Kind = 3) && planZero d.Begun) (impl_Master.mk m.Routes m.Shards zPlan m.Turn) (by unfold applyR; rw [if_neg n0, if_neg h1, if_neg h2, if_neg h3, if_neg h4, if_pos h5]) fun c1 c2 => ⟨Int.le_refl _, Int.le_refl _, ?_⟩
            unfold applyR
            rw [if_neg (n1 c2), if_neg h1, if_neg h2, if_neg h3, if_neg h4, if_pos h5]
            exact no _ _ _ (by simp)
          · unfold applyR at h
            rw [if_neg n0, if_neg h1, if_neg h2, if_neg h3, if_neg h4, if_neg h5] at h
            cases h
theorem law (a0 : List Int) (h0 : Bnd (.sl (.int .u8)) a0) : laws_FnApplyDecision a0 = some (true, ()) := by
  have hb : ∀ x ∈ a0, 0 ≤ x ∧ x ≤ 255 := fun x hx => wf8 (h0.2 x hx)
  rw [laws_FnApplyDecision_eq, cond_dec]
  by_cases hk : 1048576 < (a0.length : Int)
  · rw [if_pos hk]
  rw [if_neg hk]
  obtain ⟨x, e, hx⟩ := DrawApplyDecision_t hb
  rw [e, Option.bind_some]
  generalize x.1.1 = m at *
  generalize x.1.2.1 = d at *
  have hl := applyR_few hx (by omega) d
  rw [impl_ApplyDecision_f m d (by omega), Option.bind_some, spec_ApplyDecision_f m d (by omega), Option.bind_some]
  dsimp only
  rw [sameMaster_self _ (by omega), Option.bind_some, beqB_self, alive_f]
  simp only [Bool.not_true, cond_false, Option.bind_some]
  rcases applyR_cases m d with ⟨h1, h2, h3⟩ | ⟨h1, h2⟩
  · obtain ⟨o1, o2, o3⟩ := once m d h1
    rw [h1, Bool.not_true, cond_false, impl_ApplyDecision_f _ d (by omega), Option.bind_some, impl_MasterValid_f _ (by omega), Option.bind_some, h3, cond_true, cond_dec, if_pos o1, cond_dec, if_pos o2, o3]; rfl
  · rw [h1, Bool.not_false, cond_true]
    rcases h2 with h2 | h2
    · rw [h2, sameMaster_self _ (by omega)]; rfl
    · rw [h2, noMaster_z]
      have : ∃ b, laws_sameMaster zMaster m = some (b, ()) := by
        rw [laws_sameMaster_eq, laws_sameRoutes_eq]
        cases hm : m.Routes with
        | nil =>
          have e0 : laws_sameRoutes_4 [] [] 0 = some (true, ()) := by rw [laws_sameRoutes_4_eq]; rfl
          simp only [List.length_nil, decide_true, Bool.not_true, cond_false, e0, Option.bind_some, cond_true]
          generalize decide (zMaster.Shards = m.Shards) = p
          generalize ((((((((true) && (eqI zMaster.Work.Step m.Work.Step)) && (eqI zMaster.Work.To m.Work.To)) && (eqI zMaster.Work.From m.Work.From)) && (sEq zMaster.Work.Key m.Work.Key)) && (eqI zMaster.Work.Second m.Work.Second)) && (eqI zMaster.Work.First m.Work.First)) && (eqI zMaster.Work.Kind m.Work.Kind)) = q
          cases p <;> cases q <;> exact ⟨_, rfl⟩
        | cons y ys =>
          rw [decide_eq_false (show ¬ ((([] : List impl_Route).length : Int) = ((y :: ys).length : Int)) by simp; omega)]
          exact ⟨_, rfl⟩
      obtain ⟨b, hb⟩ := this
      rw [hb, Option.bind_some]
      cases b <;> rfl
end Go.Proofs.YtlffjoabajdfnaaGreat.Ev
