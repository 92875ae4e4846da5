/- Plans and masters. No condition. -/
import Derived.Test.YtlffjoabajdfnaaGreatPuC
set_option linter.unusedVariables false
set_option linter.unusedSimpArgs false
namespace Go.Proofs.YtlffjoabajdfnaaGreat.Ev
open Go.Proofs.YtlffjoabajdfnaaGreat.Eng
open Go.RowKit (wrap64)
def planOk (p : impl_Plan) : Bool :=
  decide (0 ≤ p.First ∧ p.First ≤ 7) &&
    (if p.Kind = 1 then keyOk p.Key && decide (p.Second = 0 ∧ p.From = 0 ∧ p.To = 0 ∧ p.Step = 0)
     else if p.Kind = 2 then decide (0 ≤ p.Second ∧ p.Second ≤ 7 ∧ ¬ p.Second = p.First) && decide (p.Key = es) && decide (p.From = 0 ∧ p.To = 0 ∧ p.Step = 0)
     else if p.Kind = 3 then decide (0 ≤ p.From ∧ p.From ≤ 4 ∧ 0 ≤ p.To ∧ p.To ≤ 4 ∧ ¬ p.From = p.To ∧ 0 ≤ p.Step ∧ p.Step ≤ 1 ∧ p.Second = 0) && decide (p.Key = es)
     else false)
theorem impl_PlanValid_f (p : impl_Plan) : impl_PlanValid p = some (planOk p, ()) := by
  rw [impl_PlanValid_eq]
  simp only [impl_shardNumber_f, impl_KeyValid_f, impl_nodeValid_f, Option.bind_some, cond_dec, sEq_dec, eqI_dec]
  obtain ⟨k, f, s, key, fr, tt, st⟩ := p
  unfold planOk
  dsimp only
  by_cases hf : 0 ≤ f ∧ f ≤ 7
  · rw [decide_eq_true hf, Bool.not_true, cond_false, Bool.true_and]
    by_cases k1 : k = 1
    · rw [if_pos k1, if_pos k1]
      cases keyOk key with
      | false => rfl
      | true => by_cases a1 : s = 0 <;> by_cases a2 : fr = 0 <;> by_cases a3 : tt = 0 <;> by_cases a4 : st = 0 <;> simp [a1, a2, a3, a4, k1]
    · rw [if_neg k1, if_neg k1]
      by_cases k2 : k = 2
      · rw [if_pos k2, if_pos k2]
        by_cases hs : 0 ≤ s ∧ s ≤ 7
        · rw [if_pos hs]
          by_cases e : s = f
          · rw [decide_eq_true e, decide_eq_false (p := 0 ≤ s ∧ s ≤ 7 ∧ ¬ s = f) (by omega)]; rfl
          · rw [decide_eq_false e, decide_eq_true (p := 0 ≤ s ∧ s ≤ 7 ∧ ¬ s = f) (by omega)]
            by_cases a1 : key = es <;> by_cases a2 : fr = 0 <;> by_cases a3 : tt = 0 <;> by_cases a4 : st = 0 <;> simp [a1, a2, a3, a4, k2]
        · rw [if_neg hs, decide_eq_false (p := 0 ≤ s ∧ s ≤ 7 ∧ ¬ s = f) (by omega)]; rfl
      · rw [if_neg k2, if_neg k2]
        by_cases k3 : k = 3
        · rw [if_pos k3, if_pos k3]
          by_cases h1 : 0 ≤ fr ∧ fr ≤ 4
          · rw [if_pos h1]
            by_cases h2 : 0 ≤ tt ∧ tt ≤ 4
            · rw [if_pos h2]
              by_cases e : fr = tt
              · rw [decide_eq_true e, decide_eq_false (p := 0 ≤ fr ∧ _) (by omega)]; rfl
              · rw [decide_eq_false e, Bool.not_false, cond_true]
                by_cases a4 : st = 0
                · rw [if_pos a4]
                  by_cases a1 : s = 0
                  · rw [if_pos a1, decide_eq_true (p := 0 ≤ fr ∧ _) (by omega)]; rfl
                  · rw [if_neg a1, decide_eq_false (p := 0 ≤ fr ∧ _) (by omega)]; rfl
                · rw [if_neg a4]
                  by_cases a5 : st = 1
                  · rw [if_pos a5]
                    by_cases a1 : s = 0
                    · rw [if_pos a1, decide_eq_true (p := 0 ≤ fr ∧ _) (by omega)]; rfl
                    · rw [if_neg a1, decide_eq_false (p := 0 ≤ fr ∧ _) (by omega)]; rfl
                  · rw [if_neg a5, decide_eq_false (p := 0 ≤ fr ∧ _) (by omega)]; rfl
            · rw [if_neg h2, decide_eq_false (p := 0 ≤ fr ∧ _) (by omega)]; rfl
          · rw [if_neg h1, decide_eq_false (p := 0 ≤ fr ∧ _) (by omega)]; rfl
        · rw [if_neg k3, if_neg k3] <;> rfl
  · rw [decide_eq_false hf]; rfl
theorem spec_PlanValid_f (p : impl_Plan) : spec_PlanValid p = some (planOk p, ()) := by
  rw [spec_PlanValid_eq]
  simp only [spec_l1In_f, spec_KeyValid_f, Option.bind_some, cond_dec, sEq_dec]
  obtain ⟨k, f, s, key, fr, tt, st⟩ := p
  unfold planOk
  dsimp only
  by_cases hf : 0 ≤ f ∧ f ≤ 7
  · rw [decide_eq_true hf, Bool.not_true, cond_false, Bool.true_and]
    by_cases k1 : k = 1
    · rw [if_pos k1, if_pos k1]
      cases keyOk key with
      | false => rfl
      | true => by_cases a1 : s = 0 <;> by_cases a2 : fr = 0 <;> by_cases a3 : tt = 0 <;> by_cases a4 : st = 0 <;> simp [a1, a2, a3, a4]
    · rw [if_neg k1, if_neg k1]
      by_cases k2 : k = 2
      · rw [if_pos k2, if_pos k2]
        by_cases hs : 0 ≤ s ∧ s ≤ 7
        · rw [if_pos hs]
          by_cases e : s = f
          · rw [decide_eq_true e, decide_eq_false (p := 0 ≤ s ∧ s ≤ 7 ∧ ¬ s = f) (by omega)]; rfl
          · rw [decide_eq_false e, decide_eq_true (p := 0 ≤ s ∧ s ≤ 7 ∧ ¬ s = f) (by omega)]
            by_cases a1 : key = es <;> by_cases a2 : fr = 0 <;> by_cases a3 : tt = 0 <;> by_cases a4 : st = 0 <;> simp [a1, a2, a3, a4]
        · rw [if_neg hs, decide_eq_false (p := 0 ≤ s ∧ s ≤ 7 ∧ ¬ s = f) (by omega)]; rfl
      · rw [if_neg k2, if_neg k2]
        by_cases k3 : k = 3
        · rw [if_pos k3, if_pos k3]
          by_cases h1 : 0 ≤ fr ∧ fr ≤ 4
          · rw [if_pos h1]
            by_cases h2 : 0 ≤ tt ∧ tt ≤ 4
            · rw [if_pos h2]
              by_cases e : fr = tt
              · rw [decide_eq_true e, decide_eq_false (p := 0 ≤ fr ∧ _) (by omega)]; rfl
              · rw [decide_eq_false e, Bool.not_false, cond_true]
                by_cases a4 : 0 ≤ st ∧ st ≤ 1
                · rw [if_pos a4]
                  by_cases a1 : s = 0
                  · rw [if_pos a1, decide_eq_true (p := 0 ≤ fr ∧ _) (by omega)]; rfl
                  · rw [if_neg a1, decide_eq_false (p := 0 ≤ fr ∧ _) (by omega)]; rfl
                · rw [if_neg a4, decide_eq_false (p := 0 ≤ fr ∧ _) (by omega)]; rfl
            · rw [if_neg h2, decide_eq_false (p := 0 ≤ fr ∧ _) (by omega)]; rfl
          · rw [if_neg h1, decide_eq_false (p := 0 ≤ fr ∧ _) (by omega)]; rfl
        · rw [if_neg k3, if_neg k3] <;> rfl
  · rw [decide_eq_false hf]; rfl
abbrev zPlan : impl_Plan := impl_Plan.mk (0 : Int) (0 : Int) (0 : Int) es (0 : Int) (0 : Int) (0 : Int)
def planZero (p : impl_Plan) : Bool := (((((((true) && (eqI p.Step (0 : Int))) && (eqI p.To (0 : Int))) && (eqI p.From (0 : Int))) && (sEq p.Key es)) && (eqI p.Second (0 : Int))) && (eqI p.First (0 : Int))) && (eqI p.Kind (0 : Int))
theorem planZero_kind {p : impl_Plan} (h : planZero p = true) : p.Kind = 0 := by
  simp only [planZero, eqI_dec, Bool.and_eq_true, decide_eq_true_eq] at h
  exact h.2
def workOk (p : impl_Plan) (sh : Int) : Bool := planZero p || (planOk p && decide (p.First < sh ∧ p.Second < sh))
def masterOk (m : impl_Master) : Bool :=
  routesOk m.Routes && decide (1 ≤ m.Shards ∧ m.Shards ≤ 8) && decide (0 ≤ m.Turn ∧ m.Turn ≤ 999) && (m.Routes.all fun r => decide (r.Number < m.Shards)) && workOk m.Work m.Shards
theorem spec_l27Work_f (p : impl_Plan) (sh : Int) : spec_l27Work p sh = some (workOk p sh, ()) := by
  rw [spec_l27Work_eq]
  unfold workOk
  change (bif planZero p then _ else _) = _
  simp only [spec_PlanValid_f, Option.bind_some, cond_dec]
  cases planZero p with
  | true => rfl
  | false =>
    cases planOk p with
    | false => rfl
    | true =>
      by_cases a : p.First < sh
      · simp only [cond_false, cond_true, if_pos a]; simp [a]
      · simp only [cond_false, cond_true, if_neg a]; simp [a]
theorem impl_MasterValid_l (m : impl_Master) (hx : m.Routes.length ≤ 1000000000000) : ∀ (ys : List impl_Route) (i : Int), 0 ≤ i → i ≤ m.Routes.length → m.Routes.drop i.toNat = ys →
    impl_MasterValid_4 m.Routes (m.Routes.length : Int) i m = some ((ys.all fun r => decide (r.Number < m.Shards)) && workOk m.Work m.Shards, ())
  | [], i, h0, h1, hd => by
    have := drop_nil h0 h1 hd
    rw [impl_MasterValid_4_eq, cond_dec, if_neg (by omega)]
    unfold workOk
    change (bif planZero m.Work then _ else _) = _
    simp only [impl_PlanValid_f, Option.bind_some, cond_dec]
    cases planZero m.Work with
    | true => rfl
    | false =>
      cases planOk m.Work with
      | false => rfl
      | true =>
        by_cases a : m.Work.First < m.Shards
        · simp only [cond_false, cond_true, if_pos a]; simp [a]
        · simp only [cond_false, cond_true, if_neg a]; simp [a]
  | y :: ys, i, h0, h1, hd => by
    obtain ⟨hr, hl, hd'⟩ := rd_drop (d := z_impl_Route) h0 hd
    have ih := impl_MasterValid_l m hx ys (i + 1) (by omega) (by omega) hd'
    rw [impl_MasterValid_4_eq, cond_dec, if_pos hl]
    simp only [cond_dec, if_pos hl, if_pos h0, hr, w64 (n := i + 1) (by omega) (by omega), ih, List.all_cons]
    by_cases e : m.Shards ≤ y.Number
    · rw [if_pos e, decide_eq_false (p := y.Number < m.Shards) (by omega)]; rfl
    · rw [if_neg e, decide_eq_true (p := y.Number < m.Shards) (by omega)]; rfl
theorem impl_MasterValid_f (m : impl_Master) (hx : m.Routes.length ≤ 1000000000000) : impl_MasterValid m = some (masterOk m, ()) := by
  rw [impl_MasterValid_eq, impl_RoutesValid_f, Option.bind_some]
  simp only [cond_dec, impl_MasterValid_l m hx m.Routes 0 (by omega) (by omega) (by simp)]
  unfold masterOk
  cases routesOk m.Routes with
  | false => rfl
  | true =>
    simp only [Bool.not_true, cond_false]
    by_cases h1 : m.Shards < 1
    · rw [if_pos h1, decide_eq_false (p := 1 ≤ m.Shards ∧ m.Shards ≤ 8) (by omega)]; rfl
    · rw [if_neg h1]
      by_cases h2 : 8 < m.Shards
      · rw [if_pos h2, decide_eq_false (p := 1 ≤ m.Shards ∧ m.Shards ≤ 8) (by omega)]; rfl
      · rw [if_neg h2, decide_eq_true (p := 1 ≤ m.Shards ∧ m.Shards ≤ 8) (by omega)]
        by_cases h3 : m.Turn < 0
        · rw [if_pos h3, decide_eq_false (p := 0 ≤ m.Turn ∧ m.Turn ≤ 999) (by omega)]; rfl
        · rw [if_neg h3]
          by_cases h4 : 999 < m.Turn
          · rw [if_pos h4, decide_eq_false (p := 0 ≤ m.Turn ∧ m.Turn ≤ 999) (by omega)]; rfl
          · rw [if_neg h4, decide_eq_true (p := 0 ≤ m.Turn ∧ m.Turn ≤ 999) (by omega)]; rfl
end Go.Proofs.YtlffjoabajdfnaaGreat.Ev
