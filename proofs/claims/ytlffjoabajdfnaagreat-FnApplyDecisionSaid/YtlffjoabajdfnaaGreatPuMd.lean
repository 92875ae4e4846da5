/- Masters that are drawn; what a decision does. No condition. -/
import Derived.Test.YtlffjoabajdfnaaGreatPuCf
import Derived.Test.YtlffjoabajdfnaaGreatPuKy
import Derived.Test.YtlffjoabajdfnaaGreatPuH
import Derived.Test.YtlffjoabajdfnaaGreatPuAl
set_option linter.unusedVariables false
set_option linter.unusedSimpArgs false
namespace Go.Proofs.YtlffjoabajdfnaaGreat.Ev
open Go.Proofs.YtlffjoabajdfnaaGreat.Eng
open Go.RowKit (wrap64)
theorem fin_cases (x : Bool) (m nx : impl_Master) : ((fin x m nx).2.1 = true ∧ x = true ∧ masterOk nx = true ∧ (fin x m nx).1 = nx) ∨ ((fin x m nx).2.1 = false ∧ (fin x m nx).1 = m) := by
  unfold fin
  by_cases h : x = true ∧ masterOk nx = true
  · rw [if_pos h]; exact .inl ⟨rfl, h.1, h.2, rfl⟩
  · rw [if_neg h]; exact .inr ⟨rfl, rfl⟩
theorem applyR_cases (m : impl_Master) (d : impl_Decision) : ((applyR m d).2.1 = true ∧ masterOk m = true ∧ masterOk (applyR m d).1 = true) ∨ ((applyR m d).2.1 = false ∧ ((applyR m d).1 = m ∨ (applyR m d).1 = zMaster)) := by
  have f : ∀ (x : Bool) (nx : impl_Master), masterOk m = true → ((fin x m nx).2.1 = true ∧ masterOk m = true ∧ masterOk (fin x m nx).1 = true) ∨ ((fin x m nx).2.1 = false ∧ ((fin x m nx).1 = m ∨ (fin x m nx).1 = zMaster)) := fun x nx hm => by
    rcases fin_cases x m nx with ⟨h1, _, h2, h3⟩ | ⟨h1, h2⟩
    · exact .inl ⟨h1, hm, by rw [h3]; exact h2⟩
    · exact .inr ⟨h1, .inl h2⟩
  unfold applyR
  by_cases h0 : masterOk m = false
  · rw [if_pos h0]; exact .inr ⟨rfl, .inr rfl⟩
  · have hm : masterOk m = true := by cases h : masterOk m <;> simp_all
    rw [if_neg h0]
    by_cases h1 : d.Kind = 1
    · rw [if_pos h1]; exact f _ _ hm
    · rw [if_neg h1]
      by_cases h2 : d.Kind = 2
      · rw [if_pos h2]; exact f _ _ hm
      · rw [if_neg h2]
        by_cases h3 : d.Kind = 3
        · rw [if_pos h3]; exact f _ _ hm
        · rw [if_neg h3]
          by_cases h4 : d.Kind = 4
          · rw [if_pos h4]; exact f _ _ hm
          · rw [if_neg h4]
            by_cases h5 : d.Kind = 5
            · rw [if_pos h5]; exact f _ _ hm
            · rw [if_neg h5]; exact .inr ⟨rfl, .inl rfl⟩
theorem applyR_few {m : impl_Master} {k : Nat} (h : m.Routes.length ≤ k) (hk : 6 ≤ k) (d : impl_Decision) : (applyR m d).1.Routes.length ≤ k := by
  rcases applyR_cases m d with ⟨_, _, h1⟩ | ⟨_, h1 | h1⟩
  · have := (masterOk_len h1).1; omega
  · rw [h1]; exact h
  · rw [h1]; simp
theorem master_t {n m : Int} {r : spec_l20Rd} (h : Rdr n r) (hn : n ≤ 1000000) (hm : m ≤ 1000000) : Tot (spec_l20Master r m) (fun x => x.1.Routes.length ≤ 100 ∧ Rdr (n + 100000) x.2.1) := by
  have m5 : ∀ {r : spec_l20Rd} {s1 s2 : impl_Master} {s3 s4 : List impl_Route}, Rdr (n + 70000) r → s4.length ≤ 6 → Tot (spec_l20Master_5 m r s1 s2 s3 s4) (fun x => x.1.Routes.length ≤ 100 ∧ Rdr (n + 100000) x.2.1) := by
    intro r s1 s2 s3 s4 hr hl
    have hl : s4.length ≤ 100 := by omega
    rw [spec_l20Master_5_eq]
    simp only [cond_dec, List.length_cons, List.length_nil]
    refine (odd_t hr (by omega) hm).bind fun x hx => Tot.bif (fun _ => ?_) fun _ => Tot.val ⟨hl, hx.up (by omega)⟩
    refine (pick_t hx (by omega) (by omega)).bind fun y hy => Tot.ite (fun _ => ?_) fun _ => Tot.ite (fun _ => ?_) fun _ => Tot.ite (fun _ => ?_) fun _ => ?_
    · refine (pick_t hy.2 (by omega) (by omega)).bind fun z hz => ?_
      have z1 := hz.1.2 (by omega)
      rw [if_pos hz.1.1, if_pos (by omega)]
      exact Tot.val ⟨hl, hz.2.up (by omega)⟩
    · refine (pick_t hy.2 (by omega) (by omega)).bind fun z hz => ?_
      have z1 := hz.1.2 (by omega)
      rw [if_pos hz.1.1, if_pos (by omega)]
      exact Tot.val ⟨hl, hz.2.up (by omega)⟩
    · exact (plan_t hy.2 (by omega) (by omega) (by omega)).bind fun z hz => Tot.val ⟨hl, hz.up (by omega)⟩
    · exact (routes_t hy.2 (by omega) (by omega)).bind fun z hz => Tot.val ⟨hz.1, hz.2.up (by omega)⟩
  rw [spec_l20Master_eq]
  refine (decisions_t h (by omega)).bind fun x hx => ?_
  rw [spec_RunDecisions_f, Option.bind_some]
  have hl := runR_len x.1
  refine (pick_t hx (by omega) (by omega)).bind fun y hy => ?_
  rw [cond_dec]
  refine Tot.ite (fun _ => ?_) fun _ => m5 (hy.2.up (by omega)) hl
  refine (decision_t hy.2 (by omega) (by omega)).bind fun z hz => ?_
  rw [spec_ApplyDecision_f _ _ (by dsimp only; omega), Option.bind_some]
  exact m5 (hz.up (by omega)) (applyR_few hl (by omega) _)
theorem DrawApplyDecision_t {l : List Int} (h : ∀ x ∈ l, 0 ≤ x ∧ x ≤ 255) : Tot (spec_DrawApplyDecision l) (fun x => x.1.1.Routes.length ≤ 100) := by
  rw [spec_DrawApplyDecision_eq]
  simp only [cond_dec]
  refine (spec_l20Open_t h).bind fun o ho => (master_t ho (by omega) (by omega)).bind fun x hx => (decision_t hx.2 (by omega) (by omega)).bind fun y hy => (pick_t hy (by omega) (by omega)).bind fun z hz => ?_
  exact Tot.ite (fun _ => Tot.ite (fun _ => Tot.val hx.1) fun _ => Tot.ite (fun _ => Tot.val hx.1) fun _ => Tot.ite (fun _ => (pick_t hz.2 (by omega) (by omega)).bind fun w hw => Tot.val hx.1) fun _ => Tot.val hx.1) fun _ => Tot.val hx.1
end Go.Proofs.YtlffjoabajdfnaaGreat.Ev
