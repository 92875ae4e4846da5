/- Valid masters: without routes none is, and with no plan one is as good; a new one is. No condition. -/
import Derived.Test.YtlffjoabajdfnaaGreatPuMd
set_option linter.unusedVariables false
set_option linter.unusedSimpArgs false
namespace Go.Proofs.YtlffjoabajdfnaaGreat.Ev
open Go.Proofs.YtlffjoabajdfnaaGreat.Eng
open Go.RowKit (wrap64)
theorem newM_ok : masterOk newM = true := by
  have h1 : routesOk [z_impl_Route] = true := rfl
  have h2 : z_impl_Route.Number = 0 := rfl
  simp [masterOk, h1, h2, workOk_zero]
theorem law (a0 : List Int) (h0 : Bnd (.sl (.int .u8)) a0) : laws_FnMasterValid a0 = some (true, ()) := by
  have hb : ∀ x ∈ a0, 0 ≤ x ∧ x ≤ 255 := fun x hx => wf8 (h0.2 x hx)
  rw [laws_FnMasterValid_eq, cond_dec]
  by_cases hk : 1048576 < (a0.length : Int)
  · rw [if_pos hk]
  rw [if_neg hk]
  obtain ⟨x, e, hx⟩ := DrawMasterValid_t hb
  have bare : masterOk x.1 = true → masterOk (impl_Master.mk x.1.Routes x.1.Shards zPlan x.1.Turn) = true := fun h => by
    simp only [masterOk, Bool.and_eq_true] at h ⊢
    exact ⟨h.1, workOk_zero _⟩
  have none : masterOk (impl_Master.mk [] x.1.Shards x.1.Work x.1.Turn) = false := by
    have : routesOk [] = false := rfl
    simp [masterOk, this]
  rw [e, Option.bind_some, impl_MasterValid_f _ (by omega), Option.bind_some, spec_MasterValid_f _ (by omega), Option.bind_some, beqB_self, impl_MasterValid_f _ (by simp), none, impl_NewMaster_f, alive_f]
  simp only [Bool.not_true, cond_false, Option.bind_some, Bool.not_false, cond_true]
  rw [impl_MasterValid_f newM (by simp), newM_ok]
  cases hm : masterOk x.1 with
  | false => rfl
  | true =>
    simp only [Bool.not_true, cond_false, Option.bind_some, cond_true]
    rw [impl_MasterValid_f _ (by dsimp only; omega), bare hm]; rfl
end Go.Proofs.YtlffjoabajdfnaaGreat.Ev
