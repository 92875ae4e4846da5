/- The program's NewMaster and the reference's NewMaster return the same, and the program's result is new memory. No condition. -/
import Derived.Test.YtpeifepnaecjiaaQFnExactNewMaster0
namespace Go.Proofs.Ytpeifepnaecjiaa.Pure
open Go.RowKit Go.Proofs.Ytpeifepnaecjiaa.PFnExactNewMaster Go.Proofs.YtpeifepnaecjiaaW.PrintWords Go.Proofs.YtpeifepnaecjiaaW.PrintLast Go.Proofs.YtpeifepnaecjiaaW.PrintMore Go.Proofs.Ytpeifepnaecjiaa.Lim
set_option linter.unusedVariables false
set_option linter.unusedSimpArgs false

theorem eqPlan_refl (a b c : Int) (d : ByteArray) (e f g : Int) : laws_eqPlan.f a b c d e f g a b c d e f g = some true := by unfold laws_eqPlan.f; simp
theorem FnExactNewMaster : laws_FnExactNewMaster.Pure := by
  refine laws_FnExactNewMaster.fL_is.rounds ?_
  rw [laws_FnExactNewMaster.fL_eq]
  unfold spec_NewMaster.f impl_NewMaster.f
  simp only [Option.bind_some, laws_eqMaster.fL_eq, laws_markMaster.fL_eq, laws_heldMaster.fL_eq, eqRouteS_refl _ (show [(⟨0, ⟨⟨#[]⟩, ⟨#[]⟩⟩⟩ : S81)].length ≤ 1000000000000 by simp), eqPlan_refl, if_true,
    markRouteS_f [(⟨0, ⟨⟨#[]⟩, ⟨#[]⟩⟩⟩ : S81)] 1 (by simp) (by omega) (by omega), heldRouteS_f _ 1 (show [(⟨0, ⟨⟨#[]⟩, ⟨#[]⟩⟩⟩ : S81)].length ≤ 1000000000 by simp) (by omega) (by omega)]
  simp

end Go.Proofs.Ytpeifepnaecjiaa.Pure
