-- Written by a program of this session, in the manner of the kit's print (wip/pp.py): functions and their contracts.
import Derived.Test.YtfeeifefmenlmaaDoorPFnExactPairsTextx3
import Derived.Test.YtfeeifefmenlmaaDoorOpens
namespace Go.Proofs.YtfeeifefmenlmaaDoor.PFnExactPairsText
open Go.RowKit Go.Proofs.YtfeeifefmenlmaaDoorW.PrintWords Go.Proofs.YtfeeifefmenlmaaDoorW.PrintLast Go.Proofs.YtfeeifefmenlmaaDoorW.PrintMore Go.Proofs.YtfeeifefmenlmaaDoor.Opens
set_option linter.unusedVariables false
def B31 (x : S31) : Prop := x.f0.size ≤ 9223372036854775807 ∧ (Lit.int .i64 x.f1).wf = true
theorem o31 : Opens Tryd.prog 31 k31 B31 :=
  (Opens.struct (fun x : S31 => (x.f0, x.f1)) (fun a => ⟨a.1, a.2⟩) Tryd.underlying31 (by kernel_rfl) (OpensF.cons rfl (Opens.string Tryd.underlying9 (by kernel_rfl)) (OpensF.one rfl (Opens.int Tryd.underlying3 (by kernel_rfl)))) (fun _ => rfl)).mono (fun _ h => h)
theorem open31 {w : World} {x : S31} {cs : List Value} (h : k31.K w x cs) : cs = [.string x.f0, .int .i64 x.f1] := by
  obtain ⟨p0, q0, rfl, h0, h1⟩ := h
  have e0 : p0 = [.string x.f0] := h0
  subst e0
  have e1 : q0 = [.int .i64 x.f1] := h1
  subst e1
  exact rfl
/-- THE ONE PURE STATEMENT of laws_FnExactPairsText. -/
def laws_FnExactPairsText.Pure : Prop := ∀ (l0 : List (S31)), (l0.length ≤ 9223372036854775807 ∧ ∀ y_ ∈ l0, B31 y_) → ∃ k, laws_FnExactPairsText.f k l0 = some true
end Go.Proofs.YtfeeifefmenlmaaDoor.PFnExactPairsText
