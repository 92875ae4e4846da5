-- Written by a program of this session, in the manner of the kit's print (wip/pp.py): functions and their contracts.
import Derived.Test.YtfeeifefmenlmaaPFnExactDiffPartsx13
import Derived.Test.YtfeeifefmenlmaaOpensFnExactDiffParts
namespace Go.Proofs.Ytfeeifefmenlmaa.PFnExactDiffParts
open Go.RowKit Go.Proofs.YtfeeifefmenlmaaW.PrintWords Go.Proofs.YtfeeifefmenlmaaW.PrintLast Go.Proofs.YtfeeifefmenlmaaW.PrintMore Go.Proofs.Ytfeeifefmenlmaa.Opens
set_option linter.unusedVariables false
def B104 (x : S104) : Prop := x.f0.size ≤ 9223372036854775807 ∧ (Lit.int .i64 x.f1).wf = true
theorem o104 : Opens Try.prog 104 k104 B104 :=
  (Opens.struct (fun x : S104 => (x.f0, x.f1)) (fun a => ⟨a.1, a.2⟩) Try.underlying104 (by kernel_rfl) (OpensF.cons rfl (Opens.string Try.underlying9 (by kernel_rfl)) (OpensF.one rfl (Opens.int Try.underlying3 (by kernel_rfl)))) (fun _ => rfl)).mono (fun _ h => h)
theorem open104 {w : World} {x : S104} {cs : List Value} (h : k104.K w x cs) : cs = [.string x.f0, .int .i64 x.f1] := by
  obtain ⟨p0, q0, rfl, h0, h1⟩ := h
  have e0 : p0 = [.string x.f0] := h0
  subst e0
  have e1 : q0 = [.int .i64 x.f1] := h1
  subst e1
  exact rfl
def B121 (x : S121) : Prop := x.f0.size ≤ 9223372036854775807 ∧ x.f1.size ≤ 9223372036854775807
theorem o121 : Opens Try.prog 121 k121 B121 :=
  (Opens.struct (fun x : S121 => (x.f0, x.f1)) (fun a => ⟨a.1, a.2⟩) Try.underlying121 (by kernel_rfl) (OpensF.cons rfl (Opens.string Try.underlying9 (by kernel_rfl)) (OpensF.one rfl (Opens.string Try.underlying9 (by kernel_rfl)))) (fun _ => rfl)).mono (fun _ h => h)
theorem open121 {w : World} {x : S121} {cs : List Value} (h : k121.K w x cs) : cs = [.string x.f0, .string x.f1] := by
  obtain ⟨p0, q0, rfl, h0, h1⟩ := h
  have e0 : p0 = [.string x.f0] := h0
  subst e0
  have e1 : q0 = [.string x.f1] := h1
  subst e1
  exact rfl
/-- THE ONE PURE STATEMENT of laws_FnExactDiffParts. -/
def laws_FnExactDiffParts.Pure : Prop := ∀ (l0 : List (S104)) (l1 : List (S104)) (l2 : List (S121)), (l0.length ≤ 9223372036854775807 ∧ ∀ y_ ∈ l0, B104 y_) → (l1.length ≤ 9223372036854775807 ∧ ∀ y_ ∈ l1, B104 y_) → (l2.length ≤ 9223372036854775807 ∧ ∀ y_ ∈ l2, B121 y_) → ∃ k, laws_FnExactDiffParts.f k l0 l1 l2 = some true
end Go.Proofs.Ytfeeifefmenlmaa.PFnExactDiffParts
