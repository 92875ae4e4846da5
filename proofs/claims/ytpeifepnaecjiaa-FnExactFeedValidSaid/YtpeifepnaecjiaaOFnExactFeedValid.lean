-- Written by a program of this session, in the manner of the kit's print (wip/pp.py): functions and their contracts.
import Derived.Test.YtpeifepnaecjiaaPFnExactFeedValidx5
import Derived.Test.YtpeifepnaecjiaaOpens
namespace Go.Proofs.Ytpeifepnaecjiaa.PFnExactFeedValid
open Go.RowKit Go.Proofs.YtpeifepnaecjiaaW.PrintWords Go.Proofs.YtpeifepnaecjiaaW.PrintLast Go.Proofs.YtpeifepnaecjiaaW.PrintMore Go.Proofs.Ytpeifepnaecjiaa.Opens
set_option linter.unusedVariables false
def B72 (x : S72) : Prop := (Lit.int .i64 x.f0).wf = true ∧ x.f1.size ≤ 9223372036854775807 ∧ (Lit.int .i64 x.f2).wf = true ∧ (Lit.int .i64 x.f3).wf = true
theorem o72 : Opens Try.prog 72 k72 B72 :=
  (Opens.struct (fun x : S72 => (x.f0, x.f1, x.f2, x.f3)) (fun a => ⟨a.1, a.2.1, a.2.2.1, a.2.2.2⟩) Try.underlying72 (by kernel_rfl) (OpensF.cons rfl (Opens.int Try.underlying3 (by kernel_rfl)) (OpensF.cons rfl (Opens.string Try.underlying9 (by kernel_rfl)) (OpensF.cons rfl (Opens.int Try.underlying3 (by kernel_rfl)) (OpensF.one rfl (Opens.int Try.underlying3 (by kernel_rfl)))))) (fun _ => rfl)).mono (fun _ h => h)
/-- THE ONE PURE STATEMENT of laws_FnExactFeedValid. -/
def laws_FnExactFeedValid.Pure : Prop := ∀ (l0 : List (S72)), (l0.length ≤ 9223372036854775807 ∧ ∀ x ∈ l0, B72 x) → ∃ k, laws_FnExactFeedValid.f k l0 = some true
end Go.Proofs.Ytpeifepnaecjiaa.PFnExactFeedValid
