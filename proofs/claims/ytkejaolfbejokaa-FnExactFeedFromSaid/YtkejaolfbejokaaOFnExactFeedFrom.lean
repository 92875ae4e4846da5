-- Written by a program of this session, in the manner of the kit's print (wip/pp.py): functions and their contracts.
import Derived.Test.YtkejaolfbejokaaPFnExactFeedFromx7
import Derived.Test.YtkejaolfbejokaaOpens
namespace Go.Proofs.Ytkejaolfbejokaa.PFnExactFeedFrom
open Go.RowKit Go.Proofs.YtkejaolfbejokaaW.PrintWords Go.Proofs.YtkejaolfbejokaaW.PrintLast Go.Proofs.YtkejaolfbejokaaW.PrintMore Go.Proofs.Ytkejaolfbejokaa.Opens
set_option linter.unusedVariables false
def B108 (x : S108) : Prop := (Lit.int .i64 x.f0).wf = true ∧ x.f1.size ≤ 9223372036854775807 ∧ (Lit.int .i64 x.f2).wf = true ∧ (Lit.int .i64 x.f3).wf = true
theorem o108 : Opens Try.prog 108 k108 B108 :=
  (Opens.struct (fun x : S108 => (x.f0, x.f1, x.f2, x.f3)) (fun a => ⟨a.1, a.2.1, a.2.2.1, a.2.2.2⟩) Try.underlying108 (by kernel_rfl) (OpensF.cons rfl (Opens.int Try.underlying3 (by kernel_rfl)) (OpensF.cons rfl (Opens.string Try.underlying9 (by kernel_rfl)) (OpensF.cons rfl (Opens.int Try.underlying3 (by kernel_rfl)) (OpensF.one rfl (Opens.int Try.underlying3 (by kernel_rfl)))))) (fun _ => rfl)).mono (fun _ h => h)
/-- THE ONE PURE STATEMENT of laws_FnExactFeedFrom. -/
def laws_FnExactFeedFrom.Pure : Prop := ∀ (l0 : List (S108)) (a1 : Int), (l0.length ≤ 9223372036854775807 ∧ ∀ x ∈ l0, B108 x) → (Lit.int .i64 a1).wf = true → ∃ k, laws_FnExactFeedFrom.f k l0 a1 = some true
end Go.Proofs.Ytkejaolfbejokaa.PFnExactFeedFrom
