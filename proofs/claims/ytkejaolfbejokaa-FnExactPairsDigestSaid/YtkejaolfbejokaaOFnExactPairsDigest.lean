-- Written by a program of this session, in the manner of the kit's print (wip/pp.py): functions and their contracts.
import Derived.Test.YtkejaolfbejokaaPFnExactPairsDigestx5
import Derived.Test.YtkejaolfbejokaaOpens
namespace Go.Proofs.Ytkejaolfbejokaa.PFnExactPairsDigest
open Go.RowKit Go.Proofs.YtkejaolfbejokaaW.PrintWords Go.Proofs.YtkejaolfbejokaaW.PrintLast Go.Proofs.YtkejaolfbejokaaW.PrintMore Go.Proofs.Ytkejaolfbejokaa.Opens
set_option linter.unusedVariables false
def B103 (x : S103) : Prop := x.f0.size ≤ 9223372036854775807 ∧ (Lit.int .i64 x.f1).wf = true
theorem o103 : Opens Try.prog 103 k103 B103 :=
  (Opens.struct (fun x : S103 => (x.f0, x.f1)) (fun a => ⟨a.1, a.2⟩) Try.underlying103 (by kernel_rfl) (OpensF.cons rfl (Opens.string Try.underlying9 (by kernel_rfl)) (OpensF.one rfl (Opens.int Try.underlying3 (by kernel_rfl)))) (fun _ => rfl)).mono (fun _ h => h)
/-- THE ONE PURE STATEMENT of laws_FnExactPairsDigest. -/
def laws_FnExactPairsDigest.Pure : Prop := ∀ (l0 : List (S103)), (l0.length ≤ 9223372036854775807 ∧ ∀ x ∈ l0, B103 x) → ∃ k, laws_FnExactPairsDigest.f k l0 = some true
end Go.Proofs.Ytkejaolfbejokaa.PFnExactPairsDigest
