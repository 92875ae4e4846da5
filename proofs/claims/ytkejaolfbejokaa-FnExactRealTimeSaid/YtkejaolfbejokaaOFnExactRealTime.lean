-- Written by a program of this session, in the manner of the kit's print (wip/pp.py): functions and their contracts.
import Derived.Test.YtkejaolfbejokaaPFnExactRealTimex7
import Derived.Test.YtkejaolfbejokaaOpens
namespace Go.Proofs.Ytkejaolfbejokaa.PFnExactRealTime
open Go.RowKit Go.Proofs.YtkejaolfbejokaaW.PrintWords Go.Proofs.YtkejaolfbejokaaW.PrintLast Go.Proofs.YtkejaolfbejokaaW.PrintMore Go.Proofs.Ytkejaolfbejokaa.Opens
set_option linter.unusedVariables false
def B116 (x : S116) : Prop := (Lit.int .i64 x.f0).wf = true ∧ x.f1.size ≤ 9223372036854775807 ∧ (Lit.int .i64 x.f2).wf = true ∧ (Lit.int .i64 x.f3).wf = true
theorem o116 : Opens Try.prog 116 k116 B116 :=
  (Opens.struct (fun x : S116 => (x.f0, x.f1, x.f2, x.f3)) (fun a => ⟨a.1, a.2.1, a.2.2.1, a.2.2.2⟩) Try.underlying116 (by kernel_rfl) (OpensF.cons rfl (Opens.int Try.underlying3 (by kernel_rfl)) (OpensF.cons rfl (Opens.string Try.underlying9 (by kernel_rfl)) (OpensF.cons rfl (Opens.int Try.underlying3 (by kernel_rfl)) (OpensF.one rfl (Opens.int Try.underlying3 (by kernel_rfl)))))) (fun _ => rfl)).mono (fun _ h => h)
def B118 (x : S118) : Prop := (Lit.int .i64 x.f0).wf = true ∧ (Lit.int .i64 x.f1).wf = true ∧ B116 x.f2 ∧ (Lit.int .i64 x.f3).wf = true ∧ (Lit.int .i64 x.f4).wf = true ∧ (Lit.int .i64 x.f5).wf = true
theorem o118 : Opens Try.prog 118 k118 B118 :=
  (Opens.struct (fun x : S118 => (x.f0, x.f1, x.f2, x.f3, x.f4, x.f5)) (fun a => ⟨a.1, a.2.1, a.2.2.1, a.2.2.2.1, a.2.2.2.2.1, a.2.2.2.2.2⟩) Try.underlying118 (by kernel_rfl) (OpensF.cons rfl (Opens.int Try.underlying3 (by kernel_rfl)) (OpensF.cons rfl (Opens.int Try.underlying3 (by kernel_rfl)) (OpensF.cons rfl o116 (OpensF.cons rfl (Opens.int Try.underlying3 (by kernel_rfl)) (OpensF.cons rfl (Opens.int Try.underlying3 (by kernel_rfl)) (OpensF.one rfl (Opens.int Try.underlying3 (by kernel_rfl)))))))) (fun _ => rfl)).mono (fun _ h => h)
/-- THE ONE PURE STATEMENT of laws_FnExactRealTime. -/
def laws_FnExactRealTime.Pure : Prop := ∀ (l0 : List (S118)) (l1 : List Int), (l0.length ≤ 9223372036854775807 ∧ ∀ x ∈ l0, B118 x) → (l1.length ≤ 9223372036854775807 ∧ ∀ x ∈ l1, (Lit.int .i64 x).wf = true) → ∃ k, laws_FnExactRealTime.f k l0 l1 = some true
end Go.Proofs.Ytkejaolfbejokaa.PFnExactRealTime
