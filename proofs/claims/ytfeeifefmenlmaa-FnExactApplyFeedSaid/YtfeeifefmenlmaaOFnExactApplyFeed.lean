-- Written by a program of this session, in the manner of the kit's print (wip/pp.py): functions and their contracts.
import Derived.Test.YtfeeifefmenlmaaPFnExactApplyFeedx12
import Derived.Test.YtfeeifefmenlmaaOpensFnExactApplyFeed
namespace Go.Proofs.Ytfeeifefmenlmaa.PFnExactApplyFeed
open Go.RowKit Go.Proofs.YtfeeifefmenlmaaW.PrintWords Go.Proofs.YtfeeifefmenlmaaW.PrintLast Go.Proofs.YtfeeifefmenlmaaW.PrintMore Go.Proofs.Ytfeeifefmenlmaa.Opens
set_option linter.unusedVariables false
def B104 (x : S104) : Prop := x.f0.size ≤ 9223372036854775807 ∧ (Lit.int .i64 x.f1).wf = true
theorem o104 : Opens Try.prog 104 k104 B104 :=
  (Opens.struct (fun x : S104 => (x.f0, x.f1)) (fun a => ⟨a.1, a.2⟩) Try.underlying104 (by kernel_rfl) (OpensF.cons rfl (Opens.string Try.underlying9 (by kernel_rfl)) (OpensF.one rfl (Opens.int Try.underlying3 (by kernel_rfl)))) (fun _ => rfl)).mono (fun _ h => h)
theorem open104 {w : World} {x : S104} {cs : List Value} (h : k104.K w x cs) : cs = [.string x.f0, .int .i64 x.f1] := by
  obtain ⟨p0, q0, rfl, h0, h1⟩ := h
  have e0 : p0 = [.string x.f0] := h0
  subst e0
  have e1 : q0 = [.int .i64 x.f1] := h1
  subst e1
  exact rfl
def B106 (x : S106) : Prop := (Lit.int .i64 x.f0).wf = true ∧ x.f1.size ≤ 9223372036854775807 ∧ (Lit.int .i64 x.f2).wf = true ∧ (Lit.int .i64 x.f3).wf = true
theorem o106 : Opens Try.prog 106 k106 B106 :=
  (Opens.struct (fun x : S106 => (x.f0, x.f1, x.f2, x.f3)) (fun a => ⟨a.1, a.2.1, a.2.2.1, a.2.2.2⟩) Try.underlying106 (by kernel_rfl) (OpensF.cons rfl (Opens.int Try.underlying3 (by kernel_rfl)) (OpensF.cons rfl (Opens.string Try.underlying9 (by kernel_rfl)) (OpensF.cons rfl (Opens.int Try.underlying3 (by kernel_rfl)) (OpensF.one rfl (Opens.int Try.underlying3 (by kernel_rfl)))))) (fun _ => rfl)).mono (fun _ h => h)
theorem open106 {w : World} {x : S106} {cs : List Value} (h : k106.K w x cs) : cs = [.int .i64 x.f0, .string x.f1, .int .i64 x.f2, .int .i64 x.f3] := by
  obtain ⟨p0, q0, rfl, h0, p1, q1, rfl, h1, p2, q2, rfl, h2, h3⟩ := h
  have e0 : p0 = [.int .i64 x.f0] := h0
  subst e0
  have e1 : p1 = [.string x.f1] := h1
  subst e1
  have e2 : p2 = [.int .i64 x.f2] := h2
  subst e2
  have e3 : q2 = [.int .i64 x.f3] := h3
  subst e3
  exact rfl
/-- THE ONE PURE STATEMENT of laws_FnExactApplyFeed. -/
def laws_FnExactApplyFeed.Pure : Prop := ∀ (l0 : List (S104)) (l1 : List (S106)), (l0.length ≤ 9223372036854775807 ∧ ∀ y_ ∈ l0, B104 y_) → (l1.length ≤ 9223372036854775807 ∧ ∀ y_ ∈ l1, B106 y_) → ∃ k, laws_FnExactApplyFeed.f k l0 l1 = some true
end Go.Proofs.Ytfeeifefmenlmaa.PFnExactApplyFeed
