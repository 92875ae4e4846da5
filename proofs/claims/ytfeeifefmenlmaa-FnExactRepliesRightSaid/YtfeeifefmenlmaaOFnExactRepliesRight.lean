-- Written by a program of this session, in the manner of the kit's print (wip/pp.py): functions and their contracts.
import Derived.Test.YtfeeifefmenlmaaPFnExactRepliesRightx11
import Derived.Test.YtfeeifefmenlmaaOpensFnExactRepliesRight
namespace Go.Proofs.Ytfeeifefmenlmaa.PFnExactRepliesRight
open Go.RowKit Go.Proofs.YtfeeifefmenlmaaW.PrintWords Go.Proofs.YtfeeifefmenlmaaW.PrintLast Go.Proofs.YtfeeifefmenlmaaW.PrintMore Go.Proofs.Ytfeeifefmenlmaa.Opens
set_option linter.unusedVariables false
def B133 (x : S133) : Prop := (Lit.int .i64 x.f0).wf = true ∧ x.f1.size ≤ 9223372036854775807 ∧ (Lit.int .i64 x.f2).wf = true ∧ (Lit.int .i64 x.f3).wf = true
theorem o133 : Opens Try.prog 133 k133 B133 :=
  (Opens.struct (fun x : S133 => (x.f0, x.f1, x.f2, x.f3)) (fun a => ⟨a.1, a.2.1, a.2.2.1, a.2.2.2⟩) Try.underlying133 (by kernel_rfl) (OpensF.cons rfl (Opens.int Try.underlying3 (by kernel_rfl)) (OpensF.cons rfl (Opens.string Try.underlying9 (by kernel_rfl)) (OpensF.cons rfl (Opens.int Try.underlying3 (by kernel_rfl)) (OpensF.one rfl (Opens.int Try.underlying3 (by kernel_rfl)))))) (fun _ => rfl)).mono (fun _ h => h)
theorem open133 {w : World} {x : S133} {cs : List Value} (h : k133.K w x cs) : cs = [.int .i64 x.f0, .string x.f1, .int .i64 x.f2, .int .i64 x.f3] := by
  obtain ⟨p0, q0, rfl, h0, p1, q1, rfl, h1, p2, q2, rfl, h2, h3⟩ := h
  have e0 : p0 = [.int .i64 x.f0] := h0
  subst e0
  have e1 : p1 = [.string x.f1] := h1
  subst e1
  have e2 : p2 = [.int .i64 x.f2] := h2
  subst e2
  have e3 : q2 = [.int .i64 x.f3] := h3
  subst e3
  exact rfl
def B135 (x : S135) : Prop := (Lit.int .i64 x.f0).wf = true ∧ (Lit.int .i64 x.f1).wf = true ∧ B133 x.f2 ∧ (Lit.int .i64 x.f3).wf = true ∧ (Lit.int .i64 x.f4).wf = true ∧ (Lit.int .i64 x.f5).wf = true
theorem o135 : Opens Try.prog 135 k135 B135 :=
  (Opens.struct (fun x : S135 => (x.f0, x.f1, x.f2, x.f3, x.f4, x.f5)) (fun a => ⟨a.1, a.2.1, a.2.2.1, a.2.2.2.1, a.2.2.2.2.1, a.2.2.2.2.2⟩) Try.underlying135 (by kernel_rfl) (OpensF.cons rfl (Opens.int Try.underlying3 (by kernel_rfl)) (OpensF.cons rfl (Opens.int Try.underlying3 (by kernel_rfl)) (OpensF.cons rfl o133 (OpensF.cons rfl (Opens.int Try.underlying3 (by kernel_rfl)) (OpensF.cons rfl (Opens.int Try.underlying3 (by kernel_rfl)) (OpensF.one rfl (Opens.int Try.underlying3 (by kernel_rfl)))))))) (fun _ => rfl)).mono (fun _ h => h)
theorem open135 {w : World} {x : S135} {cs : List Value} (h : k135.K w x cs) : cs = [.int .i64 x.f0, .int .i64 x.f1, .int .i64 x.f2.f0, .string x.f2.f1, .int .i64 x.f2.f2, .int .i64 x.f2.f3, .int .i64 x.f3, .int .i64 x.f4, .int .i64 x.f5] := by
  obtain ⟨p0, q0, rfl, h0, p1, q1, rfl, h1, p2, q2, rfl, h2, p3, q3, rfl, h3, p4, q4, rfl, h4, h5⟩ := h
  have e0 : p0 = [.int .i64 x.f0] := h0
  subst e0
  have e1 : p1 = [.int .i64 x.f1] := h1
  subst e1
  obtain rfl := open133 h2
  have e3 : p3 = [.int .i64 x.f3] := h3
  subst e3
  have e4 : p4 = [.int .i64 x.f4] := h4
  subst e4
  have e5 : q4 = [.int .i64 x.f5] := h5
  subst e5
  exact rfl
/-- THE ONE PURE STATEMENT of laws_FnExactRepliesRight. -/
def laws_FnExactRepliesRight.Pure : Prop := ∀ (l0 : List (S135)) (l1 : List Int), (l0.length ≤ 9223372036854775807 ∧ ∀ y_ ∈ l0, B135 y_) → (l1.length ≤ 9223372036854775807 ∧ ∀ y_ ∈ l1, (Lit.int .i64 y_).wf = true) → ∃ k, laws_FnExactRepliesRight.f k l0 l1 = some true
end Go.Proofs.Ytfeeifefmenlmaa.PFnExactRepliesRight
