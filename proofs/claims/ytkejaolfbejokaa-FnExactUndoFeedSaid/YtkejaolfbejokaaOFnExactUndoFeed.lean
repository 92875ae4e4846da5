-- Written by a program of this session, in the manner of the kit's print (wip/pp.py): functions and their contracts.
import Derived.Test.YtkejaolfbejokaaPFnExactUndoFeedx6
import Derived.Test.YtkejaolfbejokaaOpens
namespace Go.Proofs.Ytkejaolfbejokaa.PFnExactUndoFeed
open Go.RowKit Go.Proofs.YtkejaolfbejokaaW.PrintWords Go.Proofs.YtkejaolfbejokaaW.PrintLast Go.Proofs.YtkejaolfbejokaaW.PrintMore Go.Proofs.Ytkejaolfbejokaa.Opens
set_option linter.unusedVariables false
def B108 (x : S108) : Prop := (Lit.int .i64 x.f0).wf = true ∧ x.f1.size ≤ 9223372036854775807 ∧ (Lit.int .i64 x.f2).wf = true ∧ (Lit.int .i64 x.f3).wf = true
theorem o108 : Opens Try.prog 108 k108 B108 :=
  (Opens.struct (fun x : S108 => (x.f0, x.f1, x.f2, x.f3)) (fun a => ⟨a.1, a.2.1, a.2.2.1, a.2.2.2⟩) Try.underlying108 (by kernel_rfl) (OpensF.cons rfl (Opens.int Try.underlying3 (by kernel_rfl)) (OpensF.cons rfl (Opens.string Try.underlying9 (by kernel_rfl)) (OpensF.cons rfl (Opens.int Try.underlying3 (by kernel_rfl)) (OpensF.one rfl (Opens.int Try.underlying3 (by kernel_rfl)))))) (fun _ => rfl)).mono (fun _ h => h)
theorem open108 {w : World} {x : S108} {cs : List Value} (h : k108.K w x cs) : cs = [.int .i64 x.f0, .string x.f1, .int .i64 x.f2, .int .i64 x.f3] := by
  obtain ⟨p0, q0, rfl, h0, p1, q1, rfl, h1, p2, q2, rfl, h2, h3⟩ := h
  have e0 : p0 = [.int .i64 x.f0] := h0
  subst e0
  have e1 : p1 = [.string x.f1] := h1
  subst e1
  have e2 : p2 = [.int .i64 x.f2] := h2
  subst e2
  have e3 : q2 = [.int .i64 x.f3] := h3
  subst e3
  exact rfl
/-- THE ONE PURE STATEMENT of laws_FnExactUndoFeed. -/
def laws_FnExactUndoFeed.Pure : Prop := ∀ (l0 : List (S108)) (a1 : Int), (l0.length ≤ 9223372036854775807 ∧ ∀ y_ ∈ l0, B108 y_) → (Lit.int .i64 a1).wf = true → ∃ k, laws_FnExactUndoFeed.f k l0 a1 = some true
end Go.Proofs.Ytkejaolfbejokaa.PFnExactUndoFeed
