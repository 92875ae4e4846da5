-- Written by a program of this session, in the manner of the kit's print (wip/pp.py): functions and their contracts.
import Derived.Test.YtcciackemicbbaaPFnExactFindOrderx11
import Derived.Test.YtcciackemicbbaaOpensFnExactFindOrder
namespace Go.Proofs.Ytcciackemicbbaa.PFnExactFindOrder
open Go.RowKit Go.Proofs.YtcciackemicbbaaW.PrintWords Go.Proofs.YtcciackemicbbaaW.PrintLast Go.Proofs.YtcciackemicbbaaW.PrintMore Go.Proofs.Ytcciackemicbbaa.Opens
set_option linter.unusedVariables false
def B125 (x : S125) : Prop := (Lit.int .i64 x.f0).wf = true ∧ x.f1.size ≤ 9223372036854775807 ∧ (Lit.int .i64 x.f2).wf = true ∧ (Lit.int .i64 x.f3).wf = true
theorem o125 : Opens Try.prog 125 k125 B125 :=
  (Opens.struct (fun x : S125 => (x.f0, x.f1, x.f2, x.f3)) (fun a => ⟨a.1, a.2.1, a.2.2.1, a.2.2.2⟩) Try.underlying125 (by kernel_rfl) (OpensF.cons rfl (Opens.int Try.underlying3 (by kernel_rfl)) (OpensF.cons rfl (Opens.string Try.underlying9 (by kernel_rfl)) (OpensF.cons rfl (Opens.int Try.underlying3 (by kernel_rfl)) (OpensF.one rfl (Opens.int Try.underlying3 (by kernel_rfl)))))) (fun _ => rfl)).mono (fun _ h => h)
theorem open125 {w : World} {x : S125} {cs : List Value} (h : k125.K w x cs) : cs = [.int .i64 x.f0, .string x.f1, .int .i64 x.f2, .int .i64 x.f3] := by
  obtain ⟨p0, q0, rfl, h0, p1, q1, rfl, h1, p2, q2, rfl, h2, h3⟩ := h
  have e0 : p0 = [.int .i64 x.f0] := h0
  subst e0
  have e1 : p1 = [.string x.f1] := h1
  subst e1
  have e2 : p2 = [.int .i64 x.f2] := h2
  subst e2
  have e3 : q2 = [.int .i64 x.f3] := h3
  subst e3
  exact rfl
def B127 (x : S127) : Prop := (Lit.int .i64 x.f0).wf = true ∧ (Lit.int .i64 x.f1).wf = true ∧ B125 x.f2 ∧ (Lit.int .i64 x.f3).wf = true ∧ (Lit.int .i64 x.f4).wf = true ∧ (Lit.int .i64 x.f5).wf = true
theorem o127 : Opens Try.prog 127 k127 B127 :=
  (Opens.struct (fun x : S127 => (x.f0, x.f1, x.f2, x.f3, x.f4, x.f5)) (fun a => ⟨a.1, a.2.1, a.2.2.1, a.2.2.2.1, a.2.2.2.2.1, a.2.2.2.2.2⟩) Try.underlying127 (by kernel_rfl) (OpensF.cons rfl (Opens.int Try.underlying3 (by kernel_rfl)) (OpensF.cons rfl (Opens.int Try.underlying3 (by kernel_rfl)) (OpensF.cons rfl o125 (OpensF.cons rfl (Opens.int Try.underlying3 (by kernel_rfl)) (OpensF.cons rfl (Opens.int Try.underlying3 (by kernel_rfl)) (OpensF.one rfl (Opens.int Try.underlying3 (by kernel_rfl)))))))) (fun _ => rfl)).mono (fun _ h => h)
theorem open127 {w : World} {x : S127} {cs : List Value} (h : k127.K w x cs) : cs = [.int .i64 x.f0, .int .i64 x.f1, .int .i64 x.f2.f0, .string x.f2.f1, .int .i64 x.f2.f2, .int .i64 x.f2.f3, .int .i64 x.f3, .int .i64 x.f4, .int .i64 x.f5] := by
  obtain ⟨p0, q0, rfl, h0, p1, q1, rfl, h1, p2, q2, rfl, h2, p3, q3, rfl, h3, p4, q4, rfl, h4, h5⟩ := h
  have e0 : p0 = [.int .i64 x.f0] := h0
  subst e0
  have e1 : p1 = [.int .i64 x.f1] := h1
  subst e1
  obtain rfl := open125 h2
  have e3 : p3 = [.int .i64 x.f3] := h3
  subst e3
  have e4 : p4 = [.int .i64 x.f4] := h4
  subst e4
  have e5 : q4 = [.int .i64 x.f5] := h5
  subst e5
  exact rfl
/-- THE ONE PURE STATEMENT of laws_FnExactFindOrder. -/
def laws_FnExactFindOrder.Pure : Prop := ∀ (l0 : List (S127)), (l0.length ≤ 9223372036854775807 ∧ ∀ y_ ∈ l0, B127 y_) → ∃ k, laws_FnExactFindOrder.f k l0 = some true
end Go.Proofs.Ytcciackemicbbaa.PFnExactFindOrder
