-- Written by a program of this session, in the manner of the kit's print (wip/pp.py): functions and their contracts.
import Derived.Test.YtcciackemicbbaaDoorPFnExactRoutesTextx5
import Derived.Test.YtcciackemicbbaaDoorOpens
namespace Go.Proofs.YtcciackemicbbaaDoor.PFnExactRoutesText
open Go.RowKit Go.Proofs.YtcciackemicbbaaDoorW.PrintWords Go.Proofs.YtcciackemicbbaaDoorW.PrintLast Go.Proofs.YtcciackemicbbaaDoorW.PrintMore Go.Proofs.YtcciackemicbbaaDoor.Opens
set_option linter.unusedVariables false
def B37 (x : S37) : Prop := x.f0.size ≤ 9223372036854775807 ∧ x.f1.size ≤ 9223372036854775807
theorem o37 : Opens Tryd.prog 37 k37 B37 :=
  (Opens.struct (fun x : S37 => (x.f0, x.f1)) (fun a => ⟨a.1, a.2⟩) Tryd.underlying37 (by kernel_rfl) (OpensF.cons rfl (Opens.string Tryd.underlying9 (by kernel_rfl)) (OpensF.one rfl (Opens.string Tryd.underlying9 (by kernel_rfl)))) (fun _ => rfl)).mono (fun _ h => h)
theorem open37 {w : World} {x : S37} {cs : List Value} (h : k37.K w x cs) : cs = [.string x.f0, .string x.f1] := by
  obtain ⟨p0, q0, rfl, h0, h1⟩ := h
  have e0 : p0 = [.string x.f0] := h0
  subst e0
  have e1 : q0 = [.string x.f1] := h1
  subst e1
  exact rfl
def B39 (x : S39) : Prop := (Lit.int .i64 x.f0).wf = true ∧ B37 x.f1
theorem o39 : Opens Tryd.prog 39 k39 B39 :=
  (Opens.struct (fun x : S39 => (x.f0, x.f1)) (fun a => ⟨a.1, a.2⟩) Tryd.underlying39 (by kernel_rfl) (OpensF.cons rfl (Opens.int Tryd.underlying3 (by kernel_rfl)) (OpensF.one rfl o37)) (fun _ => rfl)).mono (fun _ h => h)
theorem open39 {w : World} {x : S39} {cs : List Value} (h : k39.K w x cs) : cs = [.int .i64 x.f0, .string x.f1.f0, .string x.f1.f1] := by
  obtain ⟨p0, q0, rfl, h0, h1⟩ := h
  have e0 : p0 = [.int .i64 x.f0] := h0
  subst e0
  obtain rfl := open37 h1
  exact rfl
/-- THE ONE PURE STATEMENT of laws_FnExactRoutesText. -/
def laws_FnExactRoutesText.Pure : Prop := ∀ (l0 : List (S39)), (l0.length ≤ 9223372036854775807 ∧ ∀ y_ ∈ l0, B39 y_) → ∃ k, laws_FnExactRoutesText.f k l0 = some true
end Go.Proofs.YtcciackemicbbaaDoor.PFnExactRoutesText
