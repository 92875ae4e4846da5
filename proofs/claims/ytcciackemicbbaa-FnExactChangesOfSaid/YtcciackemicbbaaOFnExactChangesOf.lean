-- Written by a program of this session, in the manner of the kit's print (wip/pp.py): functions and their contracts.
import Derived.Test.YtcciackemicbbaaPFnExactChangesOfx20
import Derived.Test.YtcciackemicbbaaOpensFnExactChangesOf
namespace Go.Proofs.Ytcciackemicbbaa.PFnExactChangesOf
open Go.RowKit Go.Proofs.YtcciackemicbbaaW.PrintWords Go.Proofs.YtcciackemicbbaaW.PrintLast Go.Proofs.YtcciackemicbbaaW.PrintMore Go.Proofs.Ytcciackemicbbaa.Opens
set_option linter.unusedVariables false
structure S75 where
  f0 : ByteArray
  f1 : ByteArray
def k75 : Kd S75 := Kd.iso (Kd.pair Kd.string Kd.string) (fun x : S75 => (x.f0, x.f1))
def B75 (x : S75) : Prop := x.f0.size ≤ 9223372036854775807 ∧ x.f1.size ≤ 9223372036854775807
theorem o75 : Opens Try.prog 75 k75 B75 :=
  (Opens.struct (fun x : S75 => (x.f0, x.f1)) (fun a => ⟨a.1, a.2⟩) Try.underlying75 (by kernel_rfl) (OpensF.cons rfl (Opens.string Try.underlying9 (by kernel_rfl)) (OpensF.one rfl (Opens.string Try.underlying9 (by kernel_rfl)))) (fun _ => rfl)).mono (fun _ h => h)
theorem open75 {w : World} {x : S75} {cs : List Value} (h : k75.K w x cs) : cs = [.string x.f0, .string x.f1] := by
  obtain ⟨p0, q0, rfl, h0, h1⟩ := h
  have e0 : p0 = [.string x.f0] := h0
  subst e0
  have e1 : q0 = [.string x.f1] := h1
  subst e1
  exact rfl
def B215 (x : S215) : Prop := x.f0.size ≤ 9223372036854775807 ∧ (Lit.int .i64 x.f1).wf = true
theorem o215 : Opens Try.prog 215 k215 B215 :=
  (Opens.struct (fun x : S215 => (x.f0, x.f1)) (fun a => ⟨a.1, a.2⟩) Try.underlying215 (by kernel_rfl) (OpensF.cons rfl (Opens.string Try.underlying9 (by kernel_rfl)) (OpensF.one rfl (Opens.int Try.underlying3 (by kernel_rfl)))) (fun _ => rfl)).mono (fun _ h => h)
theorem open215 {w : World} {x : S215} {cs : List Value} (h : k215.K w x cs) : cs = [.string x.f0, .int .i64 x.f1] := by
  obtain ⟨p0, q0, rfl, h0, h1⟩ := h
  have e0 : p0 = [.string x.f0] := h0
  subst e0
  have e1 : q0 = [.int .i64 x.f1] := h1
  subst e1
  exact rfl
def B225 (x : S225) : Prop := (Lit.int .i64 x.f0).wf = true ∧ (Lit.int .i64 x.f1).wf = true ∧ (Lit.int .i64 x.f2).wf = true
theorem o225 : Opens Try.prog 225 k225 B225 :=
  (Opens.struct (fun x : S225 => (x.f0, x.f1, x.f2)) (fun a => ⟨a.1, a.2.1, a.2.2⟩) Try.underlying225 (by kernel_rfl) (OpensF.cons rfl (Opens.int Try.underlying3 (by kernel_rfl)) (OpensF.cons rfl (Opens.int Try.underlying3 (by kernel_rfl)) (OpensF.one rfl (Opens.int Try.underlying3 (by kernel_rfl))))) (fun _ => rfl)).mono (fun _ h => h)
theorem open225 {w : World} {x : S225} {cs : List Value} (h : k225.K w x cs) : cs = [.int .i64 x.f0, .int .i64 x.f1, .int .i64 x.f2] := by
  obtain ⟨p0, q0, rfl, h0, p1, q1, rfl, h1, h2⟩ := h
  have e0 : p0 = [.int .i64 x.f0] := h0
  subst e0
  have e1 : p1 = [.int .i64 x.f1] := h1
  subst e1
  have e2 : q1 = [.int .i64 x.f2] := h2
  subst e2
  exact rfl
structure S79 where
  f0 : S75
  f1 : List (S215)
  f2 : List (S225)
  f3 : Bool
  f4 : ByteArray
def k79 : Kd S79 := Kd.iso (Kd.pair k75 (Kd.pair (Kd.slice 215 k215) (Kd.pair (Kd.slice 225 k225) (Kd.pair Kd.bool Kd.string)))) (fun x : S79 => (x.f0, x.f1, x.f2, x.f3, x.f4))
def B79 (x : S79) : Prop := B75 x.f0 ∧ (x.f1.length ≤ 9223372036854775807 ∧ ∀ y_ ∈ x.f1, B215 y_) ∧ (x.f2.length ≤ 9223372036854775807 ∧ ∀ y_ ∈ x.f2, B225 y_) ∧ True ∧ x.f4.size ≤ 9223372036854775807
theorem o79 : Opens Try.prog 79 k79 B79 :=
  (Opens.struct (fun x : S79 => (x.f0, x.f1, x.f2, x.f3, x.f4)) (fun a => ⟨a.1, a.2.1, a.2.2.1, a.2.2.2.1, a.2.2.2.2⟩) Try.underlying79 (by kernel_rfl) (OpensF.cons rfl o75 (OpensF.cons rfl (Opens.slice (e' := 215) Try.underlying76 (by kernel_rfl) o215) (OpensF.cons rfl (Opens.slice (e' := 225) Try.underlying77 (by kernel_rfl) o225) (OpensF.cons rfl (Opens.bool Try.underlying4 (by kernel_rfl)) (OpensF.one rfl (Opens.string Try.underlying9 (by kernel_rfl))))))) (fun _ => rfl)).mono (fun _ h => h)
theorem open79 {w : World} {x : S79} {cs : List Value} (h : k79.K w x cs) : ∃ (A0_ : Option Addr) (c0_ : Nat) (A1_ : Option Addr) (c1_ : Nat), cs = [.string x.f0.f0, .string x.f0.f1, .slice A0_ x.f1.length c0_, .slice A1_ x.f2.length c1_, .bool x.f3, .string x.f4] ∧ x.f1.length ≤ c0_ ∧ Kd.C k215 w A0_ x.f1.length x.f1 ∧ x.f2.length ≤ c1_ ∧ Kd.C k225 w A1_ x.f2.length x.f2 := by
  obtain ⟨p0, q0, rfl, h0, p1, q1, rfl, h1, p2, q2, rfl, h2, p3, q3, rfl, h3, h4⟩ := h
  obtain rfl := open75 h0
  obtain ⟨A0_, c0_, rfl, hl0, hC0⟩ := h1
  obtain ⟨A1_, c1_, rfl, hl1, hC1⟩ := h2
  have e3 : p3 = [.bool x.f3] := h3
  subst e3
  have e4 : q3 = [.string x.f4] := h4
  subst e4
  exact ⟨A0_, c0_, A1_, c1_, rfl, hl0, hC0, hl1, hC1⟩
def B125 (x : S125) : Prop := (Lit.int .i64 x.f0).wf = true ∧ x.f1.size ≤ 9223372036854775807 ∧ (Lit.int .i64 x.f2).wf = true ∧ (Lit.int .i64 x.f3).wf = true
theorem o125 : Opens Try.prog 125 k125 B125 :=
  (Opens.struct (fun x : S125 => (x.f0, x.f1, x.f2, x.f3)) (fun a => ⟨a.1, a.2.1, a.2.2.1, a.2.2.2⟩) Try.underlying125 (by kernel_rfl) (OpensF.cons rfl (Opens.int Try.underlying3 (by kernel_rfl)) (OpensF.cons rfl (Opens.string Try.underlying9 (by kernel_rfl)) (OpensF.cons rfl (Opens.int Try.underlying3 (by kernel_rfl)) (OpensF.one rfl (Opens.int Try.underlying3 (by kernel_rfl)))))) (fun _ => rfl)).mono (fun _ h => h)
theorem open125 {w : World} {x : S125} {cs : List Value} (h : k125.K w x cs) : cs = [.int .i64 x.f0, .string x.f1, .int .i64 x.f2, .int .i64 x.f3] := by
  obtain ⟨p0, q0, rfl, h0, p1, q1, rfl, h1, p2, q2, rfl, h2, h3⟩ := h
  have e0 : p0 = [.int .i64 x.f0] := h0
  subst e0
  have e1 : p1 = [.string x.f1] := h1
  subst e1
  have e2 : p2 = [.int .i64 x.f2] := h2
  subst e2
  have e3 : q2 = [.int .i64 x.f3] := h3
  subst e3
  exact rfl
def B159 (x : S159) : Prop := (Lit.int .i64 x.f0).wf = true ∧ (Lit.int .i64 x.f1).wf = true ∧ B125 x.f2
theorem o159 : Opens Try.prog 159 k159 B159 :=
  (Opens.struct (fun x : S159 => (x.f0, x.f1, x.f2)) (fun a => ⟨a.1, a.2.1, a.2.2⟩) Try.underlying159 (by kernel_rfl) (OpensF.cons rfl (Opens.int Try.underlying3 (by kernel_rfl)) (OpensF.cons rfl (Opens.int Try.underlying3 (by kernel_rfl)) (OpensF.one rfl o125))) (fun _ => rfl)).mono (fun _ h => h)
theorem open159 {w : World} {x : S159} {cs : List Value} (h : k159.K w x cs) : cs = [.int .i64 x.f0, .int .i64 x.f1, .int .i64 x.f2.f0, .string x.f2.f1, .int .i64 x.f2.f2, .int .i64 x.f2.f3] := by
  obtain ⟨p0, q0, rfl, h0, p1, q1, rfl, h1, h2⟩ := h
  have e0 : p0 = [.int .i64 x.f0] := h0
  subst e0
  have e1 : p1 = [.int .i64 x.f1] := h1
  subst e1
  obtain rfl := open125 h2
  exact rfl
/-- THE ONE PURE STATEMENT of laws_FnExactChangesOf. -/
def laws_FnExactChangesOf.Pure : Prop := ∀ (a0_0 : ByteArray) (a0_1 : ByteArray) (l0_2 : List (S215)) (l0_3 : List (S225)) (a0_4 : Bool) (a0_5 : ByteArray) (l1 : List (S159)), a0_0.size ≤ 9223372036854775807 → a0_1.size ≤ 9223372036854775807 → (l0_2.length ≤ 9223372036854775807 ∧ ∀ y_ ∈ l0_2, B215 y_) → (l0_3.length ≤ 9223372036854775807 ∧ ∀ y_ ∈ l0_3, B225 y_) → a0_5.size ≤ 9223372036854775807 → (l1.length ≤ 9223372036854775807 ∧ ∀ y_ ∈ l1, B159 y_) → ∃ k, laws_FnExactChangesOf.f k a0_0 a0_1 l0_2 l0_3 a0_4 a0_5 l1 = some true
end Go.Proofs.Ytcciackemicbbaa.PFnExactChangesOf
