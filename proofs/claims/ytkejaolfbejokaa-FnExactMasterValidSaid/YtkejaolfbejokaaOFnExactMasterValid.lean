-- Written by a program of this session, in the manner of the kit's print (wip/pp.py): functions and their contracts.
import Derived.Test.YtkejaolfbejokaaPFnExactMasterValidx13
import Derived.Test.YtkejaolfbejokaaOpens
namespace Go.Proofs.Ytkejaolfbejokaa.PFnExactMasterValid
open Go.RowKit Go.Proofs.YtkejaolfbejokaaW.PrintWords Go.Proofs.YtkejaolfbejokaaW.PrintLast Go.Proofs.YtkejaolfbejokaaW.PrintMore Go.Proofs.Ytkejaolfbejokaa.Opens
set_option linter.unusedVariables false
def B150 (x : S150) : Prop := x.f0.size ≤ 9223372036854775807 ∧ x.f1.size ≤ 9223372036854775807
theorem o150 : Opens Try.prog 150 k150 B150 :=
  (Opens.struct (fun x : S150 => (x.f0, x.f1)) (fun a => ⟨a.1, a.2⟩) Try.underlying150 (by kernel_rfl) (OpensF.cons rfl (Opens.string Try.underlying9 (by kernel_rfl)) (OpensF.one rfl (Opens.string Try.underlying9 (by kernel_rfl)))) (fun _ => rfl)).mono (fun _ h => h)
theorem open150 {w : World} {x : S150} {cs : List Value} (h : k150.K w x cs) : cs = [.string x.f0, .string x.f1] := by
  obtain ⟨p0, q0, rfl, h0, h1⟩ := h
  have e0 : p0 = [.string x.f0] := h0
  subst e0
  have e1 : q0 = [.string x.f1] := h1
  subst e1
  exact rfl
def B162 (x : S162) : Prop := (Lit.int .i64 x.f0).wf = true ∧ B150 x.f1
theorem o162 : Opens Try.prog 162 k162 B162 :=
  (Opens.struct (fun x : S162 => (x.f0, x.f1)) (fun a => ⟨a.1, a.2⟩) Try.underlying162 (by kernel_rfl) (OpensF.cons rfl (Opens.int Try.underlying3 (by kernel_rfl)) (OpensF.one rfl o150)) (fun _ => rfl)).mono (fun _ h => h)
theorem open162 {w : World} {x : S162} {cs : List Value} (h : k162.K w x cs) : cs = [.int .i64 x.f0, .string x.f1.f0, .string x.f1.f1] := by
  obtain ⟨p0, q0, rfl, h0, h1⟩ := h
  have e0 : p0 = [.int .i64 x.f0] := h0
  subst e0
  obtain rfl := open150 h1
  exact rfl
structure S58 where
  f0 : Int
  f1 : Int
  f2 : Int
  f3 : ByteArray
  f4 : Int
  f5 : Int
  f6 : Int
def k58 : Kd S58 := Kd.iso (Kd.pair (Kd.int .i64) (Kd.pair (Kd.int .i64) (Kd.pair (Kd.int .i64) (Kd.pair Kd.string (Kd.pair (Kd.int .i64) (Kd.pair (Kd.int .i64) (Kd.int .i64))))))) (fun x : S58 => (x.f0, x.f1, x.f2, x.f3, x.f4, x.f5, x.f6))
def B58 (x : S58) : Prop := (Lit.int .i64 x.f0).wf = true ∧ (Lit.int .i64 x.f1).wf = true ∧ (Lit.int .i64 x.f2).wf = true ∧ x.f3.size ≤ 9223372036854775807 ∧ (Lit.int .i64 x.f4).wf = true ∧ (Lit.int .i64 x.f5).wf = true ∧ (Lit.int .i64 x.f6).wf = true
theorem o58 : Opens Try.prog 58 k58 B58 :=
  (Opens.struct (fun x : S58 => (x.f0, x.f1, x.f2, x.f3, x.f4, x.f5, x.f6)) (fun a => ⟨a.1, a.2.1, a.2.2.1, a.2.2.2.1, a.2.2.2.2.1, a.2.2.2.2.2.1, a.2.2.2.2.2.2⟩) Try.underlying58 (by kernel_rfl) (OpensF.cons rfl (Opens.int Try.underlying3 (by kernel_rfl)) (OpensF.cons rfl (Opens.int Try.underlying3 (by kernel_rfl)) (OpensF.cons rfl (Opens.int Try.underlying3 (by kernel_rfl)) (OpensF.cons rfl (Opens.string Try.underlying9 (by kernel_rfl)) (OpensF.cons rfl (Opens.int Try.underlying3 (by kernel_rfl)) (OpensF.cons rfl (Opens.int Try.underlying3 (by kernel_rfl)) (OpensF.one rfl (Opens.int Try.underlying3 (by kernel_rfl))))))))) (fun _ => rfl)).mono (fun _ h => h)
theorem open58 {w : World} {x : S58} {cs : List Value} (h : k58.K w x cs) : cs = [.int .i64 x.f0, .int .i64 x.f1, .int .i64 x.f2, .string x.f3, .int .i64 x.f4, .int .i64 x.f5, .int .i64 x.f6] := by
  obtain ⟨p0, q0, rfl, h0, p1, q1, rfl, h1, p2, q2, rfl, h2, p3, q3, rfl, h3, p4, q4, rfl, h4, p5, q5, rfl, h5, h6⟩ := h
  have e0 : p0 = [.int .i64 x.f0] := h0
  subst e0
  have e1 : p1 = [.int .i64 x.f1] := h1
  subst e1
  have e2 : p2 = [.int .i64 x.f2] := h2
  subst e2
  have e3 : p3 = [.string x.f3] := h3
  subst e3
  have e4 : p4 = [.int .i64 x.f4] := h4
  subst e4
  have e5 : p5 = [.int .i64 x.f5] := h5
  subst e5
  have e6 : q5 = [.int .i64 x.f6] := h6
  subst e6
  exact rfl
structure S60 where
  f0 : List (S162)
  f1 : Int
  f2 : S58
  f3 : Int
def k60 : Kd S60 := Kd.iso (Kd.pair (Kd.slice 162 k162) (Kd.pair (Kd.int .i64) (Kd.pair k58 (Kd.int .i64)))) (fun x : S60 => (x.f0, x.f1, x.f2, x.f3))
def B60 (x : S60) : Prop := (x.f0.length ≤ 9223372036854775807 ∧ ∀ y_ ∈ x.f0, B162 y_) ∧ (Lit.int .i64 x.f1).wf = true ∧ B58 x.f2 ∧ (Lit.int .i64 x.f3).wf = true
theorem o60 : Opens Try.prog 60 k60 B60 :=
  (Opens.struct (fun x : S60 => (x.f0, x.f1, x.f2, x.f3)) (fun a => ⟨a.1, a.2.1, a.2.2.1, a.2.2.2⟩) Try.underlying60 (by kernel_rfl) (OpensF.cons rfl (Opens.slice (e' := 162) Try.underlying56 (by kernel_rfl) o162) (OpensF.cons rfl (Opens.int Try.underlying3 (by kernel_rfl)) (OpensF.cons rfl o58 (OpensF.one rfl (Opens.int Try.underlying3 (by kernel_rfl)))))) (fun _ => rfl)).mono (fun _ h => h)
theorem open60 {w : World} {x : S60} {cs : List Value} (h : k60.K w x cs) : ∃ (A0_ : Option Addr) (c0_ : Nat), cs = [.slice A0_ x.f0.length c0_, .int .i64 x.f1, .int .i64 x.f2.f0, .int .i64 x.f2.f1, .int .i64 x.f2.f2, .string x.f2.f3, .int .i64 x.f2.f4, .int .i64 x.f2.f5, .int .i64 x.f2.f6, .int .i64 x.f3] ∧ x.f0.length ≤ c0_ ∧ Kd.C k162 w A0_ x.f0.length x.f0 := by
  obtain ⟨p0, q0, rfl, h0, p1, q1, rfl, h1, p2, q2, rfl, h2, h3⟩ := h
  obtain ⟨A0_, c0_, rfl, hl0, hC0⟩ := h0
  have e1 : p1 = [.int .i64 x.f1] := h1
  subst e1
  obtain rfl := open58 h2
  have e3 : q2 = [.int .i64 x.f3] := h3
  subst e3
  exact ⟨A0_, c0_, rfl, hl0, hC0⟩
/-- THE ONE PURE STATEMENT of laws_FnExactMasterValid. -/
def laws_FnExactMasterValid.Pure : Prop := ∀ (l0_0 : List (S162)) (a0_1 : Int) (a0_2 : Int) (a0_3 : Int) (a0_4 : Int) (a0_5 : ByteArray) (a0_6 : Int) (a0_7 : Int) (a0_8 : Int) (a0_9 : Int), (l0_0.length ≤ 9223372036854775807 ∧ ∀ y_ ∈ l0_0, B162 y_) → (Lit.int .i64 a0_1).wf = true → (Lit.int .i64 a0_2).wf = true → (Lit.int .i64 a0_3).wf = true → (Lit.int .i64 a0_4).wf = true → a0_5.size ≤ 9223372036854775807 → (Lit.int .i64 a0_6).wf = true → (Lit.int .i64 a0_7).wf = true → (Lit.int .i64 a0_8).wf = true → (Lit.int .i64 a0_9).wf = true → ∃ k, laws_FnExactMasterValid.f k l0_0 a0_1 a0_2 a0_3 a0_4 a0_5 a0_6 a0_7 a0_8 a0_9 = some true
end Go.Proofs.Ytkejaolfbejokaa.PFnExactMasterValid
