-- Written by a program of this session, in the manner of the kit's print (wip/pp.py): functions and their contracts.
import Derived.Test.YtkejaolfbejokaaRows
import Derived.Test.YtkejaolfbejokaaOFnExactMasterValid
import Derived.Test.YtkejaolfbejokaaPureFnExactMasterValid
import Derived.WalkKit
import Derived.ProofKit
import Derived.OpenShut
import Derived.ShutString
import Derived.ChangeOld
import Derived.Below
import Derived.SizedLaws
namespace Go.Proofs.Ytkejaolfbejokaa.fnExactMasterValid
open Go.ChangeShapes Go.WideShapes Go.ChangeAt Go.RowKit Go.Proofs.Ytkejaolfbejokaa.Opens Go.Proofs.Ytkejaolfbejokaa.PFnExactMasterValid Go.Proofs.YtkejaolfbejokaaW.PrintWords Go.Proofs.YtkejaolfbejokaaW.PrintLast Go.Proofs.YtkejaolfbejokaaW.PrintMore
open Go.ChangeMaps (open_string shut_string)
set_option linter.unusedVariables false
theorem own : ownKnob Try.prog.godebug = none := by kernel_rfl
theorem laidOut : laidOutB Try.prog = true := by kernel_rfl
set_option maxRecDepth 100000 in
set_option maxHeartbeats 2000000 in
theorem lifted (os : Os) (started : os.Started) (H : Type) (enc : TypeId × Value → H) :
    ReturnsInHanded {} Try.checked os 9 .any (Rows.fnExactMasterValidSpec.pre6 enc Try.prog Try.f9 Rows.fnExactMasterValidRow.domain false) (Rows.fnExactMasterValidSpec.post enc Try.prog Try.f9 false true false false) := by
  refine returnsInHanded_of_change_sized (C := Try.checked) own started (by kernel_rfl) Try.func9
    (ChangeSpec.witness6 (enc := enc) (C := Try.checked) false ⟨#[], #[.agg #[.slice none 0 0, .int .i64 0, .int .i64 0, .int .i64 0, .int .i64 0, .string ByteArray.empty, .int .i64 0, .int .i64 0, .int .i64 0, .int .i64 0]], []⟩ 8 (by kernel_rfl) (by kernel_rfl) (by kernel_rfl) (by kernel_rfl)) ?_
  intro W base args ds gs before hval0 hW hcnd hsz0 _
  have hval : ∀ (j : Nat) t v, Try.f9.params[j]? = some t → args[j]? = some v → Value.okWide Try.prog W .any base t v := hval0
  have hW' := hW
  obtain ⟨p, q, hA0, hV, rfl, hfz, hnd⟩ := hW
  have hA : DataW.TrodAll enc Try.prog W 0 (fun _ => true) true Try.f9.params.toList args.toList ds p := hA0
  rw [Try.params9] at hA hval
  obtain ⟨v0, vs0, d0, ds0, p0, q0, hargs, rfl, rfl, h0, r0⟩ := trodAll_cons hA
  obtain ⟨rfl, rfl, rfl⟩ := trodAll_nil r0
  obtain rfl : args = #[v0] := by cases args; simp_all
  obtain ⟨rfl, rfl⟩ := trodVars_none hV
  obtain ⟨cs0, rfl, hsz0⟩ := okWide_struct Try.underlying60 (hval 0 60 v0 rfl rfl)
  have k0 := h0
  have lt0 : ∀ x ∈ p0, x.block < W.heap.size := by obtain ⟨m, hm⟩ := k0; exact DataW.trod_lt m _ _ _ hm
  obtain ⟨x0, A0_0, c0_0, rfl, hc0_0, hr0_0, hB0⟩ : ∃ (x : S60) (A0_0 : Option Addr) (c0_0 : Nat), cs0 = #[.slice A0_0 x.f0.length c0_0, .int .i64 x.f1, .int .i64 x.f2.f0, .int .i64 x.f2.f1, .int .i64 x.f2.f2, .string x.f2.f3, .int .i64 x.f2.f4, .int .i64 x.f2.f5, .int .i64 x.f2.f6, .int .i64 x.f3] ∧ x.f0.length ≤ c0_0 ∧ Kd.C k162 W A0_0 x.f0.length x.f0 ∧ B60 x := by
    obtain ⟨fuel, hf⟩ := h0
    have hf' : DataW.trod enc Try.prog W 0 (fun _ => true) true fuel 60 cs0.toList = some (d0, p0) := by simpa [Value.cells] using hf
    obtain ⟨x, hK, hB⟩ := o60.2 _ enc _ _ _ _ _ _ _ hf'
    obtain ⟨A0_0, c0_0, e, hl0_0, hC0_0⟩ := open60 hK
    exact ⟨x, A0_0, c0_0, by rw [← Array.toArray_toList (xs := cs0), e], hl0_0, hC0_0, hB⟩
  clear hA0 hval0 hsz0
  obtain ⟨k, hp⟩ := Pure.FnExactMasterValid x0.f0 x0.f1 x0.f2.f0 x0.f2.f1 x0.f2.f2 x0.f2.f3 x0.f2.f4 x0.f2.f5 x0.f2.f6 x0.f3 hB0.1 hB0.2.1 hB0.2.2.1.1 hB0.2.2.1.2.1 hB0.2.2.1.2.2.1 hB0.2.2.1.2.2.2.1 hB0.2.2.1.2.2.2.2.1 hB0.2.2.1.2.2.2.2.2.1 hB0.2.2.1.2.2.2.2.2.2 hB0.2.2.2
  refine (laws_FnExactMasterValid.calls (k := k) (A0_0 := A0_0) (c0_0 := c0_0) (l0_0 := x0.f0) (a0_1 := x0.f1) (a0_2 := x0.f2.f0) (a0_3 := x0.f2.f1) (a0_4 := x0.f2.f2) (a0_5 := x0.f2.f3) (a0_6 := x0.f2.f4) (a0_7 := x0.f2.f5) (a0_8 := x0.f2.f6) (a0_9 := x0.f3) (r := true) (w := W) (hr0_0 := hr0_0) (hc0_0 := hc0_0) (h := hp) (hrt := ⟨rfl⟩)).mono fun e W' ⟨he, bel⟩ => ?_
  subst he
  exact ⟨_, rfl, _, _, _, [], _, [], hW', trodAll_mk1 (shut_bool Try.underlying4 _), (trodAll_cons_mk (Below.trod laidOut (by kernel_rfl) (of_decide_eq_true (by kernel_rfl)) k0 bel lt0) trodAll_mk0), rfl, bel.frame _, fun h => by cases h⟩
theorem over : Rows.fnExactMasterValidRow.holds Try.pinned (OpenSpec.ofChange Rows.fnExactMasterValidSpec) :=
  OpenClaim.holds_of_wide 9 Try.f9 rfl rfl rfl rfl rfl rfl rfl ⟨rfl, rfl, rfl, rfl, rfl⟩ rfl rfl rfl rfl rfl (by kernel_rfl) Try.func9 (by kernel_rfl)
    (of_decide_eq_true (by kernel_rfl)) (by unfold Func.isWrapper; first | (rw [if_pos (by decide +kernel)]; kernel_rfl) | (rw [if_neg (by decide +kernel)]; exact ⟨rfl, rfl⟩))
    (fun os started H enc _ => lifted os started H enc)
theorem proved : Rows.FnExactMasterValidSaid := over
#print axioms proved
end Go.Proofs.Ytkejaolfbejokaa.fnExactMasterValid
namespace Go.Proofs.Ytkejaolfbejokaa
/-- The row, under a short name, for the claim. -/
theorem fnExactMasterValid_holds : Rows.FnExactMasterValidSaid := fnExactMasterValid.proved
end Go.Proofs.Ytkejaolfbejokaa
