-- Written by a program of this session, in the manner of the kit's print (wip/pp.py): functions and their contracts.
import Derived.Test.YtfeeifefmenlmaaRows
import Derived.Test.YtfeeifefmenlmaaOFnExactRepliesRight
import Derived.Test.YtfeeifefmenlmaaPureFnExactRepliesRight
import Derived.WalkKit
import Derived.ProofKit
import Derived.OpenShut
import Derived.ShutString
import Derived.ChangeOld
import Derived.Below
import Derived.SizedLaws
namespace Go.Proofs.Ytfeeifefmenlmaa.fnExactRepliesRight
open Go.ChangeShapes Go.WideShapes Go.ChangeAt Go.RowKit Go.Proofs.Ytfeeifefmenlmaa.Opens Go.Proofs.Ytfeeifefmenlmaa.PFnExactRepliesRight Go.Proofs.YtfeeifefmenlmaaW.PrintWords Go.Proofs.YtfeeifefmenlmaaW.PrintLast Go.Proofs.YtfeeifefmenlmaaW.PrintMore
open Go.ChangeMaps (open_string shut_string)
set_option linter.unusedVariables false
theorem own : ownKnob Try.prog.godebug = none := by kernel_rfl
theorem laidOut : laidOutB Try.prog = true := by kernel_rfl
set_option maxRecDepth 100000 in
set_option maxHeartbeats 2000000 in
theorem lifted (os : Os) (started : os.Started) (H : Type) (enc : TypeId × Value → H) :
    ReturnsInHanded {} Try.checked os 13 .any (Rows.fnExactRepliesRightSpec.pre6 enc Try.prog Try.f13 Rows.fnExactRepliesRightRow.domain false) (Rows.fnExactRepliesRightSpec.post enc Try.prog Try.f13 false true false false) := by
  refine returnsInHanded_of_change_sized (C := Try.checked) own started (by kernel_rfl) Try.func13
    (ChangeSpec.witness6 (enc := enc) (C := Try.checked) false ⟨#[], #[.slice none 0 0, .slice none 0 0], []⟩ 8 (by kernel_rfl) (by kernel_rfl) (by kernel_rfl) (by kernel_rfl)) ?_
  intro W base args ds gs before hval0 hW hcnd hsz0 _
  have hval : ∀ (j : Nat) t v, Try.f13.params[j]? = some t → args[j]? = some v → Value.okWide Try.prog W .any base t v := hval0
  have hW' := hW
  obtain ⟨p, q, hA0, hV, rfl, hfz, hnd⟩ := hW
  have hA : DataW.TrodAll enc Try.prog W 0 (fun _ => true) true Try.f13.params.toList args.toList ds p := hA0
  rw [Try.params13] at hA hval
  obtain ⟨v0, vs0, d0, ds0, p0, q0, hargs, rfl, rfl, h0, r0⟩ := trodAll_cons hA
  obtain ⟨v1, vs1, d1, ds1, p1, q1, rfl, rfl, rfl, h1, r1⟩ := trodAll_cons r0
  obtain ⟨rfl, rfl, rfl⟩ := trodAll_nil r1
  obtain rfl : args = #[v0, v1] := by cases args; simp_all
  obtain ⟨rfl, rfl⟩ := trodVars_none hV
  obtain ⟨a0, len0, cap0, rfl⟩ := okWide_slice Try.underlying85 (hval 0 85 v0 rfl rfl)
  have k0 := h0
  have lt0 : ∀ x ∈ p0, x.block < W.heap.size := by obtain ⟨m, hm⟩ := k0; exact DataW.trod_lt m _ _ _ hm
  obtain ⟨l0, hc0, hr0, hB0, rfl⟩ : ∃ l : List (S135), l.length ≤ cap0 ∧ Kd.C k135 W a0 l.length l ∧ (l.length ≤ 9223372036854775807 ∧ ∀ y_ ∈ l, B135 y_) ∧ len0 = l.length := by
    obtain ⟨fuel, hf⟩ := h0
    have hf' : DataW.trod enc Try.prog W 0 (fun _ => true) true fuel 85 [.slice a0 len0 cap0] = some (d0, p0) := by simpa [Value.cells] using hf
    obtain ⟨l, ⟨A1, c1, he, hl, hC⟩, hB⟩ := ((Opens.slice (e' := 135) Try.underlying85 (by kernel_rfl) o135)).2 _ enc _ _ _ _ _ _ _ hf'
    simp only [List.cons.injEq, Value.slice.injEq, and_true] at he
    obtain ⟨rfl, rfl, rfl⟩ := he
    exact ⟨l, hl, hC, hB, rfl⟩
  obtain ⟨a1, len1, cap1, rfl⟩ := okWide_slice Try.underlying33 (hval 1 33 v1 rfl rfl)
  have k1 := h1
  have lt1 : ∀ x ∈ p1, x.block < W.heap.size := by obtain ⟨m, hm⟩ := k1; exact DataW.trod_lt m _ _ _ hm
  obtain ⟨l1, hc1, hr1, hB1, rfl⟩ : ∃ l : List Int, l.length ≤ cap1 ∧ Kd.C (Kd.int .i64) W a1 l.length l ∧ (l.length ≤ 9223372036854775807 ∧ ∀ y_ ∈ l, (Lit.int .i64 y_).wf = true) ∧ len1 = l.length := by
    obtain ⟨fuel, hf⟩ := h1
    have hf' : DataW.trod enc Try.prog W 0 (fun _ => true) true fuel 33 [.slice a1 len1 cap1] = some (d1, p1) := by simpa [Value.cells] using hf
    obtain ⟨l, ⟨A1, c1, he, hl, hC⟩, hB⟩ := ((Opens.slice (e' := 3) Try.underlying33 (by kernel_rfl) (Opens.int Try.underlying3 (by kernel_rfl)))).2 _ enc _ _ _ _ _ _ _ hf'
    simp only [List.cons.injEq, Value.slice.injEq, and_true] at he
    obtain ⟨rfl, rfl, rfl⟩ := he
    exact ⟨l, hl, hC, hB, rfl⟩
  clear hA0 hval0 hsz0
  obtain ⟨k, hp⟩ := Pure.FnExactRepliesRight l0 l1 hB0 hB1
  refine (laws_FnExactRepliesRight.calls (k := k) (A0 := a0) (c0 := cap0) (l0 := l0) (A1 := a1) (c1 := cap1) (l1 := l1) (r := true) (w := W) (hr0 := hr0) (hc0 := hc0) (hr1 := hr1) (hc1 := hc1) (h := hp) (hrt := ⟨rfl⟩)).mono fun e W' ⟨he, bel⟩ => ?_
  subst he
  exact ⟨_, rfl, _, _, _, [], _, [], hW', trodAll_mk1 (shut_bool Try.underlying4 _), (trodAll_cons_mk (Below.trod laidOut (by kernel_rfl) (of_decide_eq_true (by kernel_rfl)) k0 bel lt0) (trodAll_cons_mk (Below.trod laidOut (by kernel_rfl) (of_decide_eq_true (by kernel_rfl)) k1 bel lt1) trodAll_mk0)), rfl, bel.frame _, fun h => by cases h⟩
theorem over : Rows.fnExactRepliesRightRow.holds Try.pinned (OpenSpec.ofChange Rows.fnExactRepliesRightSpec) :=
  OpenClaim.holds_of_wide 13 Try.f13 rfl rfl rfl rfl rfl rfl rfl ⟨rfl, rfl, rfl, rfl, rfl⟩ rfl rfl rfl rfl rfl (by kernel_rfl) Try.func13 (by kernel_rfl)
    (of_decide_eq_true (by kernel_rfl)) (by unfold Func.isWrapper; first | (rw [if_pos (by decide +kernel)]; kernel_rfl) | (rw [if_neg (by decide +kernel)]; exact ⟨rfl, rfl⟩))
    (fun os started H enc _ => lifted os started H enc)
theorem proved : Rows.FnExactRepliesRightSaid := over
#print axioms proved
end Go.Proofs.Ytfeeifefmenlmaa.fnExactRepliesRight
namespace Go.Proofs.Ytfeeifefmenlmaa
/-- The row, under a short name, for the claim. -/
theorem fnExactRepliesRight_holds : Rows.FnExactRepliesRightSaid := fnExactRepliesRight.proved
end Go.Proofs.Ytfeeifefmenlmaa
