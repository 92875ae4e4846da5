-- Written by a program of this session, in the manner of the kit's print (wip/pp.py): functions and their contracts.
import Derived.Test.YtcciackemicbbaaRows
import Derived.Test.YtcciackemicbbaaOFnExactChangesOf
import Derived.Test.YtcciackemicbbaaPureFnExactChangesOf
import Derived.WalkKit
import Derived.ProofKit
import Derived.OpenShut
import Derived.ShutString
import Derived.ChangeOld
import Derived.Below
import Derived.SizedLaws
namespace Go.Proofs.Ytcciackemicbbaa.fnExactChangesOf
open Go.ChangeShapes Go.WideShapes Go.ChangeAt Go.RowKit Go.Proofs.Ytcciackemicbbaa.Opens Go.Proofs.Ytcciackemicbbaa.PFnExactChangesOf Go.Proofs.YtcciackemicbbaaW.PrintWords Go.Proofs.YtcciackemicbbaaW.PrintLast Go.Proofs.YtcciackemicbbaaW.PrintMore
open Go.ChangeMaps (open_string shut_string)
set_option linter.unusedVariables false
theorem own : ownKnob Try.prog.godebug = none := by kernel_rfl
theorem laidOut : laidOutB Try.prog = true := by kernel_rfl
set_option maxRecDepth 100000 in
set_option maxHeartbeats 2000000 in
theorem lifted (os : Os) (started : os.Started) (H : Type) (enc : TypeId × Value → H) :
    ReturnsInHanded {} Try.checked os 7 .any (Rows.fnExactChangesOfSpec.pre6 enc Try.prog Try.f7 Rows.fnExactChangesOfRow.domain false) (Rows.fnExactChangesOfSpec.post enc Try.prog Try.f7 false true false false) := by
  refine returnsInHanded_of_change_sized (C := Try.checked) own started (by kernel_rfl) Try.func7
    (ChangeSpec.witness6 (enc := enc) (C := Try.checked) false ⟨#[], #[.agg #[.string ByteArray.empty, .string ByteArray.empty, .slice none 0 0, .slice none 0 0, .bool false, .string ByteArray.empty], .slice none 0 0], []⟩ 8 (by kernel_rfl) (by kernel_rfl) (by kernel_rfl) (by kernel_rfl)) ?_
  intro W base args ds gs before hval0 hW hcnd hsz0 _
  have hval : ∀ (j : Nat) t v, Try.f7.params[j]? = some t → args[j]? = some v → Value.okWide Try.prog W .any base t v := hval0
  have hW' := hW
  obtain ⟨p, q, hA0, hV, rfl, hfz, hnd⟩ := hW
  have hA : DataW.TrodAll enc Try.prog W 0 (fun _ => true) true Try.f7.params.toList args.toList ds p := hA0
  rw [Try.params7] at hA hval
  obtain ⟨v0, vs0, d0, ds0, p0, q0, hargs, rfl, rfl, h0, r0⟩ := trodAll_cons hA
  obtain ⟨v1, vs1, d1, ds1, p1, q1, rfl, rfl, rfl, h1, r1⟩ := trodAll_cons r0
  obtain ⟨rfl, rfl, rfl⟩ := trodAll_nil r1
  obtain rfl : args = #[v0, v1] := by cases args; simp_all
  obtain ⟨rfl, rfl⟩ := trodVars_none hV
  obtain ⟨cs0, rfl, hsz0⟩ := okWide_struct Try.underlying79 (hval 0 79 v0 rfl rfl)
  have k0 := h0
  have lt0 : ∀ x ∈ p0, x.block < W.heap.size := by obtain ⟨m, hm⟩ := k0; exact DataW.trod_lt m _ _ _ hm
  obtain ⟨x0, A0_2, c0_2, A0_3, c0_3, rfl, hc0_2, hr0_2, hc0_3, hr0_3, hB0⟩ : ∃ (x : S79) (A0_2 : Option Addr) (c0_2 : Nat) (A0_3 : Option Addr) (c0_3 : Nat), cs0 = #[.string x.f0.f0, .string x.f0.f1, .slice A0_2 x.f1.length c0_2, .slice A0_3 x.f2.length c0_3, .bool x.f3, .string x.f4] ∧ x.f1.length ≤ c0_2 ∧ Kd.C k215 W A0_2 x.f1.length x.f1 ∧ x.f2.length ≤ c0_3 ∧ Kd.C k225 W A0_3 x.f2.length x.f2 ∧ B79 x := by
    obtain ⟨fuel, hf⟩ := h0
    have hf' : DataW.trod enc Try.prog W 0 (fun _ => true) true fuel 79 cs0.toList = some (d0, p0) := by simpa [Value.cells] using hf
    obtain ⟨x, hK, hB⟩ := o79.2 _ enc _ _ _ _ _ _ _ hf'
    obtain ⟨A0_2, c0_2, A0_3, c0_3, e, hl0_2, hC0_2, hl0_3, hC0_3⟩ := open79 hK
    exact ⟨x, A0_2, c0_2, A0_3, c0_3, by rw [← Array.toArray_toList (xs := cs0), e], hl0_2, hC0_2, hl0_3, hC0_3, hB⟩
  obtain ⟨a1, len1, cap1, rfl⟩ := okWide_slice Try.underlying80 (hval 1 80 v1 rfl rfl)
  have k1 := h1
  have lt1 : ∀ x ∈ p1, x.block < W.heap.size := by obtain ⟨m, hm⟩ := k1; exact DataW.trod_lt m _ _ _ hm
  obtain ⟨l1, hc1, hr1, hB1, rfl⟩ : ∃ l : List (S159), l.length ≤ cap1 ∧ Kd.C k159 W a1 l.length l ∧ (l.length ≤ 9223372036854775807 ∧ ∀ y_ ∈ l, B159 y_) ∧ len1 = l.length := by
    obtain ⟨fuel, hf⟩ := h1
    have hf' : DataW.trod enc Try.prog W 0 (fun _ => true) true fuel 80 [.slice a1 len1 cap1] = some (d1, p1) := by simpa [Value.cells] using hf
    obtain ⟨l, ⟨A1, c1, he, hl, hC⟩, hB⟩ := ((Opens.slice (e' := 159) Try.underlying80 (by kernel_rfl) o159)).2 _ enc _ _ _ _ _ _ _ hf'
    simp only [List.cons.injEq, Value.slice.injEq, and_true] at he
    obtain ⟨rfl, rfl, rfl⟩ := he
    exact ⟨l, hl, hC, hB, rfl⟩
  clear hA0 hval0 hsz0
  obtain ⟨k, hp⟩ := Pure.FnExactChangesOf x0.f0.f0 x0.f0.f1 x0.f1 x0.f2 x0.f3 x0.f4 l1 hB0.1.1 hB0.1.2 hB0.2.1 hB0.2.2.1 hB0.2.2.2.2 hB1
  refine (laws_FnExactChangesOf.calls (k := k) (a0_0 := x0.f0.f0) (a0_1 := x0.f0.f1) (A0_2 := A0_2) (c0_2 := c0_2) (l0_2 := x0.f1) (A0_3 := A0_3) (c0_3 := c0_3) (l0_3 := x0.f2) (a0_4 := x0.f3) (a0_5 := x0.f4) (A1 := a1) (c1 := cap1) (l1 := l1) (r := true) (w := W) (hr0_2 := hr0_2) (hc0_2 := hc0_2) (hr0_3 := hr0_3) (hc0_3 := hc0_3) (hr1 := hr1) (hc1 := hc1) (h := hp) (hrt := ⟨rfl⟩)).mono fun e W' ⟨he, bel⟩ => ?_
  subst he
  exact ⟨_, rfl, _, _, _, [], _, [], hW', trodAll_mk1 (shut_bool Try.underlying4 _), (trodAll_cons_mk (Below.trod laidOut (by kernel_rfl) (of_decide_eq_true (by kernel_rfl)) k0 bel lt0) (trodAll_cons_mk (Below.trod laidOut (by kernel_rfl) (of_decide_eq_true (by kernel_rfl)) k1 bel lt1) trodAll_mk0)), rfl, bel.frame _, fun h => by cases h⟩
theorem over : Rows.fnExactChangesOfRow.holds Try.pinned (OpenSpec.ofChange Rows.fnExactChangesOfSpec) :=
  OpenClaim.holds_of_wide 7 Try.f7 rfl rfl rfl rfl rfl rfl rfl ⟨rfl, rfl, rfl, rfl, rfl⟩ rfl rfl rfl rfl rfl (by kernel_rfl) Try.func7 (by kernel_rfl)
    (of_decide_eq_true (by kernel_rfl)) (by unfold Func.isWrapper; first | (rw [if_pos (by decide +kernel)]; kernel_rfl) | (rw [if_neg (by decide +kernel)]; exact ⟨rfl, rfl⟩))
    (fun os started H enc _ => lifted os started H enc)
theorem proved : Rows.FnExactChangesOfSaid := over
#print axioms proved
end Go.Proofs.Ytcciackemicbbaa.fnExactChangesOf
namespace Go.Proofs.Ytcciackemicbbaa
/-- The row, under a short name, for the claim. -/
theorem fnExactChangesOf_holds : Rows.FnExactChangesOfSaid := fnExactChangesOf.proved
end Go.Proofs.Ytcciackemicbbaa
