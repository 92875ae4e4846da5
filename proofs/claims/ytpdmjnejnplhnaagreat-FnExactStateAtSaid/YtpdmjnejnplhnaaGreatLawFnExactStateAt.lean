/- The row of FnExactStateAt: every input is read, the law called, its answer told. No condition. -/
import Derived.Test.YtpdmjnejnplhnaaGreatRows
import Derived.Test.YtpdmjnejnplhnaaGreatPuFnExactStateAt
import Derived.WalkKit
import Derived.ProofKit
import Derived.OpenShut
import Derived.ShutString
import Derived.ChangeOld
import Derived.Below
import Derived.SizedLaws
namespace Go.Proofs.YtpdmjnejnplhnaaGreat.fnExactStateAt
open Go.ChangeShapes Go.WideShapes Go.ChangeAt Go.RowKit Go.Proofs.YtpdmjnejnplhnaaGreat.Eng Go.Proofs.YtpdmjnejnplhnaaGreat.Ev
open Go.ChangeMaps (open_string shut_string)
set_option linter.unusedVariables false
theorem own : ownKnob Tryz.prog.godebug = none := by kernel_rfl
theorem laidOut : laidOutB Tryz.prog = true := by kernel_rfl
set_option maxRecDepth 100000 in
set_option maxHeartbeats 2000000 in
theorem lifted (os : Os) (started : os.Started) (H : Type) (enc : TypeId × Value → H) :
    ReturnsInHanded {} Tryz.checked os 5 .any (Rows.fnExactStateAtSpec.pre6 enc Tryz.prog Tryz.f5 Rows.fnExactStateAtRow.domain false) (Rows.fnExactStateAtSpec.post enc Tryz.prog Tryz.f5 false true false false) := by
  refine returnsInHanded_of_change_sized (C := Tryz.checked) own started (by kernel_rfl) Tryz.func5
    (ChangeSpec.witness6 (enc := enc) (C := Tryz.checked) false ⟨#[], #[.agg #[.string ByteArray.empty, .string ByteArray.empty, .slice none 0 0, .slice none 0 0, .bool false, .string ByteArray.empty, .int .i64 0, .slice none 0 0, .bool false, .slice none 0 0, .slice none 0 0, .slice none 0 0, .slice none 0 0], .int .i64 0], []⟩ 8 (by kernel_rfl) (by kernel_rfl) (by kernel_rfl) (by kernel_rfl)) ?_
  intro W base args ds gs before hval0 hW hcnd hsz0 _
  have hval : ∀ (j : Nat) t v, Tryz.f5.params[j]? = some t → args[j]? = some v → Value.okWide Tryz.prog W .any base t v := hval0
  have hW' := hW
  obtain ⟨p, q, hA0, hV, rfl, hfz, hnd⟩ := hW
  have hA : DataW.TrodAll enc Tryz.prog W 0 (fun _ => true) true Tryz.f5.params.toList args.toList ds p := hA0
  rw [Tryz.params5] at hA hval
  obtain ⟨v0, vs0, d0, ds0, p0, q0, hargs, rfl, rfl, h0, r0⟩ := trodAll_cons hA
  obtain ⟨v1, vs1, d1, ds1, p1, q1, rfl, rfl, rfl, h1, r1⟩ := trodAll_cons r0
  obtain ⟨rfl, rfl, rfl⟩ := trodAll_nil r1
  obtain rfl : args = #[v0, v1] := by cases args; simp_all
  obtain ⟨rfl, rfl⟩ := trodVars_none hV
  have k0 := h0
  have lt0 : ∀ x ∈ p0, x.block < W.heap.size := by obtain ⟨m, hm⟩ := k0; exact DataW.trod_lt m _ _ _ hm
  obtain ⟨x0, K0, B0⟩ := @arg_KT0 _ rbAll Tryz.prog (@ctx0 _ rbAll W) [(PAR + 0, 0)] H enc 0 (fun _ => true) true rbAll_RO Y_laws_Chain 36 v0 base d0 p0 td36 (by kernel_rfl) (hval 0 36 v0 rfl rfl) h0
  have k1 := h1
  have lt1 : ∀ x ∈ p1, x.block < W.heap.size := by obtain ⟨m, hm⟩ := k1; exact DataW.trod_lt m _ _ _ hm
  obtain ⟨x1, K1, B1⟩ := @arg_KT0 _ rbAll Tryz.prog (@ctx0 _ rbAll W) [(PAR + 1, 0)] H enc 0 (fun _ => true) true rbAll_RO (.int .i64) 3 v1 base d1 p1 td3 (by kernel_rfl) (hval 1 3 v1 rfl rfl) h1
  clear hA0 hval0 hsz0
  refine (law_calls good (f := 5) (args := [⟨Y_laws_Chain, x0, (.pair (.pair .lit (.pair (.ro [(10000000, 0)]) (.pair (.ro [(10000000, 0)]) .lit))) (.pair (.pair .lit (.pair (.ro [(10000000, 0)]) .lit)) (.pair (.ro [(10000000, 0)]) (.pair (.ro [(10000000, 0)]) (.pair (.ro [(10000000, 0)]) (.pair (.ro [(10000000, 0)]) .lit))))))⟩, ⟨(.int .i64), x1, .lit⟩]) (r := (true, ())) (Ev.law x0 x1 B0 B1) (g := ⟨[.bor, .bor], .pair .bool .unit, .lit⟩) rfl rfl (W := W) (vs := [v0, v1]) (@KTs_cons0 _ rbAll _ _ _ _ _ K0 (@KTs_cons0 _ rbAll _ _ _ _ _ K1 (@KTs_nil0 _ rbAll _))) (by kernel_rfl)).mono fun e W' ⟨he, bel⟩ => ?_
  subst he
  exact ⟨_, rfl, _, _, _, [], _, [], hW', trodAll_mk1 (shut_bool Tryz.underlying4 _), (trodAll_cons_mk (Below.trod laidOut (by kernel_rfl) (of_decide_eq_true (by kernel_rfl)) k0 bel lt0) (trodAll_cons_mk (Below.trod laidOut (by kernel_rfl) (of_decide_eq_true (by kernel_rfl)) k1 bel lt1) trodAll_mk0)), rfl, bel.frame _, fun h => by cases h⟩
theorem over : Rows.fnExactStateAtRow.holds Tryz.pinned (OpenSpec.ofChange Rows.fnExactStateAtSpec) :=
  OpenClaim.holds_of_wide 5 Tryz.f5 rfl rfl rfl rfl rfl rfl rfl ⟨rfl, rfl, rfl, rfl, rfl⟩ rfl rfl rfl rfl rfl (by kernel_rfl) Tryz.func5 (by kernel_rfl)
    (of_decide_eq_true (by kernel_rfl)) (by unfold Func.isWrapper; first | (rw [if_pos (by decide +kernel)]; kernel_rfl) | (rw [if_neg (by decide +kernel)]; exact ⟨rfl, rfl⟩))
    (fun os started H enc _ => lifted os started H enc)
theorem proved : Rows.FnExactStateAtSaid := over
#print axioms proved
end Go.Proofs.YtpdmjnejnplhnaaGreat.fnExactStateAt
namespace Go.Proofs.YtpdmjnejnplhnaaGreat
/-- The row, under a short name, for the claim. -/
theorem fnExactStateAt_holds : Rows.FnExactStateAtSaid := fnExactStateAt.proved
end Go.Proofs.YtpdmjnejnplhnaaGreat
