/- The row of FnMasterOf: every input is read, the law called, its answer told. No condition. -/
import Derived.Test.YtlffjoabajdfnaaGreatRows
import Derived.Test.YtlffjoabajdfnaaGreatPuFnMasterOf
import Derived.WalkKit
import Derived.ProofKit
import Derived.OpenShut
import Derived.ShutString
import Derived.ChangeOld
import Derived.Below
import Derived.SizedLaws
namespace Go.Proofs.YtlffjoabajdfnaaGreat.fnMasterOf
open Go.ChangeShapes Go.WideShapes Go.ChangeAt Go.RowKit Go.Proofs.YtlffjoabajdfnaaGreat.Eng Go.Proofs.YtlffjoabajdfnaaGreat.Ev
open Go.ChangeMaps (open_string shut_string)
set_option linter.unusedVariables false
theorem own : ownKnob Tryz.prog.godebug = none := by kernel_rfl
theorem laidOut : laidOutB Tryz.prog = true := by kernel_rfl
set_option maxRecDepth 100000 in
set_option maxHeartbeats 2000000 in
theorem lifted (os : Os) (started : os.Started) (H : Type) (enc : TypeId × Value → H) :
    ReturnsInHanded {} Tryz.checked os 5 .any (Rows.fnMasterOfSpec.pre6 enc Tryz.prog Tryz.f5 Rows.fnMasterOfRow.domain false) (Rows.fnMasterOfSpec.post enc Tryz.prog Tryz.f5 false true false false) := by
  refine returnsInHanded_of_change_sized (C := Tryz.checked) own started (by kernel_rfl) Tryz.func5
    (ChangeSpec.witness6 (enc := enc) (C := Tryz.checked) false ⟨#[], #[.slice none 0 0], []⟩ 8 (by kernel_rfl) (by kernel_rfl) (by kernel_rfl) (by kernel_rfl)) ?_
  intro W base args ds gs before hval0 hW hcnd hsz0 _
  have hval : ∀ (j : Nat) t v, Tryz.f5.params[j]? = some t → args[j]? = some v → Value.okWide Tryz.prog W .any base t v := hval0
  have hW' := hW
  obtain ⟨p, q, hA0, hV, rfl, hfz, hnd⟩ := hW
  have hA : DataW.TrodAll enc Tryz.prog W 0 (fun _ => true) true Tryz.f5.params.toList args.toList ds p := hA0
  rw [Tryz.params5] at hA hval
  obtain ⟨v0, vs0, d0, ds0, p0, q0, hargs, rfl, rfl, h0, r0⟩ := trodAll_cons hA
  obtain ⟨rfl, rfl, rfl⟩ := trodAll_nil r0
  obtain rfl : args = #[v0] := by cases args; simp_all
  obtain ⟨rfl, rfl⟩ := trodVars_none hV
  have k0 := h0
  have lt0 : ∀ x ∈ p0, x.block < W.heap.size := by obtain ⟨m, hm⟩ := k0; exact DataW.trod_lt m _ _ _ hm
  obtain ⟨x0, K0, B0⟩ := @arg_KT0 _ rbAll Tryz.prog (@ctx0 _ rbAll W) [(PAR + 0, 0)] H enc 0 (fun _ => true) true rbAll_RO (.sl (.int .u8)) 22 v0 base d0 p0 td22 (by kernel_rfl) (hval 0 22 v0 rfl rfl) h0
  clear hA0 hval0 hsz0
  refine (law_calls good (f := 5) (args := [⟨(.sl (.int .u8)), x0, (.ro [(10000000, 0)])⟩]) (r := (true, ())) (Ev.law x0 B0) (g := ⟨[.bor], .pair .bool .unit, .lit⟩) rfl rfl (W := W) (vs := [v0]) (@KTs_cons0 _ rbAll _ _ _ _ _ K0 (@KTs_nil0 _ rbAll _)) (by kernel_rfl)).mono fun e W' ⟨he, bel⟩ => ?_
  subst he
  exact ⟨_, rfl, _, _, _, [], _, [], hW', trodAll_mk1 (shut_bool Tryz.underlying4 _), (trodAll_cons_mk (Below.trod laidOut (by kernel_rfl) (of_decide_eq_true (by kernel_rfl)) k0 bel lt0) trodAll_mk0), rfl, bel.frame _, fun h => by cases h⟩
theorem c1 : laidOutB Tryz.pinned.checked.prog = true := by kernel_rfl
theorem c2 : mapsRowed Tryz.pinned.checked.prog = true := by kernel_rfl
theorem c3 : Tryz.pinned.checked.prog.inPlace 5 = Rows.fnMasterOfRow.inPlace := by kernel_rfl
theorem c4 : Tryz.pinned.checked.prog.unfollowed 5 = Rows.fnMasterOfRow.unfollowed := by kernel_rfl
theorem c5 : Tryz.pinned.checked.prog.recurses 5 = Rows.fnMasterOfRow.recurses := by kernel_rfl
theorem c6 : Tryz.pinned.checked.prog.varsNamed 5 = Rows.fnMasterOfRow.named := by kernel_rfl
theorem c7 : Tryz.pinned.checked.prog.plainKeys = Rows.fnMasterOfRow.plainKeys := by kernel_rfl
theorem c8 : Tryz.pinned.checked.prog.stopsHeard = true := by kernel_rfl
theorem c9 : Tryz.pinned.checked.prog.mayEnter = true := by kernel_rfl
theorem c10 : Tryz.pinned.checked.prog.liftsFinal = Rows.fnMasterOfRow.lifted := by kernel_rfl
theorem closed : joinedFacts Tryz.pinned.checked.prog 5 Tryz.f5 Rows.fnMasterOfSpec Rows.fnMasterOfRow = true := by
  unfold joinedFacts
  rw [c1, c2, c3, c4, c5, c6, c7, c8, c9, c10]
  kernel_rfl
theorem over : Rows.fnMasterOfRow.holds Tryz.pinned (OpenSpec.ofChange Rows.fnMasterOfSpec) :=
  OpenClaim.holds_of_wide 5 Tryz.f5 rfl rfl rfl rfl rfl rfl rfl ⟨rfl, rfl, rfl, rfl, rfl⟩ rfl rfl rfl rfl rfl (by kernel_rfl) Tryz.func5 closed
    (of_decide_eq_true (by kernel_rfl)) (by unfold Func.isWrapper; first | (rw [if_pos (by decide +kernel)]; kernel_rfl) | (rw [if_neg (by decide +kernel)]; exact ⟨rfl, rfl⟩))
    (fun os started H enc _ => lifted os started H enc)
theorem proved : Rows.FnMasterOfSaid := over
#print axioms proved
end Go.Proofs.YtlffjoabajdfnaaGreat.fnMasterOf
namespace Go.Proofs.YtlffjoabajdfnaaGreat
/-- The row, under a short name, for the claim. -/
theorem fnMasterOf_holds : Rows.FnMasterOfSaid := fnMasterOf.proved
end Go.Proofs.YtlffjoabajdfnaaGreat
