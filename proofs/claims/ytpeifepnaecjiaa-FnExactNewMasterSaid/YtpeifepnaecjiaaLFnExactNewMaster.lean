/- The limits of the printed functions, and their equations. Written by lim.py out of the print. No condition. -/
import Derived.Test.YtpeifepnaecjiaaPFnExactNewMasterx3
import Derived.Test.YtpeifepnaecjiaaLim
namespace Go.Proofs.Ytpeifepnaecjiaa.PFnExactNewMaster
open Go.RowKit Go.Proofs.YtpeifepnaecjiaaW.PrintWords Go.Proofs.YtpeifepnaecjiaaW.PrintLast Go.Proofs.YtpeifepnaecjiaaW.PrintMore Go.Proofs.Ytpeifepnaecjiaa.Lim
set_option linter.unusedVariables false

/-! ### laws_eqRouteS -/
noncomputable def laws_eqRouteS.l0L (x0 : List (S81)) (x1 : List (S81)) (x5 : Int) : Option (Bool) := Lim (fun k => laws_eqRouteS.l0 k x0 x1 x5)
theorem laws_eqRouteS.l0L_is (x0 : List (S81)) (x1 : List (S81)) (x5 : Int) : LimIs (fun k => laws_eqRouteS.l0 k x0 x1 x5) (laws_eqRouteS.l0L x0 x1 x5) := LimIs.of_mono (fun k r h => (laws_eqRouteS.mono_l k) x0 x1 x5 r h)
noncomputable def laws_eqRouteS.fL (l0 : List (S81)) (l1 : List (S81)) : Option (Bool) := Lim (fun k => laws_eqRouteS.f k l0 l1)
theorem laws_eqRouteS.fL_is (l0 : List (S81)) (l1 : List (S81)) : LimIs (fun k => laws_eqRouteS.f k l0 l1) (laws_eqRouteS.fL l0 l1) := LimIs.of_mono (fun k r h => laws_eqRouteS.mono l0 l1 k r h)
theorem laws_eqRouteS.l0L_eq (x0 : List (S81)) (x1 : List (S81)) (x5 : Int) : laws_eqRouteS.l0L x0 x1 x5 = if x5 < (x0.length : Int) then (if 0 ≤ x5 then (if x5 < (x1.length : Int) then ((laws_eqRoute.f ((rd_T81 x0 x5).f0) ((rd_T81 x0 x5).f1.f0) ((rd_T81 x0 x5).f1.f1) ((rd_T81 x1 x5).f0) ((rd_T81 x1 x5).f1.f0) ((rd_T81 x1 x5).f1.f1)).bind fun t116 => (if t116 = true then (laws_eqRouteS.l0L x0 x1 (wrap64 (x5 + 1))) else (some false))) else (none)) else (none)) else (some true) := by
  refine LimIs.unique (laws_eqRouteS.l0L_is x0 x1 x5) (LimIs.step (f := fun k => if x5 < (x0.length : Int) then (if 0 ≤ x5 then (if x5 < (x1.length : Int) then ((laws_eqRoute.f ((rd_T81 x0 x5).f0) ((rd_T81 x0 x5).f1.f0) ((rd_T81 x0 x5).f1.f1) ((rd_T81 x1 x5).f0) ((rd_T81 x1 x5).f1.f0) ((rd_T81 x1 x5).f1.f1)).bind fun t116 => (if t116 = true then (laws_eqRouteS.l0 k x0 x1 (wrap64 (x5 + 1))) else (some false))) else (none)) else (none)) else (some true)) (by simp only [laws_eqRouteS.l0]) (fun k => by simp only [laws_eqRouteS.l0]) ?_)
  repeat' first
    | (with_reducible exact LimIs.const _)
    | (with_reducible exact laws_eqRouteS.l0L_is _ _ _)
    | (with_reducible refine LimIs.ite ?_ ?_)
    | (with_reducible refine LimIs.bind ?_ (fun _ => ?_))
theorem laws_eqRouteS.fL_eq (l0 : List (S81)) (l1 : List (S81)) : laws_eqRouteS.fL l0 l1 = if (l0.length : Int) = (l1.length : Int) then (laws_eqRouteS.l0L l0 l1 0) else (some false) := by
  refine LimIs.unique (laws_eqRouteS.fL_is l0 l1) ?_
  unfold laws_eqRouteS.f
  repeat' first
    | (with_reducible exact LimIs.const _)
    | (with_reducible exact laws_eqRouteS.l0L_is _ _ _)
    | (with_reducible refine LimIs.ite ?_ ?_)
    | (with_reducible refine LimIs.bind ?_ (fun _ => ?_))
/-! ### laws_eqMaster -/
noncomputable def laws_eqMaster.fL (l0_0 : List (S81)) (a0_1 : Int) (a0_2 : Int) (a0_3 : Int) (a0_4 : Int) (a0_5 : ByteArray) (a0_6 : Int) (a0_7 : Int) (a0_8 : Int) (a0_9 : Int) (l1_0 : List (S81)) (a1_1 : Int) (a1_2 : Int) (a1_3 : Int) (a1_4 : Int) (a1_5 : ByteArray) (a1_6 : Int) (a1_7 : Int) (a1_8 : Int) (a1_9 : Int) : Option (Bool) := Lim (fun k => laws_eqMaster.f k l0_0 a0_1 a0_2 a0_3 a0_4 a0_5 a0_6 a0_7 a0_8 a0_9 l1_0 a1_1 a1_2 a1_3 a1_4 a1_5 a1_6 a1_7 a1_8 a1_9)
theorem laws_eqMaster.fL_is (l0_0 : List (S81)) (a0_1 : Int) (a0_2 : Int) (a0_3 : Int) (a0_4 : Int) (a0_5 : ByteArray) (a0_6 : Int) (a0_7 : Int) (a0_8 : Int) (a0_9 : Int) (l1_0 : List (S81)) (a1_1 : Int) (a1_2 : Int) (a1_3 : Int) (a1_4 : Int) (a1_5 : ByteArray) (a1_6 : Int) (a1_7 : Int) (a1_8 : Int) (a1_9 : Int) : LimIs (fun k => laws_eqMaster.f k l0_0 a0_1 a0_2 a0_3 a0_4 a0_5 a0_6 a0_7 a0_8 a0_9 l1_0 a1_1 a1_2 a1_3 a1_4 a1_5 a1_6 a1_7 a1_8 a1_9) (laws_eqMaster.fL l0_0 a0_1 a0_2 a0_3 a0_4 a0_5 a0_6 a0_7 a0_8 a0_9 l1_0 a1_1 a1_2 a1_3 a1_4 a1_5 a1_6 a1_7 a1_8 a1_9) := LimIs.of_mono (fun k r h => laws_eqMaster.mono l0_0 a0_1 a0_2 a0_3 a0_4 a0_5 a0_6 a0_7 a0_8 a0_9 l1_0 a1_1 a1_2 a1_3 a1_4 a1_5 a1_6 a1_7 a1_8 a1_9 k r h)
theorem laws_eqMaster.fL_eq (l0_0 : List (S81)) (a0_1 : Int) (a0_2 : Int) (a0_3 : Int) (a0_4 : Int) (a0_5 : ByteArray) (a0_6 : Int) (a0_7 : Int) (a0_8 : Int) (a0_9 : Int) (l1_0 : List (S81)) (a1_1 : Int) (a1_2 : Int) (a1_3 : Int) (a1_4 : Int) (a1_5 : ByteArray) (a1_6 : Int) (a1_7 : Int) (a1_8 : Int) (a1_9 : Int) : laws_eqMaster.fL l0_0 a0_1 a0_2 a0_3 a0_4 a0_5 a0_6 a0_7 a0_8 a0_9 l1_0 a1_1 a1_2 a1_3 a1_4 a1_5 a1_6 a1_7 a1_8 a1_9 = (laws_eqRouteS.fL l0_0 l1_0).bind fun t121 => (if t121 = true then (if a0_1 = a1_1 then ((laws_eqPlan.f a0_2 a0_3 a0_4 a0_5 a0_6 a0_7 a0_8 a1_2 a1_3 a1_4 a1_5 a1_6 a1_7 a1_8).bind fun t122 => (if t122 = true then (if a0_9 = a1_9 then (some true) else (some false)) else (some false))) else (some false)) else (some false)) := by
  refine LimIs.unique (laws_eqMaster.fL_is l0_0 a0_1 a0_2 a0_3 a0_4 a0_5 a0_6 a0_7 a0_8 a0_9 l1_0 a1_1 a1_2 a1_3 a1_4 a1_5 a1_6 a1_7 a1_8 a1_9) ?_
  unfold laws_eqMaster.f
  repeat' first
    | (with_reducible exact LimIs.const _)
    | (with_reducible exact laws_eqRouteS.fL_is _ _)
    | (with_reducible refine LimIs.ite ?_ ?_)
    | (with_reducible refine LimIs.bind ?_ (fun _ => ?_))
/-! ### laws_markText -/
noncomputable def laws_markText.l0L (x0 : Int) (x3 : ByteArray) : Option (ByteArray) := Lim (fun k => laws_markText.l0 k x0 x3)
theorem laws_markText.l0L_is (x0 : Int) (x3 : ByteArray) : LimIs (fun k => laws_markText.l0 k x0 x3) (laws_markText.l0L x0 x3) := LimIs.of_mono (fun k r h => (laws_markText.mono_l k) x0 x3 r h)
noncomputable def laws_markText.fL (a0 : Int) : Option (ByteArray) := Lim (fun k => laws_markText.f k a0)
theorem laws_markText.fL_is (a0 : Int) : LimIs (fun k => laws_markText.f k a0) (laws_markText.fL a0) := LimIs.of_mono (fun k r h => laws_markText.mono a0 k r h)
theorem laws_markText.l0L_eq (x0 : Int) (x3 : ByteArray) : laws_markText.l0L x0 x3 = if x0 > 0 then ((some (([(wrap64 (48 + (Int.tmod x0 10))) % 256] : List Int) : List Int)).bind fun y123 => (if (strOfNums y123).size + x3.size ≤ 9223372036854775807 then (laws_markText.l0L (wrap64 (Int.tdiv x0 10)) ((strOfNums y123) ++ x3)) else (none))) else (if 1 + x3.size ≤ 9223372036854775807 then (some ((⟨#[109]⟩ : ByteArray) ++ x3)) else (none)) := by
  refine LimIs.unique (laws_markText.l0L_is x0 x3) (LimIs.step (f := fun k => if x0 > 0 then ((some (([(wrap64 (48 + (Int.tmod x0 10))) % 256] : List Int) : List Int)).bind fun y123 => (if (strOfNums y123).size + x3.size ≤ 9223372036854775807 then (laws_markText.l0 k (wrap64 (Int.tdiv x0 10)) ((strOfNums y123) ++ x3)) else (none))) else (if 1 + x3.size ≤ 9223372036854775807 then (some ((⟨#[109]⟩ : ByteArray) ++ x3)) else (none))) (by simp only [laws_markText.l0]) (fun k => by simp only [laws_markText.l0]) ?_)
  repeat' first
    | (with_reducible exact LimIs.const _)
    | (with_reducible exact laws_markText.l0L_is _ _)
    | (with_reducible refine LimIs.ite ?_ ?_)
    | (with_reducible refine LimIs.bind ?_ (fun _ => ?_))
theorem laws_markText.fL_eq (a0 : Int) : laws_markText.fL a0 = if a0 ≤ 0 then (some (⟨#[109, 48]⟩ : ByteArray)) else (laws_markText.l0L a0 (⟨#[]⟩ : ByteArray)) := by
  refine LimIs.unique (laws_markText.fL_is a0) ?_
  unfold laws_markText.f
  repeat' first
    | (with_reducible exact LimIs.const _)
    | (with_reducible exact laws_markText.l0L_is _ _)
    | (with_reducible refine LimIs.ite ?_ ?_)
    | (with_reducible refine LimIs.bind ?_ (fun _ => ?_))
/-! ### laws_markRouteS -/
noncomputable def laws_markRouteS.l0L (x0 : List (S81)) (x1 : Int) (x5 : Int) : Option (Int × (List (S81))) := Lim (fun k => laws_markRouteS.l0 k x0 x1 x5)
theorem laws_markRouteS.l0L_is (x0 : List (S81)) (x1 : Int) (x5 : Int) : LimIs (fun k => laws_markRouteS.l0 k x0 x1 x5) (laws_markRouteS.l0L x0 x1 x5) := LimIs.of_mono (fun k r h => (laws_markRouteS.mono_l k) x0 x1 x5 r h)
noncomputable def laws_markRouteS.fL (l0 : List (S81)) (a1 : Int) : Option (Int × (List (S81))) := Lim (fun k => laws_markRouteS.f k l0 a1)
theorem laws_markRouteS.fL_is (l0 : List (S81)) (a1 : Int) : LimIs (fun k => laws_markRouteS.f k l0 a1) (laws_markRouteS.fL l0 a1) := LimIs.of_mono (fun k r h => laws_markRouteS.mono l0 a1 k r h)
theorem laws_markRouteS.l0L_eq (x0 : List (S81)) (x1 : Int) (x5 : Int) : laws_markRouteS.l0L x0 x1 x5 = if x5 < (x0.length : Int) then (if 0 ≤ x5 then ((some (x0.set (x5 : Int).toNat (⟨x1, (⟨(rd_T81 x0 x5).f1.f0, (rd_T81 x0 x5).f1.f1⟩ : S79)⟩ : S81) : List (S81))).bind fun y126 => ((laws_markText.fL (wrap64 (x1 + 1))).bind fun t127 => ((some (y126.set (x5 : Int).toNat (⟨(rd_T81 y126 x5).f0, (⟨t127, (rd_T81 y126 x5).f1.f1⟩ : S79)⟩ : S81) : List (S81))).bind fun y128 => ((laws_markText.fL (wrap64 ((wrap64 (x1 + 1)) + 1))).bind fun t129 => (laws_markRouteS.l0L (y128.set (x5 : Int).toNat (⟨(rd_T81 y128 x5).f0, (⟨(rd_T81 y128 x5).f1.f0, t129⟩ : S79)⟩ : S81)) (wrap64 ((wrap64 ((wrap64 (x1 + 1)) + 1)) + 1)) (wrap64 (x5 + 1))))))) else (none)) else (some (x1, x0)) := by
  refine LimIs.unique (laws_markRouteS.l0L_is x0 x1 x5) (LimIs.step (f := fun k => if x5 < (x0.length : Int) then (if 0 ≤ x5 then ((some (x0.set (x5 : Int).toNat (⟨x1, (⟨(rd_T81 x0 x5).f1.f0, (rd_T81 x0 x5).f1.f1⟩ : S79)⟩ : S81) : List (S81))).bind fun y126 => ((laws_markText.f k (wrap64 (x1 + 1))).bind fun t127 => ((some (y126.set (x5 : Int).toNat (⟨(rd_T81 y126 x5).f0, (⟨t127, (rd_T81 y126 x5).f1.f1⟩ : S79)⟩ : S81) : List (S81))).bind fun y128 => ((laws_markText.f k (wrap64 ((wrap64 (x1 + 1)) + 1))).bind fun t129 => (laws_markRouteS.l0 k (y128.set (x5 : Int).toNat (⟨(rd_T81 y128 x5).f0, (⟨(rd_T81 y128 x5).f1.f0, t129⟩ : S79)⟩ : S81)) (wrap64 ((wrap64 ((wrap64 (x1 + 1)) + 1)) + 1)) (wrap64 (x5 + 1))))))) else (none)) else (some (x1, x0))) (by simp only [laws_markRouteS.l0]) (fun k => by simp only [laws_markRouteS.l0]) ?_)
  repeat' first
    | (with_reducible exact LimIs.const _)
    | (with_reducible exact laws_markRouteS.l0L_is _ _ _)
    | (with_reducible exact laws_markText.fL_is _)
    | (with_reducible refine LimIs.ite ?_ ?_)
    | (with_reducible refine LimIs.bind ?_ (fun _ => ?_))
theorem laws_markRouteS.fL_eq (l0 : List (S81)) (a1 : Int) : laws_markRouteS.fL l0 a1 = laws_markRouteS.l0L l0 a1 0 := by
  refine LimIs.unique (laws_markRouteS.fL_is l0 a1) ?_
  unfold laws_markRouteS.f
  repeat' first
    | (with_reducible exact LimIs.const _)
    | (with_reducible exact laws_markRouteS.l0L_is _ _ _)
    | (with_reducible refine LimIs.ite ?_ ?_)
    | (with_reducible refine LimIs.bind ?_ (fun _ => ?_))
/-! ### laws_markMaster -/
noncomputable def laws_markMaster.fL (l0_0 : List (S81)) (a0_1 : Int) (a0_2 : Int) (a0_3 : Int) (a0_4 : Int) (a0_5 : ByteArray) (a0_6 : Int) (a0_7 : Int) (a0_8 : Int) (a0_9 : Int) (a1 : Int) : Option (Int × (List (S81))) := Lim (fun k => laws_markMaster.f k l0_0 a0_1 a0_2 a0_3 a0_4 a0_5 a0_6 a0_7 a0_8 a0_9 a1)
theorem laws_markMaster.fL_is (l0_0 : List (S81)) (a0_1 : Int) (a0_2 : Int) (a0_3 : Int) (a0_4 : Int) (a0_5 : ByteArray) (a0_6 : Int) (a0_7 : Int) (a0_8 : Int) (a0_9 : Int) (a1 : Int) : LimIs (fun k => laws_markMaster.f k l0_0 a0_1 a0_2 a0_3 a0_4 a0_5 a0_6 a0_7 a0_8 a0_9 a1) (laws_markMaster.fL l0_0 a0_1 a0_2 a0_3 a0_4 a0_5 a0_6 a0_7 a0_8 a0_9 a1) := LimIs.of_mono (fun k r h => laws_markMaster.mono l0_0 a0_1 a0_2 a0_3 a0_4 a0_5 a0_6 a0_7 a0_8 a0_9 a1 k r h)
theorem laws_markMaster.fL_eq (l0_0 : List (S81)) (a0_1 : Int) (a0_2 : Int) (a0_3 : Int) (a0_4 : Int) (a0_5 : ByteArray) (a0_6 : Int) (a0_7 : Int) (a0_8 : Int) (a0_9 : Int) (a1 : Int) : laws_markMaster.fL l0_0 a0_1 a0_2 a0_3 a0_4 a0_5 a0_6 a0_7 a0_8 a0_9 a1 = (laws_markRouteS.fL l0_0 a1).bind fun bt132 => (some (bt132.1, bt132.2)) := by
  refine LimIs.unique (laws_markMaster.fL_is l0_0 a0_1 a0_2 a0_3 a0_4 a0_5 a0_6 a0_7 a0_8 a0_9 a1) ?_
  unfold laws_markMaster.f
  repeat' first
    | (with_reducible exact LimIs.const _)
    | (with_reducible exact laws_markRouteS.fL_is _ _)
    | (with_reducible refine LimIs.ite ?_ ?_)
    | (with_reducible refine LimIs.bind ?_ (fun _ => ?_))
/-! ### laws_heldRouteS -/
noncomputable def laws_heldRouteS.l0L (x0 : List (S81)) (x1 : Int) (x5 : Int) : Option (Int) := Lim (fun k => laws_heldRouteS.l0 k x0 x1 x5)
theorem laws_heldRouteS.l0L_is (x0 : List (S81)) (x1 : Int) (x5 : Int) : LimIs (fun k => laws_heldRouteS.l0 k x0 x1 x5) (laws_heldRouteS.l0L x0 x1 x5) := LimIs.of_mono (fun k r h => (laws_heldRouteS.mono_l k) x0 x1 x5 r h)
noncomputable def laws_heldRouteS.fL (l0 : List (S81)) (a1 : Int) : Option (Int) := Lim (fun k => laws_heldRouteS.f k l0 a1)
theorem laws_heldRouteS.fL_is (l0 : List (S81)) (a1 : Int) : LimIs (fun k => laws_heldRouteS.f k l0 a1) (laws_heldRouteS.fL l0 a1) := LimIs.of_mono (fun k r h => laws_heldRouteS.mono l0 a1 k r h)
theorem laws_heldRouteS.l0L_eq (x0 : List (S81)) (x1 : Int) (x5 : Int) : laws_heldRouteS.l0L x0 x1 x5 = if x5 < (x0.length : Int) then (if 0 ≤ x5 then (if ((rd_T81 x0 x5).f0) = x1 then ((laws_markText.fL (wrap64 (x1 + 1))).bind fun t136 => (if ((rd_T81 x0 x5).f1.f0).toList = t136.toList then ((laws_markText.fL (wrap64 ((wrap64 (x1 + 1)) + 1))).bind fun t138 => (if ((rd_T81 x0 x5).f1.f1).toList = t138.toList then (laws_heldRouteS.l0L x0 (wrap64 ((wrap64 ((wrap64 (x1 + 1)) + 1)) + 1)) (wrap64 (x5 + 1))) else (some (-1)))) else (some (-1)))) else (some (-1))) else (none)) else (some x1) := by
  refine LimIs.unique (laws_heldRouteS.l0L_is x0 x1 x5) (LimIs.step (f := fun k => if x5 < (x0.length : Int) then (if 0 ≤ x5 then (if ((rd_T81 x0 x5).f0) = x1 then ((laws_markText.f k (wrap64 (x1 + 1))).bind fun t136 => (if ((rd_T81 x0 x5).f1.f0).toList = t136.toList then ((laws_markText.f k (wrap64 ((wrap64 (x1 + 1)) + 1))).bind fun t138 => (if ((rd_T81 x0 x5).f1.f1).toList = t138.toList then (laws_heldRouteS.l0 k x0 (wrap64 ((wrap64 ((wrap64 (x1 + 1)) + 1)) + 1)) (wrap64 (x5 + 1))) else (some (-1)))) else (some (-1)))) else (some (-1))) else (none)) else (some x1)) (by simp only [laws_heldRouteS.l0]) (fun k => by simp only [laws_heldRouteS.l0]) ?_)
  repeat' first
    | (with_reducible exact LimIs.const _)
    | (with_reducible exact laws_heldRouteS.l0L_is _ _ _)
    | (with_reducible exact laws_markText.fL_is _)
    | (with_reducible refine LimIs.ite ?_ ?_)
    | (with_reducible refine LimIs.bind ?_ (fun _ => ?_))
theorem laws_heldRouteS.fL_eq (l0 : List (S81)) (a1 : Int) : laws_heldRouteS.fL l0 a1 = laws_heldRouteS.l0L l0 a1 0 := by
  refine LimIs.unique (laws_heldRouteS.fL_is l0 a1) ?_
  unfold laws_heldRouteS.f
  repeat' first
    | (with_reducible exact LimIs.const _)
    | (with_reducible exact laws_heldRouteS.l0L_is _ _ _)
    | (with_reducible refine LimIs.ite ?_ ?_)
    | (with_reducible refine LimIs.bind ?_ (fun _ => ?_))
/-! ### laws_heldMaster -/
noncomputable def laws_heldMaster.fL (l0_0 : List (S81)) (a0_1 : Int) (a0_2 : Int) (a0_3 : Int) (a0_4 : Int) (a0_5 : ByteArray) (a0_6 : Int) (a0_7 : Int) (a0_8 : Int) (a0_9 : Int) (a1 : Int) : Option (Int) := Lim (fun k => laws_heldMaster.f k l0_0 a0_1 a0_2 a0_3 a0_4 a0_5 a0_6 a0_7 a0_8 a0_9 a1)
theorem laws_heldMaster.fL_is (l0_0 : List (S81)) (a0_1 : Int) (a0_2 : Int) (a0_3 : Int) (a0_4 : Int) (a0_5 : ByteArray) (a0_6 : Int) (a0_7 : Int) (a0_8 : Int) (a0_9 : Int) (a1 : Int) : LimIs (fun k => laws_heldMaster.f k l0_0 a0_1 a0_2 a0_3 a0_4 a0_5 a0_6 a0_7 a0_8 a0_9 a1) (laws_heldMaster.fL l0_0 a0_1 a0_2 a0_3 a0_4 a0_5 a0_6 a0_7 a0_8 a0_9 a1) := LimIs.of_mono (fun k r h => laws_heldMaster.mono l0_0 a0_1 a0_2 a0_3 a0_4 a0_5 a0_6 a0_7 a0_8 a0_9 a1 k r h)
theorem laws_heldMaster.fL_eq (l0_0 : List (S81)) (a0_1 : Int) (a0_2 : Int) (a0_3 : Int) (a0_4 : Int) (a0_5 : ByteArray) (a0_6 : Int) (a0_7 : Int) (a0_8 : Int) (a0_9 : Int) (a1 : Int) : laws_heldMaster.fL l0_0 a0_1 a0_2 a0_3 a0_4 a0_5 a0_6 a0_7 a0_8 a0_9 a1 = (laws_heldRouteS.fL l0_0 a1).bind fun t140 => (if t140 < 0 then (some (-1)) else (some t140)) := by
  refine LimIs.unique (laws_heldMaster.fL_is l0_0 a0_1 a0_2 a0_3 a0_4 a0_5 a0_6 a0_7 a0_8 a0_9 a1) ?_
  unfold laws_heldMaster.f
  repeat' first
    | (with_reducible exact LimIs.const _)
    | (with_reducible exact laws_heldRouteS.fL_is _ _)
    | (with_reducible refine LimIs.ite ?_ ?_)
    | (with_reducible refine LimIs.bind ?_ (fun _ => ?_))
/-! ### laws_FnExactNewMaster -/
noncomputable def laws_FnExactNewMaster.fL : Option (Bool) := Lim (fun k => laws_FnExactNewMaster.f k)
theorem laws_FnExactNewMaster.fL_is : LimIs (fun k => laws_FnExactNewMaster.f k) (laws_FnExactNewMaster.fL) := LimIs.of_mono (fun k r h => laws_FnExactNewMaster.mono k r h)
theorem laws_FnExactNewMaster.fL_eq : laws_FnExactNewMaster.fL = (spec_NewMaster.f).bind fun bt141 => ((impl_NewMaster.f).bind fun bt154 => ((laws_eqMaster.fL bt154.1 bt154.2.1 bt154.2.2.1 bt154.2.2.2.1 bt154.2.2.2.2.1 bt154.2.2.2.2.2.1 bt154.2.2.2.2.2.2.1 bt154.2.2.2.2.2.2.2.1 bt154.2.2.2.2.2.2.2.2.1 bt154.2.2.2.2.2.2.2.2.2 bt141.1 bt141.2.1 bt141.2.2.1 bt141.2.2.2.1 bt141.2.2.2.2.1 bt141.2.2.2.2.2.1 bt141.2.2.2.2.2.2.1 bt141.2.2.2.2.2.2.2.1 bt141.2.2.2.2.2.2.2.2.1 bt141.2.2.2.2.2.2.2.2.2).bind fun t167 => (if t167 = true then ((laws_markMaster.fL bt154.1 bt154.2.1 bt154.2.2.1 bt154.2.2.2.1 bt154.2.2.2.2.1 bt154.2.2.2.2.2.1 bt154.2.2.2.2.2.2.1 bt154.2.2.2.2.2.2.2.1 bt154.2.2.2.2.2.2.2.2.1 bt154.2.2.2.2.2.2.2.2.2 1).bind fun bt168 => ((laws_heldMaster.fL bt168.2 bt154.2.1 bt154.2.2.1 bt154.2.2.2.1 bt154.2.2.2.2.1 bt154.2.2.2.2.2.1 bt154.2.2.2.2.2.2.1 bt154.2.2.2.2.2.2.2.1 bt154.2.2.2.2.2.2.2.2.1 bt154.2.2.2.2.2.2.2.2.2 1).bind fun t170 => (if t170 < 0 then (some false) else (if t170 = bt168.1 then ((impl_NewMaster.f).bind fun bt171 => ((laws_eqMaster.fL bt171.1 bt171.2.1 bt171.2.2.1 bt171.2.2.2.1 bt171.2.2.2.2.1 bt171.2.2.2.2.2.1 bt171.2.2.2.2.2.2.1 bt171.2.2.2.2.2.2.2.1 bt171.2.2.2.2.2.2.2.2.1 bt171.2.2.2.2.2.2.2.2.2 bt141.1 bt141.2.1 bt141.2.2.1 bt141.2.2.2.1 bt141.2.2.2.2.1 bt141.2.2.2.2.2.1 bt141.2.2.2.2.2.2.1 bt141.2.2.2.2.2.2.2.1 bt141.2.2.2.2.2.2.2.2.1 bt141.2.2.2.2.2.2.2.2.2).bind fun t184 => (if t184 = true then ((laws_heldMaster.fL bt168.2 bt154.2.1 bt154.2.2.1 bt154.2.2.2.1 bt154.2.2.2.2.1 bt154.2.2.2.2.2.1 bt154.2.2.2.2.2.2.1 bt154.2.2.2.2.2.2.2.1 bt154.2.2.2.2.2.2.2.2.1 bt154.2.2.2.2.2.2.2.2.2 1).bind fun t185 => (if t185 < 0 then (some false) else (if t185 = bt168.1 then (some true) else (some false)))) else (some false)))) else (some false))))) else (some false)))) := by
  refine LimIs.unique (laws_FnExactNewMaster.fL_is) ?_
  unfold laws_FnExactNewMaster.f
  repeat' first
    | (with_reducible exact LimIs.const _)
    | (with_reducible exact laws_eqMaster.fL_is _ _ _ _ _ _ _ _ _ _ _ _ _ _ _ _ _ _ _ _)
    | (with_reducible exact laws_heldMaster.fL_is _ _ _ _ _ _ _ _ _ _ _)
    | (with_reducible exact laws_markMaster.fL_is _ _ _ _ _ _ _ _ _ _ _)
    | (with_reducible refine LimIs.ite ?_ ?_)
    | (with_reducible refine LimIs.bind ?_ (fun _ => ?_))
end Go.Proofs.Ytpeifepnaecjiaa.PFnExactNewMaster
