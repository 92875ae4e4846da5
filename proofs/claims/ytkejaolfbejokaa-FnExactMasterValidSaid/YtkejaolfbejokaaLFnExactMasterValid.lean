/- The limits of the printed functions, and their equations. Written by lim.py out of the print. No condition. -/
import Derived.Test.YtkejaolfbejokaaOFnExactMasterValid
import Derived.Test.YtkejaolfbejokaaLim
namespace Go.Proofs.Ytkejaolfbejokaa.PFnExactMasterValid
open Go.RowKit Go.Proofs.YtkejaolfbejokaaW.PrintWords Go.Proofs.YtkejaolfbejokaaW.PrintLast Go.Proofs.YtkejaolfbejokaaW.PrintMore Go.Proofs.Ytkejaolfbejokaa.Lim
set_option linter.unusedVariables false

/-! ### laws_szRouteS -/
noncomputable def laws_szRouteS.l0L (x0 : List (S162)) (x1 : Int) (x5 : Int) : Option (Int) := Lim (fun k => laws_szRouteS.l0 k x0 x1 x5)
theorem laws_szRouteS.l0L_is (x0 : List (S162)) (x1 : Int) (x5 : Int) : LimIs (fun k => laws_szRouteS.l0 k x0 x1 x5) (laws_szRouteS.l0L x0 x1 x5) := LimIs.of_mono (fun k r h => (laws_szRouteS.mono_l k) x0 x1 x5 r h)
noncomputable def laws_szRouteS.fL (l0 : List (S162)) (a1 : Int) : Option (Int) := Lim (fun k => laws_szRouteS.f k l0 a1)
theorem laws_szRouteS.fL_is (l0 : List (S162)) (a1 : Int) : LimIs (fun k => laws_szRouteS.f k l0 a1) (laws_szRouteS.fL l0 a1) := LimIs.of_mono (fun k r h => laws_szRouteS.mono l0 a1 k r h)
theorem laws_szRouteS.l0L_eq (x0 : List (S162)) (x1 : Int) (x5 : Int) : laws_szRouteS.l0L x0 x1 x5 = if x5 < (x0.length : Int) then (if 0 ≤ x5 then ((laws_szRoute.f ((rd_T162 x0 x5).f0) ((rd_T162 x0 x5).f1.f0) ((rd_T162 x0 x5).f1.f1) x1).bind fun t105 => (if t105 < 0 then (some (-1)) else (laws_szRouteS.l0L x0 t105 (wrap64 (x5 + 1))))) else (none)) else (some x1) := by
  refine LimIs.unique (laws_szRouteS.l0L_is x0 x1 x5) (LimIs.step (f := fun k => if x5 < (x0.length : Int) then (if 0 ≤ x5 then ((laws_szRoute.f ((rd_T162 x0 x5).f0) ((rd_T162 x0 x5).f1.f0) ((rd_T162 x0 x5).f1.f1) x1).bind fun t105 => (if t105 < 0 then (some (-1)) else (laws_szRouteS.l0 k x0 t105 (wrap64 (x5 + 1))))) else (none)) else (some x1)) (by simp only [laws_szRouteS.l0]) (fun k => by simp only [laws_szRouteS.l0]) ?_)
  repeat' first
    | (with_reducible exact LimIs.const _)
    | (with_reducible exact laws_szRouteS.l0L_is _ _ _)
    | (with_reducible refine LimIs.ite ?_ ?_)
    | (with_reducible refine LimIs.bind ?_ (fun _ => ?_))
theorem laws_szRouteS.fL_eq (l0 : List (S162)) (a1 : Int) : laws_szRouteS.fL l0 a1 = if (wrap64 (a1 - (l0.length : Int))) < 0 then (some (-1)) else (laws_szRouteS.l0L l0 (wrap64 (a1 - (l0.length : Int))) 0) := by
  refine LimIs.unique (laws_szRouteS.fL_is l0 a1) ?_
  unfold laws_szRouteS.f
  repeat' first
    | (with_reducible exact LimIs.const _)
    | (with_reducible exact laws_szRouteS.l0L_is _ _ _)
    | (with_reducible refine LimIs.ite ?_ ?_)
    | (with_reducible refine LimIs.bind ?_ (fun _ => ?_))
/-! ### laws_szMaster -/
noncomputable def laws_szMaster.fL (l0_0 : List (S162)) (a0_1 : Int) (a0_2 : Int) (a0_3 : Int) (a0_4 : Int) (a0_5 : ByteArray) (a0_6 : Int) (a0_7 : Int) (a0_8 : Int) (a0_9 : Int) (a1 : Int) : Option (Int) := Lim (fun k => laws_szMaster.f k l0_0 a0_1 a0_2 a0_3 a0_4 a0_5 a0_6 a0_7 a0_8 a0_9 a1)
theorem laws_szMaster.fL_is (l0_0 : List (S162)) (a0_1 : Int) (a0_2 : Int) (a0_3 : Int) (a0_4 : Int) (a0_5 : ByteArray) (a0_6 : Int) (a0_7 : Int) (a0_8 : Int) (a0_9 : Int) (a1 : Int) : LimIs (fun k => laws_szMaster.f k l0_0 a0_1 a0_2 a0_3 a0_4 a0_5 a0_6 a0_7 a0_8 a0_9 a1) (laws_szMaster.fL l0_0 a0_1 a0_2 a0_3 a0_4 a0_5 a0_6 a0_7 a0_8 a0_9 a1) := LimIs.of_mono (fun k r h => laws_szMaster.mono l0_0 a0_1 a0_2 a0_3 a0_4 a0_5 a0_6 a0_7 a0_8 a0_9 a1 k r h)
theorem laws_szMaster.fL_eq (l0_0 : List (S162)) (a0_1 : Int) (a0_2 : Int) (a0_3 : Int) (a0_4 : Int) (a0_5 : ByteArray) (a0_6 : Int) (a0_7 : Int) (a0_8 : Int) (a0_9 : Int) (a1 : Int) : laws_szMaster.fL l0_0 a0_1 a0_2 a0_3 a0_4 a0_5 a0_6 a0_7 a0_8 a0_9 a1 = (laws_szRouteS.fL l0_0 a1).bind fun t108 => (if t108 < 0 then (some (-1)) else ((laws_szPlan.f a0_2 a0_3 a0_4 a0_5 a0_6 a0_7 a0_8 t108).bind fun t109 => (if t109 < 0 then (some (-1)) else (some t109)))) := by
  refine LimIs.unique (laws_szMaster.fL_is l0_0 a0_1 a0_2 a0_3 a0_4 a0_5 a0_6 a0_7 a0_8 a0_9 a1) ?_
  unfold laws_szMaster.f
  repeat' first
    | (with_reducible exact LimIs.const _)
    | (with_reducible exact laws_szRouteS.fL_is _ _)
    | (with_reducible refine LimIs.ite ?_ ?_)
    | (with_reducible refine LimIs.bind ?_ (fun _ => ?_))
/-! ### spec_KeyValid -/
noncomputable def spec_KeyValid.l0L (x0 : ByteArray) (x3 : Int) : Option (Bool) := Lim (fun k => spec_KeyValid.l0 k x0 x3)
theorem spec_KeyValid.l0L_is (x0 : ByteArray) (x3 : Int) : LimIs (fun k => spec_KeyValid.l0 k x0 x3) (spec_KeyValid.l0L x0 x3) := LimIs.of_mono (fun k r h => (spec_KeyValid.mono_l k) x0 x3 r h)
noncomputable def spec_KeyValid.fL (a0 : ByteArray) : Option (Bool) := Lim (fun k => spec_KeyValid.f k a0)
theorem spec_KeyValid.fL_is (a0 : ByteArray) : LimIs (fun k => spec_KeyValid.f k a0) (spec_KeyValid.fL a0) := LimIs.of_mono (fun k r h => spec_KeyValid.mono a0 k r h)
theorem spec_KeyValid.l0L_eq (x0 : ByteArray) (x3 : Int) : spec_KeyValid.l0L x0 x3 = if x3 < (x0.size : Int) then (if 0 ≤ x3 then (if (bt x0 x3) < 97 then (some false) else (if (bt x0 x3) > 122 then (some false) else (spec_KeyValid.l0L x0 (wrap64 (x3 + 1))))) else (none)) else (some true) := by
  refine LimIs.unique (spec_KeyValid.l0L_is x0 x3) (LimIs.step (f := fun k => if x3 < (x0.size : Int) then (if 0 ≤ x3 then (if (bt x0 x3) < 97 then (some false) else (if (bt x0 x3) > 122 then (some false) else (spec_KeyValid.l0 k x0 (wrap64 (x3 + 1))))) else (none)) else (some true)) (by simp only [spec_KeyValid.l0]) (fun k => by simp only [spec_KeyValid.l0]) ?_)
  repeat' first
    | (with_reducible exact LimIs.const _)
    | (with_reducible exact spec_KeyValid.l0L_is _ _)
    | (with_reducible refine LimIs.ite ?_ ?_)
    | (with_reducible refine LimIs.bind ?_ (fun _ => ?_))
theorem spec_KeyValid.fL_eq (a0 : ByteArray) : spec_KeyValid.fL a0 = (spec_l1In.f (a0.size : Int) 1 4).bind fun t110 => (if t110 = true then (spec_KeyValid.l0L a0 0) else (some false)) := by
  refine LimIs.unique (spec_KeyValid.fL_is a0) ?_
  unfold spec_KeyValid.f
  repeat' first
    | (with_reducible exact LimIs.const _)
    | (with_reducible exact spec_KeyValid.l0L_is _ _)
    | (with_reducible refine LimIs.ite ?_ ?_)
    | (with_reducible refine LimIs.bind ?_ (fun _ => ?_))
/-! ### spec_IntervalValid -/
noncomputable def spec_IntervalValid.fL (a0_0 : ByteArray) (a0_1 : ByteArray) : Option (Bool) := Lim (fun k => spec_IntervalValid.f k a0_0 a0_1)
theorem spec_IntervalValid.fL_is (a0_0 : ByteArray) (a0_1 : ByteArray) : LimIs (fun k => spec_IntervalValid.f k a0_0 a0_1) (spec_IntervalValid.fL a0_0 a0_1) := LimIs.of_mono (fun k r h => spec_IntervalValid.mono a0_0 a0_1 k r h)
theorem spec_IntervalValid.fL_eq (a0_0 : ByteArray) (a0_1 : ByteArray) : spec_IntervalValid.fL a0_0 a0_1 = if a0_0.toList = ([] : List UInt8) then (if a0_1.toList = ([] : List UInt8) then (some true) else ((spec_KeyValid.fL a0_1).bind fun t112 => (if t112 = true then (if (Op.bytesLess a0_0.toList a0_1.toList) = true then (some (a0_1.toList != ([97] : List UInt8))) else (some false)) else (some false)))) else ((spec_KeyValid.fL a0_0).bind fun t113 => (if t113 = true then (if a0_1.toList = ([] : List UInt8) then (some true) else ((spec_KeyValid.fL a0_1).bind fun t114 => (if t114 = true then (if (Op.bytesLess a0_0.toList a0_1.toList) = true then (some true) else (some false)) else (some false)))) else (some false))) := by
  refine LimIs.unique (spec_IntervalValid.fL_is a0_0 a0_1) ?_
  unfold spec_IntervalValid.f
  repeat' first
    | (with_reducible exact LimIs.const _)
    | (with_reducible exact spec_KeyValid.fL_is _)
    | (with_reducible refine LimIs.ite ?_ ?_)
    | (with_reducible refine LimIs.bind ?_ (fun _ => ?_))
/-! ### spec_IntervalJoin -/
noncomputable def spec_IntervalJoin.fL (a0_0 : ByteArray) (a0_1 : ByteArray) (a1_0 : ByteArray) (a1_1 : ByteArray) : Option (ByteArray × ByteArray × Bool) := Lim (fun k => spec_IntervalJoin.f k a0_0 a0_1 a1_0 a1_1)
theorem spec_IntervalJoin.fL_is (a0_0 : ByteArray) (a0_1 : ByteArray) (a1_0 : ByteArray) (a1_1 : ByteArray) : LimIs (fun k => spec_IntervalJoin.f k a0_0 a0_1 a1_0 a1_1) (spec_IntervalJoin.fL a0_0 a0_1 a1_0 a1_1) := LimIs.of_mono (fun k r h => spec_IntervalJoin.mono a0_0 a0_1 a1_0 a1_1 k r h)
theorem spec_IntervalJoin.fL_eq (a0_0 : ByteArray) (a0_1 : ByteArray) (a1_0 : ByteArray) (a1_1 : ByteArray) : spec_IntervalJoin.fL a0_0 a0_1 a1_0 a1_1 = (spec_IntervalValid.fL a0_0 a0_1).bind fun t118 => (if t118 = true then ((spec_IntervalValid.fL a1_0 a1_1).bind fun t119 => (if t119 = true then (if a0_1.toList = ([] : List UInt8) then (some ((⟨#[]⟩ : ByteArray), (⟨#[]⟩ : ByteArray), false)) else (if a0_1.toList = a1_0.toList then (some (a0_0, a1_1, true)) else (some ((⟨#[]⟩ : ByteArray), (⟨#[]⟩ : ByteArray), false)))) else (some ((⟨#[]⟩ : ByteArray), (⟨#[]⟩ : ByteArray), false)))) else (some ((⟨#[]⟩ : ByteArray), (⟨#[]⟩ : ByteArray), false))) := by
  refine LimIs.unique (spec_IntervalJoin.fL_is a0_0 a0_1 a1_0 a1_1) ?_
  unfold spec_IntervalJoin.f
  repeat' first
    | (with_reducible exact LimIs.const _)
    | (with_reducible exact spec_IntervalValid.fL_is _ _)
    | (with_reducible refine LimIs.ite ?_ ?_)
    | (with_reducible refine LimIs.bind ?_ (fun _ => ?_))
/-! ### spec_PartitionValid -/
noncomputable def spec_PartitionValid.j0L (x0 : List (S127)) (x33 : Bool) : Option (Bool) := Lim (fun k => spec_PartitionValid.j0 k x0 x33)
theorem spec_PartitionValid.j0L_is (x0 : List (S127)) (x33 : Bool) : LimIs (fun k => spec_PartitionValid.j0 k x0 x33) (spec_PartitionValid.j0L x0 x33) := LimIs.of_mono (fun k r h => (spec_PartitionValid.mono_l k).1 x0 x33 r h)
noncomputable def spec_PartitionValid.l0L (x0 : List (S127)) (x3 : Int) : Option (Bool) := Lim (fun k => spec_PartitionValid.l0 k x0 x3)
theorem spec_PartitionValid.l0L_is (x0 : List (S127)) (x3 : Int) : LimIs (fun k => spec_PartitionValid.l0 k x0 x3) (spec_PartitionValid.l0L x0 x3) := LimIs.of_mono (fun k r h => (spec_PartitionValid.mono_l k).2 x0 x3 r h)
noncomputable def spec_PartitionValid.fL (l0 : List (S127)) : Option (Bool) := Lim (fun k => spec_PartitionValid.f k l0)
theorem spec_PartitionValid.fL_is (l0 : List (S127)) : LimIs (fun k => spec_PartitionValid.f k l0) (spec_PartitionValid.fL l0) := LimIs.of_mono (fun k r h => spec_PartitionValid.mono l0 k r h)
theorem spec_PartitionValid.j0L_eq (x0 : List (S127)) (x33 : Bool) : spec_PartitionValid.j0L x0 x33 = if x33 = true then (some false) else (spec_PartitionValid.l0L x0 1) := by
  refine LimIs.unique (spec_PartitionValid.j0L_is x0 x33) (LimIs.step (f := fun k => if x33 = true then (some false) else (spec_PartitionValid.l0 k x0 1)) (by simp only [spec_PartitionValid.j0]) (fun k => by simp only [spec_PartitionValid.j0]) ?_)
  repeat' first
    | (with_reducible exact LimIs.const _)
    | (with_reducible exact spec_PartitionValid.l0L_is _ _)
    | (with_reducible refine LimIs.ite ?_ ?_)
    | (with_reducible refine LimIs.bind ?_ (fun _ => ?_))
theorem spec_PartitionValid.l0L_eq (x0 : List (S127)) (x3 : Int) : spec_PartitionValid.l0L x0 x3 = if x3 < (x0.length : Int) then (if 0 ≤ (wrap64 (x3 - 1)) then (if (wrap64 (x3 - 1)) < (x0.length : Int) then (if 0 ≤ x3 then ((spec_IntervalJoin.fL ((rd_T127 x0 (wrap64 (x3 - 1))).f0) ((rd_T127 x0 (wrap64 (x3 - 1))).f1) ((rd_T127 x0 x3).f0) ((rd_T127 x0 x3).f1)).bind fun bt127 => (if bt127.2.2 = true then (spec_PartitionValid.l0L x0 (wrap64 (x3 + 1))) else (some false))) else (none)) else (none)) else (none)) else (some true) := by
  refine LimIs.unique (spec_PartitionValid.l0L_is x0 x3) (LimIs.step (f := fun k => if x3 < (x0.length : Int) then (if 0 ≤ (wrap64 (x3 - 1)) then (if (wrap64 (x3 - 1)) < (x0.length : Int) then (if 0 ≤ x3 then ((spec_IntervalJoin.f k ((rd_T127 x0 (wrap64 (x3 - 1))).f0) ((rd_T127 x0 (wrap64 (x3 - 1))).f1) ((rd_T127 x0 x3).f0) ((rd_T127 x0 x3).f1)).bind fun bt127 => (if bt127.2.2 = true then (spec_PartitionValid.l0 k x0 (wrap64 (x3 + 1))) else (some false))) else (none)) else (none)) else (none)) else (some true)) (by simp only [spec_PartitionValid.l0]) (fun k => by simp only [spec_PartitionValid.l0]) ?_)
  repeat' first
    | (with_reducible exact LimIs.const _)
    | (with_reducible exact spec_IntervalJoin.fL_is _ _ _ _)
    | (with_reducible exact spec_PartitionValid.l0L_is _ _)
    | (with_reducible refine LimIs.ite ?_ ?_)
    | (with_reducible refine LimIs.bind ?_ (fun _ => ?_))
theorem spec_PartitionValid.fL_eq (l0 : List (S127)) : spec_PartitionValid.fL l0 = (spec_l1In.f (l0.length : Int) 1 6).bind fun t120 => (if t120 = true then (if 0 < (l0.length : Int) then ((spec_IntervalValid.fL ((rd_T127 l0 0).f0) ((rd_T127 l0 0).f1)).bind fun t122 => (if t122 = true then (if ((rd_T127 l0 0).f0).toList = ([] : List UInt8) then (if 0 ≤ (wrap64 ((l0.length : Int) - 1)) then (if (wrap64 ((l0.length : Int) - 1)) < (l0.length : Int) then (spec_PartitionValid.j0L l0 (((rd_T127 l0 (wrap64 ((l0.length : Int) - 1))).f1).toList != ([] : List UInt8))) else (none)) else (none)) else (spec_PartitionValid.j0L l0 true)) else (spec_PartitionValid.j0L l0 true))) else (none)) else (spec_PartitionValid.j0L l0 true)) := by
  refine LimIs.unique (spec_PartitionValid.fL_is l0) ?_
  unfold spec_PartitionValid.f
  repeat' first
    | (with_reducible exact LimIs.const _)
    | (with_reducible exact spec_IntervalValid.fL_is _ _)
    | (with_reducible exact spec_PartitionValid.j0L_is _ _)
    | (with_reducible refine LimIs.ite ?_ ?_)
    | (with_reducible refine LimIs.bind ?_ (fun _ => ?_))
/-! ### spec_RoutesValid -/
noncomputable def spec_RoutesValid.l0L (x0 : List (S129)) (x3 : List (S127)) (x4 : Int) : Option (Bool) := Lim (fun k => spec_RoutesValid.l0 k x0 x3 x4)
theorem spec_RoutesValid.l0L_is (x0 : List (S129)) (x3 : List (S127)) (x4 : Int) : LimIs (fun k => spec_RoutesValid.l0 k x0 x3 x4) (spec_RoutesValid.l0L x0 x3 x4) := LimIs.of_mono (fun k r h => (spec_RoutesValid.mono_l k).1 x0 x3 x4 r h)
noncomputable def spec_RoutesValid.j1L (x0 : List (S129)) (x3 : List (S127)) (x4 : Int) (x23 : Bool) : Option (Bool) := Lim (fun k => spec_RoutesValid.j1 k x0 x3 x4 x23)
theorem spec_RoutesValid.j1L_is (x0 : List (S129)) (x3 : List (S127)) (x4 : Int) (x23 : Bool) : LimIs (fun k => spec_RoutesValid.j1 k x0 x3 x4 x23) (spec_RoutesValid.j1L x0 x3 x4 x23) := LimIs.of_mono (fun k r h => (spec_RoutesValid.mono_l k).2.1 x0 x3 x4 x23 r h)
noncomputable def spec_RoutesValid.l1L (x0 : List (S129)) (x3 : List (S127)) (x4 : Int) (x5 : Int) : Option (Bool) := Lim (fun k => spec_RoutesValid.l1 k x0 x3 x4 x5)
theorem spec_RoutesValid.l1L_is (x0 : List (S129)) (x3 : List (S127)) (x4 : Int) (x5 : Int) : LimIs (fun k => spec_RoutesValid.l1 k x0 x3 x4 x5) (spec_RoutesValid.l1L x0 x3 x4 x5) := LimIs.of_mono (fun k r h => (spec_RoutesValid.mono_l k).2.2 x0 x3 x4 x5 r h)
noncomputable def spec_RoutesValid.fL (l0 : List (S129)) : Option (Bool) := Lim (fun k => spec_RoutesValid.f k l0)
theorem spec_RoutesValid.fL_is (l0 : List (S129)) : LimIs (fun k => spec_RoutesValid.f k l0) (spec_RoutesValid.fL l0) := LimIs.of_mono (fun k r h => spec_RoutesValid.mono l0 k r h)
theorem spec_RoutesValid.l0L_eq (x0 : List (S129)) (x3 : List (S127)) (x4 : Int) : spec_RoutesValid.l0L x0 x3 x4 = if x4 < (x0.length : Int) then (if x4 ≥ 6 then (spec_RoutesValid.j1L x0 x3 x4 true) else (if 0 ≤ x4 then ((spec_l1In.f ((rd_T129 x0 x4).f0) 0 7).bind fun t136 => (spec_RoutesValid.j1L x0 x3 x4 (!t136))) else (none))) else ((spec_PartitionValid.fL x3).bind fun t134 => (some t134)) := by
  refine LimIs.unique (spec_RoutesValid.l0L_is x0 x3 x4) (LimIs.step (f := fun k => if x4 < (x0.length : Int) then (if x4 ≥ 6 then (spec_RoutesValid.j1 k x0 x3 x4 true) else (if 0 ≤ x4 then ((spec_l1In.f ((rd_T129 x0 x4).f0) 0 7).bind fun t136 => (spec_RoutesValid.j1 k x0 x3 x4 (!t136))) else (none))) else ((spec_PartitionValid.f k x3).bind fun t134 => (some t134))) (by simp only [spec_RoutesValid.l0]) (fun k => by simp only [spec_RoutesValid.l0]) ?_)
  repeat' first
    | (with_reducible exact LimIs.const _)
    | (with_reducible exact spec_PartitionValid.fL_is _)
    | (with_reducible exact spec_RoutesValid.j1L_is _ _ _ _)
    | (with_reducible refine LimIs.ite ?_ ?_)
    | (with_reducible refine LimIs.bind ?_ (fun _ => ?_))
theorem spec_RoutesValid.j1L_eq (x0 : List (S129)) (x3 : List (S127)) (x4 : Int) (x23 : Bool) : spec_RoutesValid.j1L x0 x3 x4 x23 = if x23 = true then (some false) else (spec_RoutesValid.l1L x0 x3 x4 0) := by
  refine LimIs.unique (spec_RoutesValid.j1L_is x0 x3 x4 x23) (LimIs.step (f := fun k => if x23 = true then (some false) else (spec_RoutesValid.l1 k x0 x3 x4 0)) (by simp only [spec_RoutesValid.j1]) (fun k => by simp only [spec_RoutesValid.j1]) ?_)
  repeat' first
    | (with_reducible exact LimIs.const _)
    | (with_reducible exact spec_RoutesValid.l1L_is _ _ _ _)
    | (with_reducible refine LimIs.ite ?_ ?_)
    | (with_reducible refine LimIs.bind ?_ (fun _ => ?_))
theorem spec_RoutesValid.l1L_eq (x0 : List (S129)) (x3 : List (S127)) (x4 : Int) (x5 : Int) : spec_RoutesValid.l1L x0 x3 x4 x5 = if x5 < x4 then (if 0 ≤ x5 then (if x5 < (x0.length : Int) then (if 0 ≤ x4 then (if x4 < (x0.length : Int) then (if ((rd_T129 x0 x5).f0) = ((rd_T129 x0 x4).f0) then (some false) else (spec_RoutesValid.l1L x0 x3 x4 (wrap64 (x5 + 1)))) else (none)) else (none)) else (none)) else (none)) else (if 0 ≤ x4 then (if x4 < (x0.length : Int) then (if x3.length < 4398046511104 then (spec_RoutesValid.l0L x0 (x3 ++ [(⟨(rd_T129 x0 x4).f1.f0, (rd_T129 x0 x4).f1.f1⟩ : S127)]) (wrap64 (x4 + 1))) else (none)) else (none)) else (none)) := by
  refine LimIs.unique (spec_RoutesValid.l1L_is x0 x3 x4 x5) (LimIs.step (f := fun k => if x5 < x4 then (if 0 ≤ x5 then (if x5 < (x0.length : Int) then (if 0 ≤ x4 then (if x4 < (x0.length : Int) then (if ((rd_T129 x0 x5).f0) = ((rd_T129 x0 x4).f0) then (some false) else (spec_RoutesValid.l1 k x0 x3 x4 (wrap64 (x5 + 1)))) else (none)) else (none)) else (none)) else (none)) else (if 0 ≤ x4 then (if x4 < (x0.length : Int) then (if x3.length < 4398046511104 then (spec_RoutesValid.l0 k x0 (x3 ++ [(⟨(rd_T129 x0 x4).f1.f0, (rd_T129 x0 x4).f1.f1⟩ : S127)]) (wrap64 (x4 + 1))) else (none)) else (none)) else (none))) (by simp only [spec_RoutesValid.l1]) (fun k => by simp only [spec_RoutesValid.l1]) ?_)
  repeat' first
    | (with_reducible exact LimIs.const _)
    | (with_reducible exact spec_RoutesValid.l0L_is _ _ _)
    | (with_reducible exact spec_RoutesValid.l1L_is _ _ _ _)
    | (with_reducible refine LimIs.ite ?_ ?_)
    | (with_reducible refine LimIs.bind ?_ (fun _ => ?_))
theorem spec_RoutesValid.fL_eq (l0 : List (S129)) : spec_RoutesValid.fL l0 = spec_RoutesValid.l0L l0 (([] : List (S127))) 0 := by
  refine LimIs.unique (spec_RoutesValid.fL_is l0) ?_
  unfold spec_RoutesValid.f
  repeat' first
    | (with_reducible exact LimIs.const _)
    | (with_reducible exact spec_RoutesValid.l0L_is _ _ _)
    | (with_reducible refine LimIs.ite ?_ ?_)
    | (with_reducible refine LimIs.bind ?_ (fun _ => ?_))
/-! ### spec_PlanValid -/
noncomputable def spec_PlanValid.fL (a0_0 : Int) (a0_1 : Int) (a0_2 : Int) (a0_3 : ByteArray) (a0_4 : Int) (a0_5 : Int) (a0_6 : Int) : Option (Bool) := Lim (fun k => spec_PlanValid.f k a0_0 a0_1 a0_2 a0_3 a0_4 a0_5 a0_6)
theorem spec_PlanValid.fL_is (a0_0 : Int) (a0_1 : Int) (a0_2 : Int) (a0_3 : ByteArray) (a0_4 : Int) (a0_5 : Int) (a0_6 : Int) : LimIs (fun k => spec_PlanValid.f k a0_0 a0_1 a0_2 a0_3 a0_4 a0_5 a0_6) (spec_PlanValid.fL a0_0 a0_1 a0_2 a0_3 a0_4 a0_5 a0_6) := LimIs.of_mono (fun k r h => spec_PlanValid.mono a0_0 a0_1 a0_2 a0_3 a0_4 a0_5 a0_6 k r h)
theorem spec_PlanValid.fL_eq (a0_0 : Int) (a0_1 : Int) (a0_2 : Int) (a0_3 : ByteArray) (a0_4 : Int) (a0_5 : Int) (a0_6 : Int) : spec_PlanValid.fL a0_0 a0_1 a0_2 a0_3 a0_4 a0_5 a0_6 = (spec_l1In.f a0_1 0 7).bind fun t144 => (if t144 = true then (if a0_0 = 1 then ((spec_KeyValid.fL a0_3).bind fun t145 => (if t145 = true then (if a0_2 = 0 then (if a0_4 = 0 then (if a0_5 = 0 then (some (a0_6 == 0)) else (some false)) else (some false)) else (some false)) else (some false))) else (if a0_0 = 2 then ((spec_l1In.f a0_2 0 7).bind fun t146 => (if t146 = true then (if a0_2 = a0_1 then (some false) else (if a0_3.toList = ([] : List UInt8) then (if a0_4 = 0 then (if a0_5 = 0 then (some (a0_6 == 0)) else (some false)) else (some false)) else (some false))) else (some false))) else (if a0_0 = 3 then ((spec_l1In.f a0_4 0 4).bind fun t147 => (if t147 = true then ((spec_l1In.f a0_5 0 4).bind fun t148 => (if t148 = true then (if a0_4 = a0_5 then (some false) else ((spec_l1In.f a0_6 0 1).bind fun t149 => (if t149 = true then (if a0_2 = 0 then (some (a0_3.toList == ([] : List UInt8))) else (some false)) else (some false)))) else (some false))) else (some false))) else (some false)))) else (some false)) := by
  refine LimIs.unique (spec_PlanValid.fL_is a0_0 a0_1 a0_2 a0_3 a0_4 a0_5 a0_6) ?_
  unfold spec_PlanValid.f
  repeat' first
    | (with_reducible exact LimIs.const _)
    | (with_reducible exact spec_KeyValid.fL_is _)
    | (with_reducible refine LimIs.ite ?_ ?_)
    | (with_reducible refine LimIs.bind ?_ (fun _ => ?_))
/-! ### spec_l27Work -/
noncomputable def spec_l27Work.fL (a0_0 : Int) (a0_1 : Int) (a0_2 : Int) (a0_3 : ByteArray) (a0_4 : Int) (a0_5 : Int) (a0_6 : Int) (a1 : Int) : Option (Bool) := Lim (fun k => spec_l27Work.f k a0_0 a0_1 a0_2 a0_3 a0_4 a0_5 a0_6 a1)
theorem spec_l27Work.fL_is (a0_0 : Int) (a0_1 : Int) (a0_2 : Int) (a0_3 : ByteArray) (a0_4 : Int) (a0_5 : Int) (a0_6 : Int) (a1 : Int) : LimIs (fun k => spec_l27Work.f k a0_0 a0_1 a0_2 a0_3 a0_4 a0_5 a0_6 a1) (spec_l27Work.fL a0_0 a0_1 a0_2 a0_3 a0_4 a0_5 a0_6 a1) := LimIs.of_mono (fun k r h => spec_l27Work.mono a0_0 a0_1 a0_2 a0_3 a0_4 a0_5 a0_6 a1 k r h)
theorem spec_l27Work.fL_eq (a0_0 : Int) (a0_1 : Int) (a0_2 : Int) (a0_3 : ByteArray) (a0_4 : Int) (a0_5 : Int) (a0_6 : Int) (a1 : Int) : spec_l27Work.fL a0_0 a0_1 a0_2 a0_3 a0_4 a0_5 a0_6 a1 = if (a0_0 == 0 && (a0_1 == 0 && (a0_2 == 0 && (a0_3.toList == ([] : List UInt8) && (a0_4 == 0 && (a0_5 == 0 && (a0_6 == 0))))))) = true then (some true) else ((spec_PlanValid.fL a0_0 a0_1 a0_2 a0_3 a0_4 a0_5 a0_6).bind fun t151 => (if t151 = true then (if a0_1 < a1 then (some (decide (a0_2 < a1))) else (some false)) else (some false))) := by
  refine LimIs.unique (spec_l27Work.fL_is a0_0 a0_1 a0_2 a0_3 a0_4 a0_5 a0_6 a1) ?_
  unfold spec_l27Work.f
  repeat' first
    | (with_reducible exact LimIs.const _)
    | (with_reducible exact spec_PlanValid.fL_is _ _ _ _ _ _ _)
    | (with_reducible refine LimIs.ite ?_ ?_)
    | (with_reducible refine LimIs.bind ?_ (fun _ => ?_))
/-! ### spec_MasterValid -/
noncomputable def spec_MasterValid.j0L (x27 : Bool) (x153000 : List (S129)) (x153001 : Int) (x153002 : Int) (x153003 : Int) (x153004 : Int) (x153005 : ByteArray) (x153006 : Int) (x153007 : Int) (x153008 : Int) (x153009 : Int) : Option (Bool) := Lim (fun k => spec_MasterValid.j0 k x27 x153000 x153001 x153002 x153003 x153004 x153005 x153006 x153007 x153008 x153009)
theorem spec_MasterValid.j0L_is (x27 : Bool) (x153000 : List (S129)) (x153001 : Int) (x153002 : Int) (x153003 : Int) (x153004 : Int) (x153005 : ByteArray) (x153006 : Int) (x153007 : Int) (x153008 : Int) (x153009 : Int) : LimIs (fun k => spec_MasterValid.j0 k x27 x153000 x153001 x153002 x153003 x153004 x153005 x153006 x153007 x153008 x153009) (spec_MasterValid.j0L x27 x153000 x153001 x153002 x153003 x153004 x153005 x153006 x153007 x153008 x153009) := LimIs.of_mono (fun k r h => (spec_MasterValid.mono_l k).1 x27 x153000 x153001 x153002 x153003 x153004 x153005 x153006 x153007 x153008 x153009 r h)
noncomputable def spec_MasterValid.l0L (x3 : Int) (x153000 : List (S129)) (x153001 : Int) (x153002 : Int) (x153003 : Int) (x153004 : Int) (x153005 : ByteArray) (x153006 : Int) (x153007 : Int) (x153008 : Int) (x153009 : Int) : Option (Bool) := Lim (fun k => spec_MasterValid.l0 k x3 x153000 x153001 x153002 x153003 x153004 x153005 x153006 x153007 x153008 x153009)
theorem spec_MasterValid.l0L_is (x3 : Int) (x153000 : List (S129)) (x153001 : Int) (x153002 : Int) (x153003 : Int) (x153004 : Int) (x153005 : ByteArray) (x153006 : Int) (x153007 : Int) (x153008 : Int) (x153009 : Int) : LimIs (fun k => spec_MasterValid.l0 k x3 x153000 x153001 x153002 x153003 x153004 x153005 x153006 x153007 x153008 x153009) (spec_MasterValid.l0L x3 x153000 x153001 x153002 x153003 x153004 x153005 x153006 x153007 x153008 x153009) := LimIs.of_mono (fun k r h => (spec_MasterValid.mono_l k).2 x3 x153000 x153001 x153002 x153003 x153004 x153005 x153006 x153007 x153008 x153009 r h)
noncomputable def spec_MasterValid.fL (l0_0 : List (S129)) (a0_1 : Int) (a0_2 : Int) (a0_3 : Int) (a0_4 : Int) (a0_5 : ByteArray) (a0_6 : Int) (a0_7 : Int) (a0_8 : Int) (a0_9 : Int) : Option (Bool) := Lim (fun k => spec_MasterValid.f k l0_0 a0_1 a0_2 a0_3 a0_4 a0_5 a0_6 a0_7 a0_8 a0_9)
theorem spec_MasterValid.fL_is (l0_0 : List (S129)) (a0_1 : Int) (a0_2 : Int) (a0_3 : Int) (a0_4 : Int) (a0_5 : ByteArray) (a0_6 : Int) (a0_7 : Int) (a0_8 : Int) (a0_9 : Int) : LimIs (fun k => spec_MasterValid.f k l0_0 a0_1 a0_2 a0_3 a0_4 a0_5 a0_6 a0_7 a0_8 a0_9) (spec_MasterValid.fL l0_0 a0_1 a0_2 a0_3 a0_4 a0_5 a0_6 a0_7 a0_8 a0_9) := LimIs.of_mono (fun k r h => spec_MasterValid.mono l0_0 a0_1 a0_2 a0_3 a0_4 a0_5 a0_6 a0_7 a0_8 a0_9 k r h)
theorem spec_MasterValid.j0L_eq (x27 : Bool) (x153000 : List (S129)) (x153001 : Int) (x153002 : Int) (x153003 : Int) (x153004 : Int) (x153005 : ByteArray) (x153006 : Int) (x153007 : Int) (x153008 : Int) (x153009 : Int) : spec_MasterValid.j0L x27 x153000 x153001 x153002 x153003 x153004 x153005 x153006 x153007 x153008 x153009 = if x27 = true then (some false) else (spec_MasterValid.l0L 0 x153000 x153001 x153002 x153003 x153004 x153005 x153006 x153007 x153008 x153009) := by
  refine LimIs.unique (spec_MasterValid.j0L_is x27 x153000 x153001 x153002 x153003 x153004 x153005 x153006 x153007 x153008 x153009) (LimIs.step (f := fun k => if x27 = true then (some false) else (spec_MasterValid.l0 k 0 x153000 x153001 x153002 x153003 x153004 x153005 x153006 x153007 x153008 x153009)) (by simp only [spec_MasterValid.j0]) (fun k => by simp only [spec_MasterValid.j0]) ?_)
  repeat' first
    | (with_reducible exact LimIs.const _)
    | (with_reducible exact spec_MasterValid.l0L_is _ _ _ _ _ _ _ _ _ _ _)
    | (with_reducible refine LimIs.ite ?_ ?_)
    | (with_reducible refine LimIs.bind ?_ (fun _ => ?_))
theorem spec_MasterValid.l0L_eq (x3 : Int) (x153000 : List (S129)) (x153001 : Int) (x153002 : Int) (x153003 : Int) (x153004 : Int) (x153005 : ByteArray) (x153006 : Int) (x153007 : Int) (x153008 : Int) (x153009 : Int) : spec_MasterValid.l0L x3 x153000 x153001 x153002 x153003 x153004 x153005 x153006 x153007 x153008 x153009 = if x3 < (x153000.length : Int) then (if 0 ≤ x3 then (if ((rd_T129 x153000 x3).f0) ≥ x153001 then (some false) else (spec_MasterValid.l0L (wrap64 (x3 + 1)) x153000 x153001 x153002 x153003 x153004 x153005 x153006 x153007 x153008 x153009)) else (none)) else (some true) := by
  refine LimIs.unique (spec_MasterValid.l0L_is x3 x153000 x153001 x153002 x153003 x153004 x153005 x153006 x153007 x153008 x153009) (LimIs.step (f := fun k => if x3 < (x153000.length : Int) then (if 0 ≤ x3 then (if ((rd_T129 x153000 x3).f0) ≥ x153001 then (some false) else (spec_MasterValid.l0 k (wrap64 (x3 + 1)) x153000 x153001 x153002 x153003 x153004 x153005 x153006 x153007 x153008 x153009)) else (none)) else (some true)) (by simp only [spec_MasterValid.l0]) (fun k => by simp only [spec_MasterValid.l0]) ?_)
  repeat' first
    | (with_reducible exact LimIs.const _)
    | (with_reducible exact spec_MasterValid.l0L_is _ _ _ _ _ _ _ _ _ _ _)
    | (with_reducible refine LimIs.ite ?_ ?_)
    | (with_reducible refine LimIs.bind ?_ (fun _ => ?_))
theorem spec_MasterValid.fL_eq (l0_0 : List (S129)) (a0_1 : Int) (a0_2 : Int) (a0_3 : Int) (a0_4 : Int) (a0_5 : ByteArray) (a0_6 : Int) (a0_7 : Int) (a0_8 : Int) (a0_9 : Int) : spec_MasterValid.fL l0_0 a0_1 a0_2 a0_3 a0_4 a0_5 a0_6 a0_7 a0_8 a0_9 = (spec_RoutesValid.fL l0_0).bind fun t153 => (if t153 = true then ((spec_l1In.f a0_1 1 8).bind fun t154 => (if t154 = true then ((spec_l27Work.fL a0_2 a0_3 a0_4 a0_5 a0_6 a0_7 a0_8 a0_1).bind fun t155 => (if t155 = true then ((spec_l1In.f a0_9 0 999).bind fun t156 => (spec_MasterValid.j0L (!t156) l0_0 a0_1 a0_2 a0_3 a0_4 a0_5 a0_6 a0_7 a0_8 a0_9)) else (spec_MasterValid.j0L true l0_0 a0_1 a0_2 a0_3 a0_4 a0_5 a0_6 a0_7 a0_8 a0_9))) else (spec_MasterValid.j0L true l0_0 a0_1 a0_2 a0_3 a0_4 a0_5 a0_6 a0_7 a0_8 a0_9))) else (spec_MasterValid.j0L true l0_0 a0_1 a0_2 a0_3 a0_4 a0_5 a0_6 a0_7 a0_8 a0_9)) := by
  refine LimIs.unique (spec_MasterValid.fL_is l0_0 a0_1 a0_2 a0_3 a0_4 a0_5 a0_6 a0_7 a0_8 a0_9) ?_
  unfold spec_MasterValid.f
  repeat' first
    | (with_reducible exact LimIs.const _)
    | (with_reducible exact spec_MasterValid.j0L_is _ _ _ _ _ _ _ _ _ _ _)
    | (with_reducible exact spec_RoutesValid.fL_is _)
    | (with_reducible exact spec_l27Work.fL_is _ _ _ _ _ _ _ _)
    | (with_reducible refine LimIs.ite ?_ ?_)
    | (with_reducible refine LimIs.bind ?_ (fun _ => ?_))
/-! ### laws_toRouteS -/
noncomputable def laws_toRouteS.l0L (x0 : List (S162)) (x3 : List (S129)) (x4 : Int) : Option ((List (S129))) := Lim (fun k => laws_toRouteS.l0 k x0 x3 x4)
theorem laws_toRouteS.l0L_is (x0 : List (S162)) (x3 : List (S129)) (x4 : Int) : LimIs (fun k => laws_toRouteS.l0 k x0 x3 x4) (laws_toRouteS.l0L x0 x3 x4) := LimIs.of_mono (fun k r h => (laws_toRouteS.mono_l k) x0 x3 x4 r h)
noncomputable def laws_toRouteS.fL (l0 : List (S162)) : Option ((List (S129))) := Lim (fun k => laws_toRouteS.f k l0)
theorem laws_toRouteS.fL_is (l0 : List (S162)) : LimIs (fun k => laws_toRouteS.f k l0) (laws_toRouteS.fL l0) := LimIs.of_mono (fun k r h => laws_toRouteS.mono l0 k r h)
theorem laws_toRouteS.l0L_eq (x0 : List (S162)) (x3 : List (S129)) (x4 : Int) : laws_toRouteS.l0L x0 x3 x4 = if x4 < (x0.length : Int) then (if 0 ≤ x4 then ((laws_toRoute.f ((rd_T162 x0 x4).f0) ((rd_T162 x0 x4).f1.f0) ((rd_T162 x0 x4).f1.f1)).bind fun bt170 => (if x4 < (x3.length : Int) then (laws_toRouteS.l0L x0 (x3.set (x4 : Int).toNat (⟨bt170.1, (⟨bt170.2.1, bt170.2.2⟩ : S127)⟩ : S129)) (wrap64 (x4 + 1))) else (none))) else (none)) else (some x3) := by
  refine LimIs.unique (laws_toRouteS.l0L_is x0 x3 x4) (LimIs.step (f := fun k => if x4 < (x0.length : Int) then (if 0 ≤ x4 then ((laws_toRoute.f ((rd_T162 x0 x4).f0) ((rd_T162 x0 x4).f1.f0) ((rd_T162 x0 x4).f1.f1)).bind fun bt170 => (if x4 < (x3.length : Int) then (laws_toRouteS.l0 k x0 (x3.set (x4 : Int).toNat (⟨bt170.1, (⟨bt170.2.1, bt170.2.2⟩ : S127)⟩ : S129)) (wrap64 (x4 + 1))) else (none))) else (none)) else (some x3)) (by simp only [laws_toRouteS.l0]) (fun k => by simp only [laws_toRouteS.l0]) ?_)
  repeat' first
    | (with_reducible exact LimIs.const _)
    | (with_reducible exact laws_toRouteS.l0L_is _ _ _)
    | (with_reducible refine LimIs.ite ?_ ?_)
    | (with_reducible refine LimIs.bind ?_ (fun _ => ?_))
theorem laws_toRouteS.fL_eq (l0 : List (S162)) : laws_toRouteS.fL l0 = if 0 ≤ (l0.length : Int) then (if ((l0.length : Int) : Int).toNat ≤ 7036874417766 then (laws_toRouteS.l0L l0 (List.replicate ((l0.length : Int) : Int).toNat z129) 0) else (none)) else (none) := by
  refine LimIs.unique (laws_toRouteS.fL_is l0) ?_
  unfold laws_toRouteS.f
  repeat' first
    | (with_reducible exact LimIs.const _)
    | (with_reducible exact laws_toRouteS.l0L_is _ _ _)
    | (with_reducible refine LimIs.ite ?_ ?_)
    | (with_reducible refine LimIs.bind ?_ (fun _ => ?_))
/-! ### laws_toMaster -/
noncomputable def laws_toMaster.fL (l0_0 : List (S162)) (a0_1 : Int) (a0_2 : Int) (a0_3 : Int) (a0_4 : Int) (a0_5 : ByteArray) (a0_6 : Int) (a0_7 : Int) (a0_8 : Int) (a0_9 : Int) : Option ((List (S129)) × Int × Int × Int × Int × ByteArray × Int × Int × Int × Int) := Lim (fun k => laws_toMaster.f k l0_0 a0_1 a0_2 a0_3 a0_4 a0_5 a0_6 a0_7 a0_8 a0_9)
theorem laws_toMaster.fL_is (l0_0 : List (S162)) (a0_1 : Int) (a0_2 : Int) (a0_3 : Int) (a0_4 : Int) (a0_5 : ByteArray) (a0_6 : Int) (a0_7 : Int) (a0_8 : Int) (a0_9 : Int) : LimIs (fun k => laws_toMaster.f k l0_0 a0_1 a0_2 a0_3 a0_4 a0_5 a0_6 a0_7 a0_8 a0_9) (laws_toMaster.fL l0_0 a0_1 a0_2 a0_3 a0_4 a0_5 a0_6 a0_7 a0_8 a0_9) := LimIs.of_mono (fun k r h => laws_toMaster.mono l0_0 a0_1 a0_2 a0_3 a0_4 a0_5 a0_6 a0_7 a0_8 a0_9 k r h)
theorem laws_toMaster.fL_eq (l0_0 : List (S162)) (a0_1 : Int) (a0_2 : Int) (a0_3 : Int) (a0_4 : Int) (a0_5 : ByteArray) (a0_6 : Int) (a0_7 : Int) (a0_8 : Int) (a0_9 : Int) : laws_toMaster.fL l0_0 a0_1 a0_2 a0_3 a0_4 a0_5 a0_6 a0_7 a0_8 a0_9 = (laws_toRouteS.fL l0_0).bind fun t180 => ((laws_toPlan.f a0_2 a0_3 a0_4 a0_5 a0_6 a0_7 a0_8).bind fun bt183 => (some (t180, a0_1, bt183.1, bt183.2.1, bt183.2.2.1, bt183.2.2.2.1, bt183.2.2.2.2.1, bt183.2.2.2.2.2.1, bt183.2.2.2.2.2.2, a0_9))) := by
  refine LimIs.unique (laws_toMaster.fL_is l0_0 a0_1 a0_2 a0_3 a0_4 a0_5 a0_6 a0_7 a0_8 a0_9) ?_
  unfold laws_toMaster.f
  repeat' first
    | (with_reducible exact LimIs.const _)
    | (with_reducible exact laws_toRouteS.fL_is _)
    | (with_reducible refine LimIs.ite ?_ ?_)
    | (with_reducible refine LimIs.bind ?_ (fun _ => ?_))
/-! ### impl_lettersOnly -/
noncomputable def impl_lettersOnly.fL (a0 : ByteArray) : Option (Bool) := Lim (fun k => impl_lettersOnly.f k a0)
theorem impl_lettersOnly.fL_is (a0 : ByteArray) : LimIs (fun k => impl_lettersOnly.f k a0) (impl_lettersOnly.fL a0) := LimIs.of_mono (fun k r h => impl_lettersOnly.mono a0 k r h)
theorem impl_lettersOnly.fL_eq (a0 : ByteArray) : impl_lettersOnly.fL a0 = if a0.toList = ([] : List UInt8) then (some true) else (if 0 < (a0.size : Int) then (if (bt a0 0) ≥ 97 then (if (bt a0 0) ≤ 122 then (if 1 ≤ (a0.size : Int) then ((impl_lettersOnly.fL (a0.extract 1 a0.size)).bind fun t190 => (some t190)) else (none)) else (some false)) else (some false)) else (none)) := by
  refine LimIs.unique (impl_lettersOnly.fL_is a0) (LimIs.step (f := fun k => if a0.toList = ([] : List UInt8) then (some true) else (if 0 < (a0.size : Int) then (if (bt a0 0) ≥ 97 then (if (bt a0 0) ≤ 122 then (if 1 ≤ (a0.size : Int) then ((impl_lettersOnly.f k (a0.extract 1 a0.size)).bind fun t190 => (some t190)) else (none)) else (some false)) else (some false)) else (none))) (by simp only [impl_lettersOnly.f]) (fun k => by simp only [impl_lettersOnly.f]) ?_)
  repeat' first
    | (with_reducible exact LimIs.const _)
    | (with_reducible exact impl_lettersOnly.fL_is _)
    | (with_reducible refine LimIs.ite ?_ ?_)
    | (with_reducible refine LimIs.bind ?_ (fun _ => ?_))
/-! ### impl_KeyValid -/
noncomputable def impl_KeyValid.fL (a0 : ByteArray) : Option (Bool) := Lim (fun k => impl_KeyValid.f k a0)
theorem impl_KeyValid.fL_is (a0 : ByteArray) : LimIs (fun k => impl_KeyValid.f k a0) (impl_KeyValid.fL a0) := LimIs.of_mono (fun k r h => impl_KeyValid.mono a0 k r h)
theorem impl_KeyValid.fL_eq (a0 : ByteArray) : impl_KeyValid.fL a0 = if (a0.size : Int) < 1 then (some false) else (if (a0.size : Int) > 4 then (some false) else ((impl_lettersOnly.fL a0).bind fun t191 => (some t191))) := by
  refine LimIs.unique (impl_KeyValid.fL_is a0) ?_
  unfold impl_KeyValid.f
  repeat' first
    | (with_reducible exact LimIs.const _)
    | (with_reducible exact impl_lettersOnly.fL_is _)
    | (with_reducible refine LimIs.ite ?_ ?_)
    | (with_reducible refine LimIs.bind ?_ (fun _ => ?_))
/-! ### impl_IntervalValid -/
noncomputable def impl_IntervalValid.fL (a0_0 : ByteArray) (a0_1 : ByteArray) : Option (Bool) := Lim (fun k => impl_IntervalValid.f k a0_0 a0_1)
theorem impl_IntervalValid.fL_is (a0_0 : ByteArray) (a0_1 : ByteArray) : LimIs (fun k => impl_IntervalValid.f k a0_0 a0_1) (impl_IntervalValid.fL a0_0 a0_1) := LimIs.of_mono (fun k r h => impl_IntervalValid.mono a0_0 a0_1 k r h)
theorem impl_IntervalValid.fL_eq (a0_0 : ByteArray) (a0_1 : ByteArray) : impl_IntervalValid.fL a0_0 a0_1 = if a0_0.toList = ([] : List UInt8) then (if a0_1.toList = ([] : List UInt8) then (some true) else ((impl_KeyValid.fL a0_1).bind fun t194 => (if t194 = true then ((impl_lowestKey.f a0_0 a0_1).bind fun t195 => (some (Op.bytesLess t195.toList a0_1.toList))) else (some false)))) else ((impl_KeyValid.fL a0_0).bind fun t196 => (if t196 = true then (if a0_1.toList = ([] : List UInt8) then (some true) else ((impl_KeyValid.fL a0_1).bind fun t197 => (if t197 = true then ((impl_lowestKey.f a0_0 a0_1).bind fun t198 => (some (Op.bytesLess t198.toList a0_1.toList))) else (some false)))) else (some false))) := by
  refine LimIs.unique (impl_IntervalValid.fL_is a0_0 a0_1) ?_
  unfold impl_IntervalValid.f
  repeat' first
    | (with_reducible exact LimIs.const _)
    | (with_reducible exact impl_KeyValid.fL_is _)
    | (with_reducible refine LimIs.ite ?_ ?_)
    | (with_reducible refine LimIs.bind ?_ (fun _ => ?_))
/-! ### impl_IntervalJoin -/
noncomputable def impl_IntervalJoin.fL (a0_0 : ByteArray) (a0_1 : ByteArray) (a1_0 : ByteArray) (a1_1 : ByteArray) : Option (ByteArray × ByteArray × Bool) := Lim (fun k => impl_IntervalJoin.f k a0_0 a0_1 a1_0 a1_1)
theorem impl_IntervalJoin.fL_is (a0_0 : ByteArray) (a0_1 : ByteArray) (a1_0 : ByteArray) (a1_1 : ByteArray) : LimIs (fun k => impl_IntervalJoin.f k a0_0 a0_1 a1_0 a1_1) (impl_IntervalJoin.fL a0_0 a0_1 a1_0 a1_1) := LimIs.of_mono (fun k r h => impl_IntervalJoin.mono a0_0 a0_1 a1_0 a1_1 k r h)
theorem impl_IntervalJoin.fL_eq (a0_0 : ByteArray) (a0_1 : ByteArray) (a1_0 : ByteArray) (a1_1 : ByteArray) : impl_IntervalJoin.fL a0_0 a0_1 a1_0 a1_1 = (impl_IntervalValid.fL a0_0 a0_1).bind fun t202 => (if t202 = true then ((impl_IntervalValid.fL a1_0 a1_1).bind fun t203 => (if t203 = true then (if a0_1.toList = ([] : List UInt8) then (some ((⟨#[]⟩ : ByteArray), (⟨#[]⟩ : ByteArray), false)) else (if a0_1.toList = a1_0.toList then (some (a0_0, a1_1, true)) else (some ((⟨#[]⟩ : ByteArray), (⟨#[]⟩ : ByteArray), false)))) else (some ((⟨#[]⟩ : ByteArray), (⟨#[]⟩ : ByteArray), false)))) else (some ((⟨#[]⟩ : ByteArray), (⟨#[]⟩ : ByteArray), false))) := by
  refine LimIs.unique (impl_IntervalJoin.fL_is a0_0 a0_1 a1_0 a1_1) ?_
  unfold impl_IntervalJoin.f
  repeat' first
    | (with_reducible exact LimIs.const _)
    | (with_reducible exact impl_IntervalValid.fL_is _ _)
    | (with_reducible refine LimIs.ite ?_ ?_)
    | (with_reducible refine LimIs.bind ?_ (fun _ => ?_))
/-! ### impl_PartitionValid -/
noncomputable def impl_PartitionValid.j0L (x0 : List (S127)) (x31 : Bool) : Option (Bool) := Lim (fun k => impl_PartitionValid.j0 k x0 x31)
theorem impl_PartitionValid.j0L_is (x0 : List (S127)) (x31 : Bool) : LimIs (fun k => impl_PartitionValid.j0 k x0 x31) (impl_PartitionValid.j0L x0 x31) := LimIs.of_mono (fun k r h => (impl_PartitionValid.mono_l k).1 x0 x31 r h)
noncomputable def impl_PartitionValid.l0L (x0 : List (S127)) (x32 : List (S127)) (x33 : Int) (x34 : Int) : Option (Bool) := Lim (fun k => impl_PartitionValid.l0 k x0 x32 x33 x34)
theorem impl_PartitionValid.l0L_is (x0 : List (S127)) (x32 : List (S127)) (x33 : Int) (x34 : Int) : LimIs (fun k => impl_PartitionValid.l0 k x0 x32 x33 x34) (impl_PartitionValid.l0L x0 x32 x33 x34) := LimIs.of_mono (fun k r h => (impl_PartitionValid.mono_l k).2 x0 x32 x33 x34 r h)
noncomputable def impl_PartitionValid.fL (l0 : List (S127)) : Option (Bool) := Lim (fun k => impl_PartitionValid.f k l0)
theorem impl_PartitionValid.fL_is (l0 : List (S127)) : LimIs (fun k => impl_PartitionValid.f k l0) (impl_PartitionValid.fL l0) := LimIs.of_mono (fun k r h => impl_PartitionValid.mono l0 k r h)
theorem impl_PartitionValid.j0L_eq (x0 : List (S127)) (x31 : Bool) : impl_PartitionValid.j0L x0 x31 = if x31 = true then (some false) else (impl_PartitionValid.l0L x0 x0 (x0.length : Int) 0) := by
  refine LimIs.unique (impl_PartitionValid.j0L_is x0 x31) (LimIs.step (f := fun k => if x31 = true then (some false) else (impl_PartitionValid.l0 k x0 x0 (x0.length : Int) 0)) (by simp only [impl_PartitionValid.j0]) (fun k => by simp only [impl_PartitionValid.j0]) ?_)
  repeat' first
    | (with_reducible exact LimIs.const _)
    | (with_reducible exact impl_PartitionValid.l0L_is _ _ _ _)
    | (with_reducible refine LimIs.ite ?_ ?_)
    | (with_reducible refine LimIs.bind ?_ (fun _ => ?_))
theorem impl_PartitionValid.l0L_eq (x0 : List (S127)) (x32 : List (S127)) (x33 : Int) (x34 : Int) : impl_PartitionValid.l0L x0 x32 x33 x34 = if x34 < x33 then (if 0 ≤ x34 then (if x34 < (x32.length : Int) then ((impl_IntervalValid.fL ((rd_T127 x32 x34).f0) ((rd_T127 x32 x34).f1)).bind fun t208 => (if t208 = true then (if x34 > 0 then (if 0 ≤ (wrap64 (x34 - 1)) then (if (wrap64 (x34 - 1)) < (x0.length : Int) then ((impl_IntervalJoin.fL ((rd_T127 x0 (wrap64 (x34 - 1))).f0) ((rd_T127 x0 (wrap64 (x34 - 1))).f1) ((rd_T127 x32 x34).f0) ((rd_T127 x32 x34).f1)).bind fun bt210 => (if bt210.2.2 = true then (impl_PartitionValid.l0L x0 x32 x33 (wrap64 (x34 + 1))) else (some false))) else (none)) else (none)) else (impl_PartitionValid.l0L x0 x32 x33 (wrap64 (x34 + 1)))) else (some false))) else (none)) else (none)) else (some true) := by
  refine LimIs.unique (impl_PartitionValid.l0L_is x0 x32 x33 x34) (LimIs.step (f := fun k => if x34 < x33 then (if 0 ≤ x34 then (if x34 < (x32.length : Int) then ((impl_IntervalValid.f k ((rd_T127 x32 x34).f0) ((rd_T127 x32 x34).f1)).bind fun t208 => (if t208 = true then (if x34 > 0 then (if 0 ≤ (wrap64 (x34 - 1)) then (if (wrap64 (x34 - 1)) < (x0.length : Int) then ((impl_IntervalJoin.f k ((rd_T127 x0 (wrap64 (x34 - 1))).f0) ((rd_T127 x0 (wrap64 (x34 - 1))).f1) ((rd_T127 x32 x34).f0) ((rd_T127 x32 x34).f1)).bind fun bt210 => (if bt210.2.2 = true then (impl_PartitionValid.l0 k x0 x32 x33 (wrap64 (x34 + 1))) else (some false))) else (none)) else (none)) else (impl_PartitionValid.l0 k x0 x32 x33 (wrap64 (x34 + 1)))) else (some false))) else (none)) else (none)) else (some true)) (by simp only [impl_PartitionValid.l0]) (fun k => by simp only [impl_PartitionValid.l0]) ?_)
  repeat' first
    | (with_reducible exact LimIs.const _)
    | (with_reducible exact impl_IntervalJoin.fL_is _ _ _ _)
    | (with_reducible exact impl_IntervalValid.fL_is _ _)
    | (with_reducible exact impl_PartitionValid.l0L_is _ _ _ _)
    | (with_reducible refine LimIs.ite ?_ ?_)
    | (with_reducible refine LimIs.bind ?_ (fun _ => ?_))
theorem impl_PartitionValid.fL_eq (l0 : List (S127)) : impl_PartitionValid.fL l0 = if (l0.length : Int) < 1 then (impl_PartitionValid.j0L l0 true) else (if (l0.length : Int) > 6 then (impl_PartitionValid.j0L l0 true) else (if 0 < (l0.length : Int) then (if ((rd_T127 l0 0).f0).toList = ([] : List UInt8) then (if 0 ≤ (wrap64 ((l0.length : Int) - 1)) then (if (wrap64 ((l0.length : Int) - 1)) < (l0.length : Int) then (impl_PartitionValid.j0L l0 (((rd_T127 l0 (wrap64 ((l0.length : Int) - 1))).f1).toList != ([] : List UInt8))) else (none)) else (none)) else (impl_PartitionValid.j0L l0 true)) else (none))) := by
  refine LimIs.unique (impl_PartitionValid.fL_is l0) ?_
  unfold impl_PartitionValid.f
  repeat' first
    | (with_reducible exact LimIs.const _)
    | (with_reducible exact impl_PartitionValid.j0L_is _ _)
    | (with_reducible refine LimIs.ite ?_ ?_)
    | (with_reducible refine LimIs.bind ?_ (fun _ => ?_))
/-! ### impl_spansOf -/
noncomputable def impl_spansOf.l0L (x3 : List (S127)) (x6 : List (S129)) (x7 : Int) (x8 : Int) : Option ((List (S127))) := Lim (fun k => impl_spansOf.l0 k x3 x6 x7 x8)
theorem impl_spansOf.l0L_is (x3 : List (S127)) (x6 : List (S129)) (x7 : Int) (x8 : Int) : LimIs (fun k => impl_spansOf.l0 k x3 x6 x7 x8) (impl_spansOf.l0L x3 x6 x7 x8) := LimIs.of_mono (fun k r h => (impl_spansOf.mono_l k) x3 x6 x7 x8 r h)
noncomputable def impl_spansOf.fL (l0 : List (S129)) : Option ((List (S127))) := Lim (fun k => impl_spansOf.f k l0)
theorem impl_spansOf.fL_is (l0 : List (S129)) : LimIs (fun k => impl_spansOf.f k l0) (impl_spansOf.fL l0) := LimIs.of_mono (fun k r h => impl_spansOf.mono l0 k r h)
theorem impl_spansOf.l0L_eq (x3 : List (S127)) (x6 : List (S129)) (x7 : Int) (x8 : Int) : impl_spansOf.l0L x3 x6 x7 x8 = if x8 < x7 then (if 0 ≤ x8 then (if x8 < (x6.length : Int) then (if x3.length < 4398046511104 then (impl_spansOf.l0L (x3 ++ [(⟨(rd_T129 x6 x8).f1.f0, (rd_T129 x6 x8).f1.f1⟩ : S127)]) x6 x7 (wrap64 (x8 + 1))) else (none)) else (none)) else (none)) else (some x3) := by
  refine LimIs.unique (impl_spansOf.l0L_is x3 x6 x7 x8) (LimIs.step (f := fun k => if x8 < x7 then (if 0 ≤ x8 then (if x8 < (x6.length : Int) then (if x3.length < 4398046511104 then (impl_spansOf.l0 k (x3 ++ [(⟨(rd_T129 x6 x8).f1.f0, (rd_T129 x6 x8).f1.f1⟩ : S127)]) x6 x7 (wrap64 (x8 + 1))) else (none)) else (none)) else (none)) else (some x3)) (by simp only [impl_spansOf.l0]) (fun k => by simp only [impl_spansOf.l0]) ?_)
  repeat' first
    | (with_reducible exact LimIs.const _)
    | (with_reducible exact impl_spansOf.l0L_is _ _ _ _)
    | (with_reducible refine LimIs.ite ?_ ?_)
    | (with_reducible refine LimIs.bind ?_ (fun _ => ?_))
theorem impl_spansOf.fL_eq (l0 : List (S129)) : impl_spansOf.fL l0 = impl_spansOf.l0L ([] : List (S127)) l0 (l0.length : Int) 0 := by
  refine LimIs.unique (impl_spansOf.fL_is l0) ?_
  unfold impl_spansOf.f
  repeat' first
    | (with_reducible exact LimIs.const _)
    | (with_reducible exact impl_spansOf.l0L_is _ _ _ _)
    | (with_reducible refine LimIs.ite ?_ ?_)
    | (with_reducible refine LimIs.bind ?_ (fun _ => ?_))
/-! ### impl_routePlace -/
noncomputable def impl_routePlace.l0L (x1 : Int) (x7 : List (S129)) (x8 : Int) (x9 : Int) : Option (Int) := Lim (fun k => impl_routePlace.l0 k x1 x7 x8 x9)
theorem impl_routePlace.l0L_is (x1 : Int) (x7 : List (S129)) (x8 : Int) (x9 : Int) : LimIs (fun k => impl_routePlace.l0 k x1 x7 x8 x9) (impl_routePlace.l0L x1 x7 x8 x9) := LimIs.of_mono (fun k r h => (impl_routePlace.mono_l k) x1 x7 x8 x9 r h)
noncomputable def impl_routePlace.fL (l0 : List (S129)) (a1 : Int) : Option (Int) := Lim (fun k => impl_routePlace.f k l0 a1)
theorem impl_routePlace.fL_is (l0 : List (S129)) (a1 : Int) : LimIs (fun k => impl_routePlace.f k l0 a1) (impl_routePlace.fL l0 a1) := LimIs.of_mono (fun k r h => impl_routePlace.mono l0 a1 k r h)
theorem impl_routePlace.l0L_eq (x1 : Int) (x7 : List (S129)) (x8 : Int) (x9 : Int) : impl_routePlace.l0L x1 x7 x8 x9 = if x9 < x8 then (if 0 ≤ x9 then (if x9 < (x7.length : Int) then (if ((rd_T129 x7 x9).f0) = x1 then (some x9) else (impl_routePlace.l0L x1 x7 x8 (wrap64 (x9 + 1)))) else (none)) else (none)) else (some (-1)) := by
  refine LimIs.unique (impl_routePlace.l0L_is x1 x7 x8 x9) (LimIs.step (f := fun k => if x9 < x8 then (if 0 ≤ x9 then (if x9 < (x7.length : Int) then (if ((rd_T129 x7 x9).f0) = x1 then (some x9) else (impl_routePlace.l0 k x1 x7 x8 (wrap64 (x9 + 1)))) else (none)) else (none)) else (some (-1))) (by simp only [impl_routePlace.l0]) (fun k => by simp only [impl_routePlace.l0]) ?_)
  repeat' first
    | (with_reducible exact LimIs.const _)
    | (with_reducible exact impl_routePlace.l0L_is _ _ _ _)
    | (with_reducible refine LimIs.ite ?_ ?_)
    | (with_reducible refine LimIs.bind ?_ (fun _ => ?_))
theorem impl_routePlace.fL_eq (l0 : List (S129)) (a1 : Int) : impl_routePlace.fL l0 a1 = impl_routePlace.l0L a1 l0 (l0.length : Int) 0 := by
  refine LimIs.unique (impl_routePlace.fL_is l0 a1) ?_
  unfold impl_routePlace.f
  repeat' first
    | (with_reducible exact LimIs.const _)
    | (with_reducible exact impl_routePlace.l0L_is _ _ _ _)
    | (with_reducible refine LimIs.ite ?_ ?_)
    | (with_reducible refine LimIs.bind ?_ (fun _ => ?_))
/-! ### impl_numbersDiffer -/
noncomputable def impl_numbersDiffer.l0L (x0 : List (S129)) (x5 : List (S129)) (x6 : Int) (x7 : Int) : Option (Bool) := Lim (fun k => impl_numbersDiffer.l0 k x0 x5 x6 x7)
theorem impl_numbersDiffer.l0L_is (x0 : List (S129)) (x5 : List (S129)) (x6 : Int) (x7 : Int) : LimIs (fun k => impl_numbersDiffer.l0 k x0 x5 x6 x7) (impl_numbersDiffer.l0L x0 x5 x6 x7) := LimIs.of_mono (fun k r h => (impl_numbersDiffer.mono_l k) x0 x5 x6 x7 r h)
noncomputable def impl_numbersDiffer.fL (l0 : List (S129)) : Option (Bool) := Lim (fun k => impl_numbersDiffer.f k l0)
theorem impl_numbersDiffer.fL_is (l0 : List (S129)) : LimIs (fun k => impl_numbersDiffer.f k l0) (impl_numbersDiffer.fL l0) := LimIs.of_mono (fun k r h => impl_numbersDiffer.mono l0 k r h)
theorem impl_numbersDiffer.l0L_eq (x0 : List (S129)) (x5 : List (S129)) (x6 : Int) (x7 : Int) : impl_numbersDiffer.l0L x0 x5 x6 x7 = if x7 < x6 then (if 0 ≤ x7 then (if x7 < (x5.length : Int) then ((impl_shardNumber.f ((rd_T129 x5 x7).f0)).bind fun t223 => (if t223 = true then (if x7 ≤ (x0.length : Int) then ((impl_routePlace.fL (x0.take (x7 : Int).toNat) ((rd_T129 x5 x7).f0)).bind fun t228 => (if t228 ≥ 0 then (some false) else (impl_numbersDiffer.l0L x0 x5 x6 (wrap64 (x7 + 1))))) else (none)) else (some false))) else (none)) else (none)) else (some true) := by
  refine LimIs.unique (impl_numbersDiffer.l0L_is x0 x5 x6 x7) (LimIs.step (f := fun k => if x7 < x6 then (if 0 ≤ x7 then (if x7 < (x5.length : Int) then ((impl_shardNumber.f ((rd_T129 x5 x7).f0)).bind fun t223 => (if t223 = true then (if x7 ≤ (x0.length : Int) then ((impl_routePlace.f k (x0.take (x7 : Int).toNat) ((rd_T129 x5 x7).f0)).bind fun t228 => (if t228 ≥ 0 then (some false) else (impl_numbersDiffer.l0 k x0 x5 x6 (wrap64 (x7 + 1))))) else (none)) else (some false))) else (none)) else (none)) else (some true)) (by simp only [impl_numbersDiffer.l0]) (fun k => by simp only [impl_numbersDiffer.l0]) ?_)
  repeat' first
    | (with_reducible exact LimIs.const _)
    | (with_reducible exact impl_numbersDiffer.l0L_is _ _ _ _)
    | (with_reducible exact impl_routePlace.fL_is _ _)
    | (with_reducible refine LimIs.ite ?_ ?_)
    | (with_reducible refine LimIs.bind ?_ (fun _ => ?_))
theorem impl_numbersDiffer.fL_eq (l0 : List (S129)) : impl_numbersDiffer.fL l0 = impl_numbersDiffer.l0L l0 l0 (l0.length : Int) 0 := by
  refine LimIs.unique (impl_numbersDiffer.fL_is l0) ?_
  unfold impl_numbersDiffer.f
  repeat' first
    | (with_reducible exact LimIs.const _)
    | (with_reducible exact impl_numbersDiffer.l0L_is _ _ _ _)
    | (with_reducible refine LimIs.ite ?_ ?_)
    | (with_reducible refine LimIs.bind ?_ (fun _ => ?_))
/-! ### impl_RoutesValid -/
noncomputable def impl_RoutesValid.fL (l0 : List (S129)) : Option (Bool) := Lim (fun k => impl_RoutesValid.f k l0)
theorem impl_RoutesValid.fL_is (l0 : List (S129)) : LimIs (fun k => impl_RoutesValid.f k l0) (impl_RoutesValid.fL l0) := LimIs.of_mono (fun k r h => impl_RoutesValid.mono l0 k r h)
theorem impl_RoutesValid.fL_eq (l0 : List (S129)) : impl_RoutesValid.fL l0 = if (l0.length : Int) ≤ 6 then ((impl_spansOf.fL l0).bind fun t229 => ((impl_PartitionValid.fL t229).bind fun t232 => (if t232 = true then ((impl_numbersDiffer.fL l0).bind fun t233 => (some t233)) else (some false)))) else (some false) := by
  refine LimIs.unique (impl_RoutesValid.fL_is l0) ?_
  unfold impl_RoutesValid.f
  repeat' first
    | (with_reducible exact LimIs.const _)
    | (with_reducible exact impl_PartitionValid.fL_is _)
    | (with_reducible exact impl_numbersDiffer.fL_is _)
    | (with_reducible exact impl_spansOf.fL_is _)
    | (with_reducible refine LimIs.ite ?_ ?_)
    | (with_reducible refine LimIs.bind ?_ (fun _ => ?_))
/-! ### impl_PlanValid -/
noncomputable def impl_PlanValid.fL (a0_0 : Int) (a0_1 : Int) (a0_2 : Int) (a0_3 : ByteArray) (a0_4 : Int) (a0_5 : Int) (a0_6 : Int) : Option (Bool) := Lim (fun k => impl_PlanValid.f k a0_0 a0_1 a0_2 a0_3 a0_4 a0_5 a0_6)
theorem impl_PlanValid.fL_is (a0_0 : Int) (a0_1 : Int) (a0_2 : Int) (a0_3 : ByteArray) (a0_4 : Int) (a0_5 : Int) (a0_6 : Int) : LimIs (fun k => impl_PlanValid.f k a0_0 a0_1 a0_2 a0_3 a0_4 a0_5 a0_6) (impl_PlanValid.fL a0_0 a0_1 a0_2 a0_3 a0_4 a0_5 a0_6) := LimIs.of_mono (fun k r h => impl_PlanValid.mono a0_0 a0_1 a0_2 a0_3 a0_4 a0_5 a0_6 k r h)
theorem impl_PlanValid.fL_eq (a0_0 : Int) (a0_1 : Int) (a0_2 : Int) (a0_3 : ByteArray) (a0_4 : Int) (a0_5 : Int) (a0_6 : Int) : impl_PlanValid.fL a0_0 a0_1 a0_2 a0_3 a0_4 a0_5 a0_6 = (impl_shardNumber.f a0_1).bind fun t235 => (if t235 = true then (if a0_0 = 1 then ((impl_KeyValid.fL a0_3).bind fun t236 => (if t236 = true then (some (a0_0 == 1 && (a0_2 == 0 && (a0_4 == 0 && (a0_5 == 0 && (a0_6 == 0)))))) else (some false))) else (if a0_0 = 2 then ((impl_shardNumber.f a0_2).bind fun t237 => (if t237 = true then (if a0_2 = a0_1 then (some false) else (some (a0_0 == 2 && (a0_3.toList == ([] : List UInt8) && (a0_4 == 0 && (a0_5 == 0 && (a0_6 == 0))))))) else (some false))) else (if a0_0 = 3 then ((impl_nodeValid.f a0_4).bind fun t238 => (if t238 = true then ((impl_nodeValid.f a0_5).bind fun t239 => (if t239 = true then (if a0_4 = a0_5 then (some false) else (if a0_6 = 0 then (if a0_2 = 0 then (some (a0_3.toList == ([] : List UInt8))) else (some false)) else (if a0_6 = 1 then (if a0_2 = 0 then (some (a0_3.toList == ([] : List UInt8))) else (some false)) else (some false)))) else (some false))) else (some false))) else (some false)))) else (some false)) := by
  refine LimIs.unique (impl_PlanValid.fL_is a0_0 a0_1 a0_2 a0_3 a0_4 a0_5 a0_6) ?_
  unfold impl_PlanValid.f
  repeat' first
    | (with_reducible exact LimIs.const _)
    | (with_reducible exact impl_KeyValid.fL_is _)
    | (with_reducible refine LimIs.ite ?_ ?_)
    | (with_reducible refine LimIs.bind ?_ (fun _ => ?_))
/-! ### impl_MasterValid -/
noncomputable def impl_MasterValid.j0L (x28 : Bool) (x241000 : List (S129)) (x241001 : Int) (x241002 : Int) (x241003 : Int) (x241004 : Int) (x241005 : ByteArray) (x241006 : Int) (x241007 : Int) (x241008 : Int) (x241009 : Int) : Option (Bool) := Lim (fun k => impl_MasterValid.j0 k x28 x241000 x241001 x241002 x241003 x241004 x241005 x241006 x241007 x241008 x241009)
theorem impl_MasterValid.j0L_is (x28 : Bool) (x241000 : List (S129)) (x241001 : Int) (x241002 : Int) (x241003 : Int) (x241004 : Int) (x241005 : ByteArray) (x241006 : Int) (x241007 : Int) (x241008 : Int) (x241009 : Int) : LimIs (fun k => impl_MasterValid.j0 k x28 x241000 x241001 x241002 x241003 x241004 x241005 x241006 x241007 x241008 x241009) (impl_MasterValid.j0L x28 x241000 x241001 x241002 x241003 x241004 x241005 x241006 x241007 x241008 x241009) := LimIs.of_mono (fun k r h => (impl_MasterValid.mono_l k).1 x28 x241000 x241001 x241002 x241003 x241004 x241005 x241006 x241007 x241008 x241009 r h)
noncomputable def impl_MasterValid.l0L (x30 : List (S129)) (x31 : Int) (x32 : Int) (x241000 : List (S129)) (x241001 : Int) (x241002 : Int) (x241003 : Int) (x241004 : Int) (x241005 : ByteArray) (x241006 : Int) (x241007 : Int) (x241008 : Int) (x241009 : Int) : Option (Bool) := Lim (fun k => impl_MasterValid.l0 k x30 x31 x32 x241000 x241001 x241002 x241003 x241004 x241005 x241006 x241007 x241008 x241009)
theorem impl_MasterValid.l0L_is (x30 : List (S129)) (x31 : Int) (x32 : Int) (x241000 : List (S129)) (x241001 : Int) (x241002 : Int) (x241003 : Int) (x241004 : Int) (x241005 : ByteArray) (x241006 : Int) (x241007 : Int) (x241008 : Int) (x241009 : Int) : LimIs (fun k => impl_MasterValid.l0 k x30 x31 x32 x241000 x241001 x241002 x241003 x241004 x241005 x241006 x241007 x241008 x241009) (impl_MasterValid.l0L x30 x31 x32 x241000 x241001 x241002 x241003 x241004 x241005 x241006 x241007 x241008 x241009) := LimIs.of_mono (fun k r h => (impl_MasterValid.mono_l k).2 x30 x31 x32 x241000 x241001 x241002 x241003 x241004 x241005 x241006 x241007 x241008 x241009 r h)
noncomputable def impl_MasterValid.fL (l0_0 : List (S129)) (a0_1 : Int) (a0_2 : Int) (a0_3 : Int) (a0_4 : Int) (a0_5 : ByteArray) (a0_6 : Int) (a0_7 : Int) (a0_8 : Int) (a0_9 : Int) : Option (Bool) := Lim (fun k => impl_MasterValid.f k l0_0 a0_1 a0_2 a0_3 a0_4 a0_5 a0_6 a0_7 a0_8 a0_9)
theorem impl_MasterValid.fL_is (l0_0 : List (S129)) (a0_1 : Int) (a0_2 : Int) (a0_3 : Int) (a0_4 : Int) (a0_5 : ByteArray) (a0_6 : Int) (a0_7 : Int) (a0_8 : Int) (a0_9 : Int) : LimIs (fun k => impl_MasterValid.f k l0_0 a0_1 a0_2 a0_3 a0_4 a0_5 a0_6 a0_7 a0_8 a0_9) (impl_MasterValid.fL l0_0 a0_1 a0_2 a0_3 a0_4 a0_5 a0_6 a0_7 a0_8 a0_9) := LimIs.of_mono (fun k r h => impl_MasterValid.mono l0_0 a0_1 a0_2 a0_3 a0_4 a0_5 a0_6 a0_7 a0_8 a0_9 k r h)
theorem impl_MasterValid.j0L_eq (x28 : Bool) (x241000 : List (S129)) (x241001 : Int) (x241002 : Int) (x241003 : Int) (x241004 : Int) (x241005 : ByteArray) (x241006 : Int) (x241007 : Int) (x241008 : Int) (x241009 : Int) : impl_MasterValid.j0L x28 x241000 x241001 x241002 x241003 x241004 x241005 x241006 x241007 x241008 x241009 = if x28 = true then (some false) else (impl_MasterValid.l0L x241000 (x241000.length : Int) 0 x241000 x241001 x241002 x241003 x241004 x241005 x241006 x241007 x241008 x241009) := by
  refine LimIs.unique (impl_MasterValid.j0L_is x28 x241000 x241001 x241002 x241003 x241004 x241005 x241006 x241007 x241008 x241009) (LimIs.step (f := fun k => if x28 = true then (some false) else (impl_MasterValid.l0 k x241000 (x241000.length : Int) 0 x241000 x241001 x241002 x241003 x241004 x241005 x241006 x241007 x241008 x241009)) (by simp only [impl_MasterValid.j0]) (fun k => by simp only [impl_MasterValid.j0]) ?_)
  repeat' first
    | (with_reducible exact LimIs.const _)
    | (with_reducible exact impl_MasterValid.l0L_is _ _ _ _ _ _ _ _ _ _ _ _ _)
    | (with_reducible refine LimIs.ite ?_ ?_)
    | (with_reducible refine LimIs.bind ?_ (fun _ => ?_))
theorem impl_MasterValid.l0L_eq (x30 : List (S129)) (x31 : Int) (x32 : Int) (x241000 : List (S129)) (x241001 : Int) (x241002 : Int) (x241003 : Int) (x241004 : Int) (x241005 : ByteArray) (x241006 : Int) (x241007 : Int) (x241008 : Int) (x241009 : Int) : impl_MasterValid.l0L x30 x31 x32 x241000 x241001 x241002 x241003 x241004 x241005 x241006 x241007 x241008 x241009 = if x32 < x31 then (if 0 ≤ x32 then (if x32 < (x30.length : Int) then (if ((rd_T129 x30 x32).f0) ≥ x241001 then (some false) else (impl_MasterValid.l0L x30 x31 (wrap64 (x32 + 1)) x241000 x241001 x241002 x241003 x241004 x241005 x241006 x241007 x241008 x241009)) else (none)) else (none)) else (if (x241002 == 0 && (x241003 == 0 && (x241004 == 0 && (x241005.toList == ([] : List UInt8) && (x241006 == 0 && (x241007 == 0 && (x241008 == 0))))))) = true then (some true) else ((impl_PlanValid.fL x241002 x241003 x241004 x241005 x241006 x241007 x241008).bind fun t244 => (if t244 = true then (if x241003 < x241001 then (some (decide (x241004 < x241001))) else (some false)) else (some false)))) := by
  refine LimIs.unique (impl_MasterValid.l0L_is x30 x31 x32 x241000 x241001 x241002 x241003 x241004 x241005 x241006 x241007 x241008 x241009) (LimIs.step (f := fun k => if x32 < x31 then (if 0 ≤ x32 then (if x32 < (x30.length : Int) then (if ((rd_T129 x30 x32).f0) ≥ x241001 then (some false) else (impl_MasterValid.l0 k x30 x31 (wrap64 (x32 + 1)) x241000 x241001 x241002 x241003 x241004 x241005 x241006 x241007 x241008 x241009)) else (none)) else (none)) else (if (x241002 == 0 && (x241003 == 0 && (x241004 == 0 && (x241005.toList == ([] : List UInt8) && (x241006 == 0 && (x241007 == 0 && (x241008 == 0))))))) = true then (some true) else ((impl_PlanValid.f k x241002 x241003 x241004 x241005 x241006 x241007 x241008).bind fun t244 => (if t244 = true then (if x241003 < x241001 then (some (decide (x241004 < x241001))) else (some false)) else (some false))))) (by simp only [impl_MasterValid.l0]) (fun k => by simp only [impl_MasterValid.l0]) ?_)
  repeat' first
    | (with_reducible exact LimIs.const _)
    | (with_reducible exact impl_MasterValid.l0L_is _ _ _ _ _ _ _ _ _ _ _ _ _)
    | (with_reducible exact impl_PlanValid.fL_is _ _ _ _ _ _ _)
    | (with_reducible refine LimIs.ite ?_ ?_)
    | (with_reducible refine LimIs.bind ?_ (fun _ => ?_))
theorem impl_MasterValid.fL_eq (l0_0 : List (S129)) (a0_1 : Int) (a0_2 : Int) (a0_3 : Int) (a0_4 : Int) (a0_5 : ByteArray) (a0_6 : Int) (a0_7 : Int) (a0_8 : Int) (a0_9 : Int) : impl_MasterValid.fL l0_0 a0_1 a0_2 a0_3 a0_4 a0_5 a0_6 a0_7 a0_8 a0_9 = (impl_RoutesValid.fL l0_0).bind fun t241 => (if t241 = true then (if a0_1 < 1 then (impl_MasterValid.j0L true l0_0 a0_1 a0_2 a0_3 a0_4 a0_5 a0_6 a0_7 a0_8 a0_9) else (if a0_1 > 8 then (impl_MasterValid.j0L true l0_0 a0_1 a0_2 a0_3 a0_4 a0_5 a0_6 a0_7 a0_8 a0_9) else (if a0_9 < 0 then (impl_MasterValid.j0L true l0_0 a0_1 a0_2 a0_3 a0_4 a0_5 a0_6 a0_7 a0_8 a0_9) else (impl_MasterValid.j0L (decide (a0_9 > 999)) l0_0 a0_1 a0_2 a0_3 a0_4 a0_5 a0_6 a0_7 a0_8 a0_9)))) else (impl_MasterValid.j0L true l0_0 a0_1 a0_2 a0_3 a0_4 a0_5 a0_6 a0_7 a0_8 a0_9)) := by
  refine LimIs.unique (impl_MasterValid.fL_is l0_0 a0_1 a0_2 a0_3 a0_4 a0_5 a0_6 a0_7 a0_8 a0_9) ?_
  unfold impl_MasterValid.f
  repeat' first
    | (with_reducible exact LimIs.const _)
    | (with_reducible exact impl_MasterValid.j0L_is _ _ _ _ _ _ _ _ _ _ _)
    | (with_reducible exact impl_RoutesValid.fL_is _)
    | (with_reducible refine LimIs.ite ?_ ?_)
    | (with_reducible refine LimIs.bind ?_ (fun _ => ?_))
/-! ### laws_eqRouteS -/
noncomputable def laws_eqRouteS.l0L (x0 : List (S129)) (x1 : List (S129)) (x5 : Int) : Option (Bool) := Lim (fun k => laws_eqRouteS.l0 k x0 x1 x5)
theorem laws_eqRouteS.l0L_is (x0 : List (S129)) (x1 : List (S129)) (x5 : Int) : LimIs (fun k => laws_eqRouteS.l0 k x0 x1 x5) (laws_eqRouteS.l0L x0 x1 x5) := LimIs.of_mono (fun k r h => (laws_eqRouteS.mono_l k) x0 x1 x5 r h)
noncomputable def laws_eqRouteS.fL (l0 : List (S129)) (l1 : List (S129)) : Option (Bool) := Lim (fun k => laws_eqRouteS.f k l0 l1)
theorem laws_eqRouteS.fL_is (l0 : List (S129)) (l1 : List (S129)) : LimIs (fun k => laws_eqRouteS.f k l0 l1) (laws_eqRouteS.fL l0 l1) := LimIs.of_mono (fun k r h => laws_eqRouteS.mono l0 l1 k r h)
theorem laws_eqRouteS.l0L_eq (x0 : List (S129)) (x1 : List (S129)) (x5 : Int) : laws_eqRouteS.l0L x0 x1 x5 = if x5 < (x0.length : Int) then (if 0 ≤ x5 then (if x5 < (x1.length : Int) then ((laws_eqRoute.f ((rd_T129 x0 x5).f0) ((rd_T129 x0 x5).f1.f0) ((rd_T129 x0 x5).f1.f1) ((rd_T129 x1 x5).f0) ((rd_T129 x1 x5).f1.f0) ((rd_T129 x1 x5).f1.f1)).bind fun t252 => (if t252 = true then (laws_eqRouteS.l0L x0 x1 (wrap64 (x5 + 1))) else (some false))) else (none)) else (none)) else (some true) := by
  refine LimIs.unique (laws_eqRouteS.l0L_is x0 x1 x5) (LimIs.step (f := fun k => if x5 < (x0.length : Int) then (if 0 ≤ x5 then (if x5 < (x1.length : Int) then ((laws_eqRoute.f ((rd_T129 x0 x5).f0) ((rd_T129 x0 x5).f1.f0) ((rd_T129 x0 x5).f1.f1) ((rd_T129 x1 x5).f0) ((rd_T129 x1 x5).f1.f0) ((rd_T129 x1 x5).f1.f1)).bind fun t252 => (if t252 = true then (laws_eqRouteS.l0 k x0 x1 (wrap64 (x5 + 1))) else (some false))) else (none)) else (none)) else (some true)) (by simp only [laws_eqRouteS.l0]) (fun k => by simp only [laws_eqRouteS.l0]) ?_)
  repeat' first
    | (with_reducible exact LimIs.const _)
    | (with_reducible exact laws_eqRouteS.l0L_is _ _ _)
    | (with_reducible refine LimIs.ite ?_ ?_)
    | (with_reducible refine LimIs.bind ?_ (fun _ => ?_))
theorem laws_eqRouteS.fL_eq (l0 : List (S129)) (l1 : List (S129)) : laws_eqRouteS.fL l0 l1 = if (l0.length : Int) = (l1.length : Int) then (laws_eqRouteS.l0L l0 l1 0) else (some false) := by
  refine LimIs.unique (laws_eqRouteS.fL_is l0 l1) ?_
  unfold laws_eqRouteS.f
  repeat' first
    | (with_reducible exact LimIs.const _)
    | (with_reducible exact laws_eqRouteS.l0L_is _ _ _)
    | (with_reducible refine LimIs.ite ?_ ?_)
    | (with_reducible refine LimIs.bind ?_ (fun _ => ?_))
/-! ### laws_eqMaster -/
noncomputable def laws_eqMaster.fL (l0_0 : List (S129)) (a0_1 : Int) (a0_2 : Int) (a0_3 : Int) (a0_4 : Int) (a0_5 : ByteArray) (a0_6 : Int) (a0_7 : Int) (a0_8 : Int) (a0_9 : Int) (l1_0 : List (S129)) (a1_1 : Int) (a1_2 : Int) (a1_3 : Int) (a1_4 : Int) (a1_5 : ByteArray) (a1_6 : Int) (a1_7 : Int) (a1_8 : Int) (a1_9 : Int) : Option (Bool) := Lim (fun k => laws_eqMaster.f k l0_0 a0_1 a0_2 a0_3 a0_4 a0_5 a0_6 a0_7 a0_8 a0_9 l1_0 a1_1 a1_2 a1_3 a1_4 a1_5 a1_6 a1_7 a1_8 a1_9)
theorem laws_eqMaster.fL_is (l0_0 : List (S129)) (a0_1 : Int) (a0_2 : Int) (a0_3 : Int) (a0_4 : Int) (a0_5 : ByteArray) (a0_6 : Int) (a0_7 : Int) (a0_8 : Int) (a0_9 : Int) (l1_0 : List (S129)) (a1_1 : Int) (a1_2 : Int) (a1_3 : Int) (a1_4 : Int) (a1_5 : ByteArray) (a1_6 : Int) (a1_7 : Int) (a1_8 : Int) (a1_9 : Int) : LimIs (fun k => laws_eqMaster.f k l0_0 a0_1 a0_2 a0_3 a0_4 a0_5 a0_6 a0_7 a0_8 a0_9 l1_0 a1_1 a1_2 a1_3 a1_4 a1_5 a1_6 a1_7 a1_8 a1_9) (laws_eqMaster.fL l0_0 a0_1 a0_2 a0_3 a0_4 a0_5 a0_6 a0_7 a0_8 a0_9 l1_0 a1_1 a1_2 a1_3 a1_4 a1_5 a1_6 a1_7 a1_8 a1_9) := LimIs.of_mono (fun k r h => laws_eqMaster.mono l0_0 a0_1 a0_2 a0_3 a0_4 a0_5 a0_6 a0_7 a0_8 a0_9 l1_0 a1_1 a1_2 a1_3 a1_4 a1_5 a1_6 a1_7 a1_8 a1_9 k r h)
theorem laws_eqMaster.fL_eq (l0_0 : List (S129)) (a0_1 : Int) (a0_2 : Int) (a0_3 : Int) (a0_4 : Int) (a0_5 : ByteArray) (a0_6 : Int) (a0_7 : Int) (a0_8 : Int) (a0_9 : Int) (l1_0 : List (S129)) (a1_1 : Int) (a1_2 : Int) (a1_3 : Int) (a1_4 : Int) (a1_5 : ByteArray) (a1_6 : Int) (a1_7 : Int) (a1_8 : Int) (a1_9 : Int) : laws_eqMaster.fL l0_0 a0_1 a0_2 a0_3 a0_4 a0_5 a0_6 a0_7 a0_8 a0_9 l1_0 a1_1 a1_2 a1_3 a1_4 a1_5 a1_6 a1_7 a1_8 a1_9 = (laws_eqRouteS.fL l0_0 l1_0).bind fun t257 => (if t257 = true then (if a0_1 = a1_1 then ((laws_eqPlan.f a0_2 a0_3 a0_4 a0_5 a0_6 a0_7 a0_8 a1_2 a1_3 a1_4 a1_5 a1_6 a1_7 a1_8).bind fun t258 => (if t258 = true then (if a0_9 = a1_9 then (some true) else (some false)) else (some false))) else (some false)) else (some false)) := by
  refine LimIs.unique (laws_eqMaster.fL_is l0_0 a0_1 a0_2 a0_3 a0_4 a0_5 a0_6 a0_7 a0_8 a0_9 l1_0 a1_1 a1_2 a1_3 a1_4 a1_5 a1_6 a1_7 a1_8 a1_9) ?_
  unfold laws_eqMaster.f
  repeat' first
    | (with_reducible exact LimIs.const _)
    | (with_reducible exact laws_eqRouteS.fL_is _ _)
    | (with_reducible refine LimIs.ite ?_ ?_)
    | (with_reducible refine LimIs.bind ?_ (fun _ => ?_))
/-! ### laws_FnExactMasterValid -/
noncomputable def laws_FnExactMasterValid.fL (l0_0 : List (S162)) (a0_1 : Int) (a0_2 : Int) (a0_3 : Int) (a0_4 : Int) (a0_5 : ByteArray) (a0_6 : Int) (a0_7 : Int) (a0_8 : Int) (a0_9 : Int) : Option (Bool) := Lim (fun k => laws_FnExactMasterValid.f k l0_0 a0_1 a0_2 a0_3 a0_4 a0_5 a0_6 a0_7 a0_8 a0_9)
theorem laws_FnExactMasterValid.fL_is (l0_0 : List (S162)) (a0_1 : Int) (a0_2 : Int) (a0_3 : Int) (a0_4 : Int) (a0_5 : ByteArray) (a0_6 : Int) (a0_7 : Int) (a0_8 : Int) (a0_9 : Int) : LimIs (fun k => laws_FnExactMasterValid.f k l0_0 a0_1 a0_2 a0_3 a0_4 a0_5 a0_6 a0_7 a0_8 a0_9) (laws_FnExactMasterValid.fL l0_0 a0_1 a0_2 a0_3 a0_4 a0_5 a0_6 a0_7 a0_8 a0_9) := LimIs.of_mono (fun k r h => laws_FnExactMasterValid.mono l0_0 a0_1 a0_2 a0_3 a0_4 a0_5 a0_6 a0_7 a0_8 a0_9 k r h)
theorem laws_FnExactMasterValid.fL_eq (l0_0 : List (S162)) (a0_1 : Int) (a0_2 : Int) (a0_3 : Int) (a0_4 : Int) (a0_5 : ByteArray) (a0_6 : Int) (a0_7 : Int) (a0_8 : Int) (a0_9 : Int) : laws_FnExactMasterValid.fL l0_0 a0_1 a0_2 a0_3 a0_4 a0_5 a0_6 a0_7 a0_8 a0_9 = (laws_szMaster.fL l0_0 a0_1 a0_2 a0_3 a0_4 a0_5 a0_6 a0_7 a0_8 a0_9 1048576).bind fun t260 => (if t260 < 0 then (some true) else ((laws_toMaster.fL l0_0 a0_1 a0_2 a0_3 a0_4 a0_5 a0_6 a0_7 a0_8 a0_9).bind fun bt261 => ((spec_MasterValid.fL bt261.1 bt261.2.1 bt261.2.2.1 bt261.2.2.2.1 bt261.2.2.2.2.1 bt261.2.2.2.2.2.1 bt261.2.2.2.2.2.2.1 bt261.2.2.2.2.2.2.2.1 bt261.2.2.2.2.2.2.2.2.1 bt261.2.2.2.2.2.2.2.2.2).bind fun t273 => ((laws_toMaster.fL l0_0 a0_1 a0_2 a0_3 a0_4 a0_5 a0_6 a0_7 a0_8 a0_9).bind fun bt274 => ((impl_MasterValid.fL bt274.1 bt274.2.1 bt274.2.2.1 bt274.2.2.2.1 bt274.2.2.2.2.1 bt274.2.2.2.2.2.1 bt274.2.2.2.2.2.2.1 bt274.2.2.2.2.2.2.2.1 bt274.2.2.2.2.2.2.2.2.1 bt274.2.2.2.2.2.2.2.2.2).bind fun t287 => (if (t287 != t273) = true then (some false) else ((laws_toMaster.fL l0_0 a0_1 a0_2 a0_3 a0_4 a0_5 a0_6 a0_7 a0_8 a0_9).bind fun bt288 => ((laws_eqMaster.fL bt274.1 bt274.2.1 bt274.2.2.1 bt274.2.2.2.1 bt274.2.2.2.2.1 bt274.2.2.2.2.2.1 bt274.2.2.2.2.2.2.1 bt274.2.2.2.2.2.2.2.1 bt274.2.2.2.2.2.2.2.2.1 bt274.2.2.2.2.2.2.2.2.2 bt288.1 bt288.2.1 bt288.2.2.1 bt288.2.2.2.1 bt288.2.2.2.2.1 bt288.2.2.2.2.2.1 bt288.2.2.2.2.2.2.1 bt288.2.2.2.2.2.2.2.1 bt288.2.2.2.2.2.2.2.2.1 bt288.2.2.2.2.2.2.2.2.2).bind fun t300 => (if t300 = true then (some true) else (some false)))))))))) := by
  refine LimIs.unique (laws_FnExactMasterValid.fL_is l0_0 a0_1 a0_2 a0_3 a0_4 a0_5 a0_6 a0_7 a0_8 a0_9) ?_
  unfold laws_FnExactMasterValid.f
  repeat' first
    | (with_reducible exact LimIs.const _)
    | (with_reducible exact impl_MasterValid.fL_is _ _ _ _ _ _ _ _ _ _)
    | (with_reducible exact laws_eqMaster.fL_is _ _ _ _ _ _ _ _ _ _ _ _ _ _ _ _ _ _ _ _)
    | (with_reducible exact laws_szMaster.fL_is _ _ _ _ _ _ _ _ _ _ _)
    | (with_reducible exact laws_toMaster.fL_is _ _ _ _ _ _ _ _ _ _)
    | (with_reducible exact spec_MasterValid.fL_is _ _ _ _ _ _ _ _ _ _)
    | (with_reducible refine LimIs.ite ?_ ?_)
    | (with_reducible refine LimIs.bind ?_ (fun _ => ?_))
end Go.Proofs.Ytkejaolfbejokaa.PFnExactMasterValid
