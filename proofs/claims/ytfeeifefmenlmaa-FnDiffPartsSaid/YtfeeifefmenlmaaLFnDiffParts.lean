/- The limits of the printed functions, and their equations. Written by lim.py out of the print. No condition. -/
import Derived.Test.YtfeeifefmenlmaaPFnDiffPartsx14
import Derived.Test.YtfeeifefmenlmaaLim
namespace Go.Proofs.Ytfeeifefmenlmaa.PFnDiffParts
open Go.RowKit Go.Proofs.YtfeeifefmenlmaaW.PrintWords Go.Proofs.YtfeeifefmenlmaaW.PrintLast Go.Proofs.YtfeeifefmenlmaaW.PrintMore Go.Proofs.Ytfeeifefmenlmaa.Lim
set_option linter.unusedVariables false

/-! ### impl_lettersOnly -/
noncomputable def impl_lettersOnly.fL (a0 : ByteArray) : Option (Bool) := Lim (fun k => impl_lettersOnly.f k a0)
theorem impl_lettersOnly.fL_is (a0 : ByteArray) : LimIs (fun k => impl_lettersOnly.f k a0) (impl_lettersOnly.fL a0) := LimIs.of_mono (fun k r h => impl_lettersOnly.mono a0 k r h)
theorem impl_lettersOnly.fL_eq (a0 : ByteArray) : impl_lettersOnly.fL a0 = if a0.toList = ([] : List UInt8) then (some true) else (if 0 < (a0.size : Int) then (if (bt a0 0) ≥ 97 then (if (bt a0 0) ≤ 122 then (if 1 ≤ (a0.size : Int) then ((impl_lettersOnly.fL (a0.extract 1 a0.size)).bind fun t101 => (some t101)) else (none)) else (some false)) else (some false)) else (none)) := by
  refine LimIs.unique (impl_lettersOnly.fL_is a0) (LimIs.step1 (by simp only [impl_lettersOnly.f]) ?_)
  simp only [impl_lettersOnly.f]
  repeat' with_reducible first | exact LimIs.const _ | exact impl_lettersOnly.fL_is .. | refine LimIs.ite ?_ ?_ | refine LimIs.bind ?_ (fun _ => ?_)
/-! ### impl_KeyValid -/
noncomputable def impl_KeyValid.fL (a0 : ByteArray) : Option (Bool) := Lim (fun k => impl_KeyValid.f k a0)
theorem impl_KeyValid.fL_is (a0 : ByteArray) : LimIs (fun k => impl_KeyValid.f k a0) (impl_KeyValid.fL a0) := LimIs.of_mono (fun k r h => impl_KeyValid.mono a0 k r h)
theorem impl_KeyValid.fL_eq (a0 : ByteArray) : impl_KeyValid.fL a0 = if (a0.size : Int) < 1 then (some false) else (if (a0.size : Int) > 4 then (some false) else ((impl_lettersOnly.fL a0).bind fun t102 => (some t102))) := by
  refine LimIs.unique (impl_KeyValid.fL_is a0) ?_
  unfold impl_KeyValid.f
  repeat' with_reducible first | exact LimIs.const _ | exact impl_lettersOnly.fL_is .. | refine LimIs.ite ?_ ?_ | refine LimIs.bind ?_ (fun _ => ?_)
/-! ### impl_PairsValid -/
noncomputable def impl_PairsValid.l0L (x0 x8 : List (S29)) (x9 x10 : Int) : Option (Bool) := Lim (fun k => impl_PairsValid.l0 k x0 x8 x9 x10)
theorem impl_PairsValid.l0L_is (x0 x8 : List (S29)) (x9 x10 : Int) : LimIs (fun k => impl_PairsValid.l0 k x0 x8 x9 x10) (impl_PairsValid.l0L x0 x8 x9 x10) := LimIs.of_mono (fun k r h => (impl_PairsValid.mono_l k).1 x0 x8 x9 x10 r h)
noncomputable def impl_PairsValid.j1L (x0 : List (S29)) (x3 : Int) (x8 : List (S29)) (x9 x10 : Int) (x24 : Bool) (x105000 : ByteArray) (x105001 : Int) : Option (Bool) := Lim (fun k => impl_PairsValid.j1 k x0 x3 x8 x9 x10 x24 x105000 x105001)
theorem impl_PairsValid.j1L_is (x0 : List (S29)) (x3 : Int) (x8 : List (S29)) (x9 x10 : Int) (x24 : Bool) (x105000 : ByteArray) (x105001 : Int) : LimIs (fun k => impl_PairsValid.j1 k x0 x3 x8 x9 x10 x24 x105000 x105001) (impl_PairsValid.j1L x0 x3 x8 x9 x10 x24 x105000 x105001) := LimIs.of_mono (fun k r h => (impl_PairsValid.mono_l k).2 x0 x3 x8 x9 x10 x24 x105000 x105001 r h)
noncomputable def impl_PairsValid.fL (l0 : List (S29)) : Option (Bool) := Lim (fun k => impl_PairsValid.f k l0)
theorem impl_PairsValid.fL_is (l0 : List (S29)) : LimIs (fun k => impl_PairsValid.f k l0) (impl_PairsValid.fL l0) := LimIs.of_mono (fun k r h => impl_PairsValid.mono l0 k r h)
theorem impl_PairsValid.l0L_eq (x0 x8 : List (S29)) (x9 x10 : Int) : impl_PairsValid.l0L x0 x8 x9 x10 = if x10 < x9 then (if 0 ≤ x10 then (if x10 < (x8.length : Int) then ((impl_KeyValid.fL ((rd_T29 x8 x10).f0)).bind fun t105 => (if t105 = true then ((impl_valueValid.f ((rd_T29 x8 x10).f1)).bind fun t106 => (impl_PairsValid.j1L x0 x10 x8 x9 x10 (!t106) ((rd_T29 x8 x10).f0) ((rd_T29 x8 x10).f1))) else (impl_PairsValid.j1L x0 x10 x8 x9 x10 true ((rd_T29 x8 x10).f0) ((rd_T29 x8 x10).f1)))) else (none)) else (none)) else (some true) := by
  refine LimIs.unique (impl_PairsValid.l0L_is x0 x8 x9 x10) (LimIs.step1 (by simp only [impl_PairsValid.l0]) ?_)
  simp only [impl_PairsValid.l0]
  repeat' with_reducible first | exact LimIs.const _ | exact impl_KeyValid.fL_is .. | exact impl_PairsValid.j1L_is .. | refine LimIs.ite ?_ ?_ | refine LimIs.bind ?_ (fun _ => ?_)
theorem impl_PairsValid.j1L_eq (x0 : List (S29)) (x3 : Int) (x8 : List (S29)) (x9 x10 : Int) (x24 : Bool) (x105000 : ByteArray) (x105001 : Int) : impl_PairsValid.j1L x0 x3 x8 x9 x10 x24 x105000 x105001 = if x24 = true then (some false) else (if x3 > 0 then (if 0 ≤ (wrap64 (x3 - 1)) then (if (wrap64 (x3 - 1)) < (x0.length : Int) then (if ((Op.bytesLess (((rd_T29 x0 (wrap64 (x3 - 1))).f0).toList) x105000.toList) = true) then (impl_PairsValid.l0L x0 x8 x9 (wrap64 (x10 + 1))) else (some false)) else (none)) else (none)) else (impl_PairsValid.l0L x0 x8 x9 (wrap64 (x10 + 1)))) := by
  refine LimIs.unique (impl_PairsValid.j1L_is x0 x3 x8 x9 x10 x24 x105000 x105001) (LimIs.step1 (by simp only [impl_PairsValid.j1]) ?_)
  simp only [impl_PairsValid.j1]
  repeat' with_reducible first | exact LimIs.const _ | exact impl_PairsValid.l0L_is .. | refine LimIs.ite ?_ ?_ | refine LimIs.bind ?_ (fun _ => ?_)
theorem impl_PairsValid.fL_eq (l0 : List (S29)) : impl_PairsValid.fL l0 = if (l0.length : Int) > 48 then (some false) else (impl_PairsValid.l0L l0 l0 (l0.length : Int) 0) := by
  refine LimIs.unique (impl_PairsValid.fL_is l0) ?_
  unfold impl_PairsValid.f
  repeat' with_reducible first | exact LimIs.const _ | exact impl_PairsValid.l0L_is .. | refine LimIs.ite ?_ ?_ | refine LimIs.bind ?_ (fun _ => ?_)
/-! ### impl_keysFrom -/
noncomputable def impl_keysFrom.fL (a0 : Int) : Option (Int) := Lim (fun k => impl_keysFrom.f k a0)
theorem impl_keysFrom.fL_is (a0 : Int) : LimIs (fun k => impl_keysFrom.f k a0) (impl_keysFrom.fL a0) := LimIs.of_mono (fun k r h => impl_keysFrom.mono a0 k r h)
theorem impl_keysFrom.fL_eq (a0 : Int) : impl_keysFrom.fL a0 = if a0 ≥ 4 then (some 1) else ((impl_keysFrom.fL (wrap64 (a0 + 1))).bind fun t108 => (some (wrap64 (1 + (wrap64 (26 * t108)))))) := by
  refine LimIs.unique (impl_keysFrom.fL_is a0) (LimIs.step1 (by simp only [impl_keysFrom.f]) ?_)
  simp only [impl_keysFrom.f]
  repeat' with_reducible first | exact LimIs.const _ | exact impl_keysFrom.fL_is .. | refine LimIs.ite ?_ ?_ | refine LimIs.bind ?_ (fun _ => ?_)
/-! ### impl_rankBelow -/
noncomputable def impl_rankBelow.fL (a0 : ByteArray) (a1 : Int) : Option (Int) := Lim (fun k => impl_rankBelow.f k a0 a1)
theorem impl_rankBelow.fL_is (a0 : ByteArray) (a1 : Int) : LimIs (fun k => impl_rankBelow.f k a0 a1) (impl_rankBelow.fL a0 a1) := LimIs.of_mono (fun k r h => impl_rankBelow.mono a0 a1 k r h)
theorem impl_rankBelow.fL_eq (a0 : ByteArray) (a1 : Int) : impl_rankBelow.fL a0 a1 = if a0.toList = ([] : List UInt8) then (some 0) else (if 0 < (a0.size : Int) then ((impl_keysFrom.fL a1).bind fun t109 => (if 1 ≤ (a0.size : Int) then ((impl_rankBelow.fL (a0.extract 1 a0.size) (wrap64 (a1 + 1))).bind fun t110 => (some (wrap64 ((wrap64 (1 + (wrap64 ((((bt a0 0) - 97) % 256) * t109)))) + t110)))) else (none))) else (none)) := by
  refine LimIs.unique (impl_rankBelow.fL_is a0 a1) (LimIs.step1 (by simp only [impl_rankBelow.f]) ?_)
  simp only [impl_rankBelow.f]
  repeat' with_reducible first | exact LimIs.const _ | exact impl_keysFrom.fL_is .. | exact impl_rankBelow.fL_is .. | refine LimIs.ite ?_ ?_ | refine LimIs.bind ?_ (fun _ => ?_)
/-! ### impl_KeyRank -/
noncomputable def impl_KeyRank.fL (a0 : ByteArray) : Option (Int) := Lim (fun k => impl_KeyRank.f k a0)
theorem impl_KeyRank.fL_is (a0 : ByteArray) : LimIs (fun k => impl_KeyRank.f k a0) (impl_KeyRank.fL a0) := LimIs.of_mono (fun k r h => impl_KeyRank.mono a0 k r h)
theorem impl_KeyRank.fL_eq (a0 : ByteArray) : impl_KeyRank.fL a0 = (impl_KeyValid.fL a0).bind fun t111 => (if t111 = true then ((impl_rankBelow.fL a0 1).bind fun t112 => (some (wrap64 (t112 - 1)))) else (some (-1))) := by
  refine LimIs.unique (impl_KeyRank.fL_is a0) ?_
  unfold impl_KeyRank.f
  repeat' with_reducible first | exact LimIs.const _ | exact impl_KeyValid.fL_is .. | exact impl_rankBelow.fL_is .. | refine LimIs.ite ?_ ?_ | refine LimIs.bind ?_ (fun _ => ?_)
/-! ### laws_alive -/
noncomputable def laws_alive.fL : Option (Bool) := Lim (fun k => laws_alive.f k)
theorem laws_alive.fL_is : LimIs (fun k => laws_alive.f k) (laws_alive.fL) := LimIs.of_mono (fun k r h => laws_alive.mono k r h)
theorem laws_alive.fL_eq : laws_alive.fL = (impl_KeyRank.fL (⟨#[97, 97]⟩ : ByteArray)).bind fun t113 => (if t113 = 1 then ((impl_KeyRank.fL (⟨#[]⟩ : ByteArray)).bind fun t114 => (some (t114 == (-1)))) else (some false)) := by
  refine LimIs.unique (laws_alive.fL_is) ?_
  unfold laws_alive.f
  repeat' with_reducible first | exact LimIs.const _ | exact impl_KeyRank.fL_is .. | refine LimIs.ite ?_ ?_ | refine LimIs.bind ?_ (fun _ => ?_)
/-! ### laws_sameInts -/
noncomputable def laws_sameInts.l0L (x0 x1 : List Int) (x5 : Int) : Option (Bool) := Lim (fun k => laws_sameInts.l0 k x0 x1 x5)
theorem laws_sameInts.l0L_is (x0 x1 : List Int) (x5 : Int) : LimIs (fun k => laws_sameInts.l0 k x0 x1 x5) (laws_sameInts.l0L x0 x1 x5) := LimIs.of_mono (fun k r h => (laws_sameInts.mono_l k) x0 x1 x5 r h)
noncomputable def laws_sameInts.fL (l0 l1 : List Int) : Option (Bool) := Lim (fun k => laws_sameInts.f k l0 l1)
theorem laws_sameInts.fL_is (l0 l1 : List Int) : LimIs (fun k => laws_sameInts.f k l0 l1) (laws_sameInts.fL l0 l1) := LimIs.of_mono (fun k r h => laws_sameInts.mono l0 l1 k r h)
theorem laws_sameInts.l0L_eq (x0 x1 : List Int) (x5 : Int) : laws_sameInts.l0L x0 x1 x5 = if x5 < (x0.length : Int) then (if 0 ≤ x5 then (if x5 < (x1.length : Int) then (if (rd x0 x5) = (rd x1 x5) then (laws_sameInts.l0L x0 x1 (wrap64 (x5 + 1))) else (some false)) else (none)) else (none)) else (some true) := by
  refine LimIs.unique (laws_sameInts.l0L_is x0 x1 x5) (LimIs.step1 (by simp only [laws_sameInts.l0]) ?_)
  simp only [laws_sameInts.l0]
  repeat' with_reducible first | exact LimIs.const _ | exact laws_sameInts.l0L_is .. | refine LimIs.ite ?_ ?_ | refine LimIs.bind ?_ (fun _ => ?_)
theorem laws_sameInts.fL_eq (l0 l1 : List Int) : laws_sameInts.fL l0 l1 = if (l0.length : Int) = (l1.length : Int) then (laws_sameInts.l0L l0 l1 0) else (some false) := by
  refine LimIs.unique (laws_sameInts.fL_is l0 l1) ?_
  unfold laws_sameInts.f
  repeat' with_reducible first | exact LimIs.const _ | exact laws_sameInts.l0L_is .. | refine LimIs.ite ?_ ?_ | refine LimIs.bind ?_ (fun _ => ?_)
/-! ### impl_IntervalValid -/
noncomputable def impl_IntervalValid.fL (a0_0 a0_1 : ByteArray) : Option (Bool) := Lim (fun k => impl_IntervalValid.f k a0_0 a0_1)
theorem impl_IntervalValid.fL_is (a0_0 a0_1 : ByteArray) : LimIs (fun k => impl_IntervalValid.f k a0_0 a0_1) (impl_IntervalValid.fL a0_0 a0_1) := LimIs.of_mono (fun k r h => impl_IntervalValid.mono a0_0 a0_1 k r h)
theorem impl_IntervalValid.fL_eq (a0_0 a0_1 : ByteArray) : impl_IntervalValid.fL a0_0 a0_1 = if a0_0.toList = ([] : List UInt8) then (if a0_1.toList = ([] : List UInt8) then (some true) else ((impl_KeyValid.fL a0_1).bind fun t119 => (if t119 = true then ((impl_lowestKey.f a0_0 a0_1).bind fun t120 => (some (Op.bytesLess t120.toList a0_1.toList))) else (some false)))) else ((impl_KeyValid.fL a0_0).bind fun t121 => (if t121 = true then (if a0_1.toList = ([] : List UInt8) then (some true) else ((impl_KeyValid.fL a0_1).bind fun t122 => (if t122 = true then ((impl_lowestKey.f a0_0 a0_1).bind fun t123 => (some (Op.bytesLess t123.toList a0_1.toList))) else (some false)))) else (some false))) := by
  refine LimIs.unique (impl_IntervalValid.fL_is a0_0 a0_1) ?_
  unfold impl_IntervalValid.f
  repeat' with_reducible first | exact LimIs.const _ | exact impl_KeyValid.fL_is .. | refine LimIs.ite ?_ ?_ | refine LimIs.bind ?_ (fun _ => ?_)
/-! ### impl_IntervalJoin -/
noncomputable def impl_IntervalJoin.fL (a0_0 a0_1 a1_0 a1_1 : ByteArray) : Option (ByteArray × ByteArray × Bool) := Lim (fun k => impl_IntervalJoin.f k a0_0 a0_1 a1_0 a1_1)
theorem impl_IntervalJoin.fL_is (a0_0 a0_1 a1_0 a1_1 : ByteArray) : LimIs (fun k => impl_IntervalJoin.f k a0_0 a0_1 a1_0 a1_1) (impl_IntervalJoin.fL a0_0 a0_1 a1_0 a1_1) := LimIs.of_mono (fun k r h => impl_IntervalJoin.mono a0_0 a0_1 a1_0 a1_1 k r h)
theorem impl_IntervalJoin.fL_eq (a0_0 a0_1 a1_0 a1_1 : ByteArray) : impl_IntervalJoin.fL a0_0 a0_1 a1_0 a1_1 = (impl_IntervalValid.fL a0_0 a0_1).bind fun t127 => (if t127 = true then ((impl_IntervalValid.fL a1_0 a1_1).bind fun t128 => (if t128 = true then (if a0_1.toList = ([] : List UInt8) then (some ((⟨#[]⟩ : ByteArray), (⟨#[]⟩ : ByteArray), false)) else (if a0_1.toList = a1_0.toList then (some (a0_0, a1_1, true)) else (some ((⟨#[]⟩ : ByteArray), (⟨#[]⟩ : ByteArray), false)))) else (some ((⟨#[]⟩ : ByteArray), (⟨#[]⟩ : ByteArray), false)))) else (some ((⟨#[]⟩ : ByteArray), (⟨#[]⟩ : ByteArray), false))) := by
  refine LimIs.unique (impl_IntervalJoin.fL_is a0_0 a0_1 a1_0 a1_1) ?_
  unfold impl_IntervalJoin.f
  repeat' with_reducible first | exact LimIs.const _ | exact impl_IntervalValid.fL_is .. | refine LimIs.ite ?_ ?_ | refine LimIs.bind ?_ (fun _ => ?_)
/-! ### impl_PartitionValid -/
noncomputable def impl_PartitionValid.j0L (x0 : List (S83)) (x31 : Bool) : Option (Bool) := Lim (fun k => impl_PartitionValid.j0 k x0 x31)
theorem impl_PartitionValid.j0L_is (x0 : List (S83)) (x31 : Bool) : LimIs (fun k => impl_PartitionValid.j0 k x0 x31) (impl_PartitionValid.j0L x0 x31) := LimIs.of_mono (fun k r h => (impl_PartitionValid.mono_l k).1 x0 x31 r h)
noncomputable def impl_PartitionValid.l0L (x0 x32 : List (S83)) (x33 x34 : Int) : Option (Bool) := Lim (fun k => impl_PartitionValid.l0 k x0 x32 x33 x34)
theorem impl_PartitionValid.l0L_is (x0 x32 : List (S83)) (x33 x34 : Int) : LimIs (fun k => impl_PartitionValid.l0 k x0 x32 x33 x34) (impl_PartitionValid.l0L x0 x32 x33 x34) := LimIs.of_mono (fun k r h => (impl_PartitionValid.mono_l k).2 x0 x32 x33 x34 r h)
noncomputable def impl_PartitionValid.fL (l0 : List (S83)) : Option (Bool) := Lim (fun k => impl_PartitionValid.f k l0)
theorem impl_PartitionValid.fL_is (l0 : List (S83)) : LimIs (fun k => impl_PartitionValid.f k l0) (impl_PartitionValid.fL l0) := LimIs.of_mono (fun k r h => impl_PartitionValid.mono l0 k r h)
theorem impl_PartitionValid.j0L_eq (x0 : List (S83)) (x31 : Bool) : impl_PartitionValid.j0L x0 x31 = if x31 = true then (some false) else (impl_PartitionValid.l0L x0 x0 (x0.length : Int) 0) := by
  refine LimIs.unique (impl_PartitionValid.j0L_is x0 x31) (LimIs.step1 (by simp only [impl_PartitionValid.j0]) ?_)
  simp only [impl_PartitionValid.j0]
  repeat' with_reducible first | exact LimIs.const _ | exact impl_PartitionValid.l0L_is .. | refine LimIs.ite ?_ ?_ | refine LimIs.bind ?_ (fun _ => ?_)
theorem impl_PartitionValid.l0L_eq (x0 x32 : List (S83)) (x33 x34 : Int) : impl_PartitionValid.l0L x0 x32 x33 x34 = if x34 < x33 then (if 0 ≤ x34 then (if x34 < (x32.length : Int) then ((impl_IntervalValid.fL ((rd_T83 x32 x34).f0) ((rd_T83 x32 x34).f1)).bind fun t133 => (if t133 = true then (if x34 > 0 then (if 0 ≤ (wrap64 (x34 - 1)) then (if (wrap64 (x34 - 1)) < (x0.length : Int) then ((impl_IntervalJoin.fL ((rd_T83 x0 (wrap64 (x34 - 1))).f0) ((rd_T83 x0 (wrap64 (x34 - 1))).f1) ((rd_T83 x32 x34).f0) ((rd_T83 x32 x34).f1)).bind fun bt135 => (if bt135.2.2 = true then (impl_PartitionValid.l0L x0 x32 x33 (wrap64 (x34 + 1))) else (some false))) else (none)) else (none)) else (impl_PartitionValid.l0L x0 x32 x33 (wrap64 (x34 + 1)))) else (some false))) else (none)) else (none)) else (some true) := by
  refine LimIs.unique (impl_PartitionValid.l0L_is x0 x32 x33 x34) (LimIs.step1 (by simp only [impl_PartitionValid.l0]) ?_)
  simp only [impl_PartitionValid.l0]
  repeat' with_reducible first | exact LimIs.const _ | exact impl_IntervalJoin.fL_is .. | exact impl_IntervalValid.fL_is .. | exact impl_PartitionValid.l0L_is .. | refine LimIs.ite ?_ ?_ | refine LimIs.bind ?_ (fun _ => ?_)
theorem impl_PartitionValid.fL_eq (l0 : List (S83)) : impl_PartitionValid.fL l0 = if (l0.length : Int) < 1 then (impl_PartitionValid.j0L l0 true) else (if (l0.length : Int) > 6 then (impl_PartitionValid.j0L l0 true) else (if 0 < (l0.length : Int) then (if ((rd_T83 l0 0).f0).toList = ([] : List UInt8) then (if 0 ≤ (wrap64 ((l0.length : Int) - 1)) then (if (wrap64 ((l0.length : Int) - 1)) < (l0.length : Int) then (impl_PartitionValid.j0L l0 (((rd_T83 l0 (wrap64 ((l0.length : Int) - 1))).f1).toList != ([] : List UInt8))) else (none)) else (none)) else (impl_PartitionValid.j0L l0 true)) else (none))) := by
  refine LimIs.unique (impl_PartitionValid.fL_is l0) ?_
  unfold impl_PartitionValid.f
  repeat' with_reducible first | exact LimIs.const _ | exact impl_PartitionValid.j0L_is .. | refine LimIs.ite ?_ ?_ | refine LimIs.bind ?_ (fun _ => ?_)
/-! ### spec_KeyValid -/
noncomputable def spec_KeyValid.l0L (x0 : ByteArray) (x3 : Int) : Option (Bool) := Lim (fun k => spec_KeyValid.l0 k x0 x3)
theorem spec_KeyValid.l0L_is (x0 : ByteArray) (x3 : Int) : LimIs (fun k => spec_KeyValid.l0 k x0 x3) (spec_KeyValid.l0L x0 x3) := LimIs.of_mono (fun k r h => (spec_KeyValid.mono_l k) x0 x3 r h)
noncomputable def spec_KeyValid.fL (a0 : ByteArray) : Option (Bool) := Lim (fun k => spec_KeyValid.f k a0)
theorem spec_KeyValid.fL_is (a0 : ByteArray) : LimIs (fun k => spec_KeyValid.f k a0) (spec_KeyValid.fL a0) := LimIs.of_mono (fun k r h => spec_KeyValid.mono a0 k r h)
theorem spec_KeyValid.l0L_eq (x0 : ByteArray) (x3 : Int) : spec_KeyValid.l0L x0 x3 = if x3 < (x0.size : Int) then (if 0 ≤ x3 then (if (bt x0 x3) < 97 then (some false) else (if (bt x0 x3) > 122 then (some false) else (spec_KeyValid.l0L x0 (wrap64 (x3 + 1))))) else (none)) else (some true) := by
  refine LimIs.unique (spec_KeyValid.l0L_is x0 x3) (LimIs.step1 (by simp only [spec_KeyValid.l0]) ?_)
  simp only [spec_KeyValid.l0]
  repeat' with_reducible first | exact LimIs.const _ | exact spec_KeyValid.l0L_is .. | refine LimIs.ite ?_ ?_ | refine LimIs.bind ?_ (fun _ => ?_)
theorem spec_KeyValid.fL_eq (a0 : ByteArray) : spec_KeyValid.fL a0 = (spec_l1In.f (a0.size : Int) 1 4).bind fun t139 => (if t139 = true then (spec_KeyValid.l0L a0 0) else (some false)) := by
  refine LimIs.unique (spec_KeyValid.fL_is a0) ?_
  unfold spec_KeyValid.f
  repeat' with_reducible first | exact LimIs.const _ | exact spec_KeyValid.l0L_is .. | refine LimIs.ite ?_ ?_ | refine LimIs.bind ?_ (fun _ => ?_)
/-! ### spec_PairsValid -/
noncomputable def spec_PairsValid.l0L (x0 : List (S29)) (x3 : Int) : Option (Bool) := Lim (fun k => spec_PairsValid.l0 k x0 x3)
theorem spec_PairsValid.l0L_is (x0 : List (S29)) (x3 : Int) : LimIs (fun k => spec_PairsValid.l0 k x0 x3) (spec_PairsValid.l0L x0 x3) := LimIs.of_mono (fun k r h => (spec_PairsValid.mono_l k) x0 x3 r h)
noncomputable def spec_PairsValid.fL (l0 : List (S29)) : Option (Bool) := Lim (fun k => spec_PairsValid.f k l0)
theorem spec_PairsValid.fL_is (l0 : List (S29)) : LimIs (fun k => spec_PairsValid.f k l0) (spec_PairsValid.fL l0) := LimIs.of_mono (fun k r h => spec_PairsValid.mono l0 k r h)
theorem spec_PairsValid.l0L_eq (x0 : List (S29)) (x3 : Int) : spec_PairsValid.l0L x0 x3 = if x3 < (x0.length : Int) then (if 0 ≤ x3 then ((spec_KeyValid.fL ((rd_T29 x0 x3).f0)).bind fun t141 => (if t141 = true then ((spec_l1In.f ((rd_T29 x0 x3).f1) 0 999).bind fun t143 => (if t143 = true then (if x3 > 0 then (if 0 ≤ (wrap64 (x3 - 1)) then (if (wrap64 (x3 - 1)) < (x0.length : Int) then (if ((Op.bytesLess (((rd_T29 x0 (wrap64 (x3 - 1))).f0).toList) (((rd_T29 x0 x3).f0).toList)) = true) then (spec_PairsValid.l0L x0 (wrap64 (x3 + 1))) else (some false)) else (none)) else (none)) else (spec_PairsValid.l0L x0 (wrap64 (x3 + 1)))) else (some false))) else (some false))) else (none)) else (some true) := by
  refine LimIs.unique (spec_PairsValid.l0L_is x0 x3) (LimIs.step1 (by simp only [spec_PairsValid.l0]) ?_)
  simp only [spec_PairsValid.l0]
  repeat' with_reducible first | exact LimIs.const _ | exact spec_KeyValid.fL_is .. | exact spec_PairsValid.l0L_is .. | refine LimIs.ite ?_ ?_ | refine LimIs.bind ?_ (fun _ => ?_)
theorem spec_PairsValid.fL_eq (l0 : List (S29)) : spec_PairsValid.fL l0 = if (l0.length : Int) > 48 then (some false) else (spec_PairsValid.l0L l0 0) := by
  refine LimIs.unique (spec_PairsValid.fL_is l0) ?_
  unfold spec_PairsValid.f
  repeat' with_reducible first | exact LimIs.const _ | exact spec_PairsValid.l0L_is .. | refine LimIs.ite ?_ ?_ | refine LimIs.bind ?_ (fun _ => ?_)
/-! ### spec_KeyRank -/
noncomputable def spec_KeyRank.l0L (x0 : ByteArray) (x3 x4 : Int) : Option (Int) := Lim (fun k => spec_KeyRank.l0 k x0 x3 x4)
theorem spec_KeyRank.l0L_is (x0 : ByteArray) (x3 x4 : Int) : LimIs (fun k => spec_KeyRank.l0 k x0 x3 x4) (spec_KeyRank.l0L x0 x3 x4) := LimIs.of_mono (fun k r h => (spec_KeyRank.mono_l k) x0 x3 x4 r h)
noncomputable def spec_KeyRank.fL (a0 : ByteArray) : Option (Int) := Lim (fun k => spec_KeyRank.f k a0)
theorem spec_KeyRank.fL_is (a0 : ByteArray) : LimIs (fun k => spec_KeyRank.f k a0) (spec_KeyRank.fL a0) := LimIs.of_mono (fun k r h => spec_KeyRank.mono a0 k r h)
theorem spec_KeyRank.l0L_eq (x0 : ByteArray) (x3 x4 : Int) : spec_KeyRank.l0L x0 x3 x4 = if x4 < (x0.size : Int) then (if 0 ≤ x4 then ((spec_l1Weight.f x4).bind fun t147 => (spec_KeyRank.l0L x0 (wrap64 ((wrap64 (x3 + 1)) + (wrap64 ((((bt x0 x4) - 97) % 256) * t147)))) (wrap64 (x4 + 1)))) else (none)) else (some x3) := by
  refine LimIs.unique (spec_KeyRank.l0L_is x0 x3 x4) (LimIs.step1 (by simp only [spec_KeyRank.l0]) ?_)
  simp only [spec_KeyRank.l0]
  repeat' with_reducible first | exact LimIs.const _ | exact spec_KeyRank.l0L_is .. | refine LimIs.ite ?_ ?_ | refine LimIs.bind ?_ (fun _ => ?_)
theorem spec_KeyRank.fL_eq (a0 : ByteArray) : spec_KeyRank.fL a0 = (spec_KeyValid.fL a0).bind fun t146 => (if t146 = true then (spec_KeyRank.l0L a0 (-1) 0) else (some (-1))) := by
  refine LimIs.unique (spec_KeyRank.fL_is a0) ?_
  unfold spec_KeyRank.f
  repeat' with_reducible first | exact LimIs.const _ | exact spec_KeyRank.l0L_is .. | exact spec_KeyValid.fL_is .. | refine LimIs.ite ?_ ?_ | refine LimIs.bind ?_ (fun _ => ?_)
/-! ### spec_PairDigest -/
noncomputable def spec_PairDigest.fL (a0_0 : ByteArray) (a0_1 : Int) : Option (Int) := Lim (fun k => spec_PairDigest.f k a0_0 a0_1)
theorem spec_PairDigest.fL_is (a0_0 : ByteArray) (a0_1 : Int) : LimIs (fun k => spec_PairDigest.f k a0_0 a0_1) (spec_PairDigest.fL a0_0 a0_1) := LimIs.of_mono (fun k r h => spec_PairDigest.mono a0_0 a0_1 k r h)
theorem spec_PairDigest.fL_eq (a0_0 : ByteArray) (a0_1 : Int) : spec_PairDigest.fL a0_0 a0_1 = (spec_KeyValid.fL a0_0).bind fun t149 => (if t149 = true then ((spec_l1In.f a0_1 0 999).bind fun t150 => (if t150 = true then ((spec_KeyRank.fL a0_0).bind fun t151 => (some (Int.tmod (wrap64 ((wrap64 ((wrap64 (1009 * t151)) + (wrap64 (7 * a0_1)))) + 3)) 99991))) else (some (-1)))) else (some (-1))) := by
  refine LimIs.unique (spec_PairDigest.fL_is a0_0 a0_1) ?_
  unfold spec_PairDigest.f
  repeat' with_reducible first | exact LimIs.const _ | exact spec_KeyRank.fL_is .. | exact spec_KeyValid.fL_is .. | refine LimIs.ite ?_ ?_ | refine LimIs.bind ?_ (fun _ => ?_)
/-! ### spec_PairsDigest -/
noncomputable def spec_PairsDigest.l0L (x0 : List (S29)) (x3 x4 : Int) : Option (Int) := Lim (fun k => spec_PairsDigest.l0 k x0 x3 x4)
theorem spec_PairsDigest.l0L_is (x0 : List (S29)) (x3 x4 : Int) : LimIs (fun k => spec_PairsDigest.l0 k x0 x3 x4) (spec_PairsDigest.l0L x0 x3 x4) := LimIs.of_mono (fun k r h => (spec_PairsDigest.mono_l k) x0 x3 x4 r h)
noncomputable def spec_PairsDigest.fL (l0 : List (S29)) : Option (Int) := Lim (fun k => spec_PairsDigest.f k l0)
theorem spec_PairsDigest.fL_is (l0 : List (S29)) : LimIs (fun k => spec_PairsDigest.f k l0) (spec_PairsDigest.fL l0) := LimIs.of_mono (fun k r h => spec_PairsDigest.mono l0 k r h)
theorem spec_PairsDigest.l0L_eq (x0 : List (S29)) (x3 x4 : Int) : spec_PairsDigest.l0L x0 x3 x4 = if x4 < (x0.length : Int) then (if 0 ≤ x4 then ((spec_PairDigest.fL ((rd_T29 x0 x4).f0) ((rd_T29 x0 x4).f1)).bind fun t154 => (spec_PairsDigest.l0L x0 (Int.tmod (wrap64 (x3 + t154)) 99991) (wrap64 (x4 + 1)))) else (none)) else (some x3) := by
  refine LimIs.unique (spec_PairsDigest.l0L_is x0 x3 x4) (LimIs.step1 (by simp only [spec_PairsDigest.l0]) ?_)
  simp only [spec_PairsDigest.l0]
  repeat' with_reducible first | exact LimIs.const _ | exact spec_PairDigest.fL_is .. | exact spec_PairsDigest.l0L_is .. | refine LimIs.ite ?_ ?_ | refine LimIs.bind ?_ (fun _ => ?_)
theorem spec_PairsDigest.fL_eq (l0 : List (S29)) : spec_PairsDigest.fL l0 = (spec_PairsValid.fL l0).bind fun t152 => (if t152 = true then (spec_PairsDigest.l0L l0 0 0) else (some (-1))) := by
  refine LimIs.unique (spec_PairsDigest.fL_is l0) ?_
  unfold spec_PairsDigest.f
  repeat' with_reducible first | exact LimIs.const _ | exact spec_PairsDigest.l0L_is .. | exact spec_PairsValid.fL_is .. | refine LimIs.ite ?_ ?_ | refine LimIs.bind ?_ (fun _ => ?_)
/-! ### spec_IntervalValid -/
noncomputable def spec_IntervalValid.fL (a0_0 a0_1 : ByteArray) : Option (Bool) := Lim (fun k => spec_IntervalValid.f k a0_0 a0_1)
theorem spec_IntervalValid.fL_is (a0_0 a0_1 : ByteArray) : LimIs (fun k => spec_IntervalValid.f k a0_0 a0_1) (spec_IntervalValid.fL a0_0 a0_1) := LimIs.of_mono (fun k r h => spec_IntervalValid.mono a0_0 a0_1 k r h)
theorem spec_IntervalValid.fL_eq (a0_0 a0_1 : ByteArray) : spec_IntervalValid.fL a0_0 a0_1 = if a0_0.toList = ([] : List UInt8) then (if a0_1.toList = ([] : List UInt8) then (some true) else ((spec_KeyValid.fL a0_1).bind fun t156 => (if t156 = true then (if (Op.bytesLess a0_0.toList a0_1.toList) = true then (some (a0_1.toList != ([97] : List UInt8))) else (some false)) else (some false)))) else ((spec_KeyValid.fL a0_0).bind fun t157 => (if t157 = true then (if a0_1.toList = ([] : List UInt8) then (some true) else ((spec_KeyValid.fL a0_1).bind fun t158 => (if t158 = true then (if (Op.bytesLess a0_0.toList a0_1.toList) = true then (some true) else (some false)) else (some false)))) else (some false))) := by
  refine LimIs.unique (spec_IntervalValid.fL_is a0_0 a0_1) ?_
  unfold spec_IntervalValid.f
  repeat' with_reducible first | exact LimIs.const _ | exact spec_KeyValid.fL_is .. | refine LimIs.ite ?_ ?_ | refine LimIs.bind ?_ (fun _ => ?_)
/-! ### spec_IntervalJoin -/
noncomputable def spec_IntervalJoin.fL (a0_0 a0_1 a1_0 a1_1 : ByteArray) : Option (ByteArray × ByteArray × Bool) := Lim (fun k => spec_IntervalJoin.f k a0_0 a0_1 a1_0 a1_1)
theorem spec_IntervalJoin.fL_is (a0_0 a0_1 a1_0 a1_1 : ByteArray) : LimIs (fun k => spec_IntervalJoin.f k a0_0 a0_1 a1_0 a1_1) (spec_IntervalJoin.fL a0_0 a0_1 a1_0 a1_1) := LimIs.of_mono (fun k r h => spec_IntervalJoin.mono a0_0 a0_1 a1_0 a1_1 k r h)
theorem spec_IntervalJoin.fL_eq (a0_0 a0_1 a1_0 a1_1 : ByteArray) : spec_IntervalJoin.fL a0_0 a0_1 a1_0 a1_1 = (spec_IntervalValid.fL a0_0 a0_1).bind fun t162 => (if t162 = true then ((spec_IntervalValid.fL a1_0 a1_1).bind fun t163 => (if t163 = true then (if a0_1.toList = ([] : List UInt8) then (some ((⟨#[]⟩ : ByteArray), (⟨#[]⟩ : ByteArray), false)) else (if a0_1.toList = a1_0.toList then (some (a0_0, a1_1, true)) else (some ((⟨#[]⟩ : ByteArray), (⟨#[]⟩ : ByteArray), false)))) else (some ((⟨#[]⟩ : ByteArray), (⟨#[]⟩ : ByteArray), false)))) else (some ((⟨#[]⟩ : ByteArray), (⟨#[]⟩ : ByteArray), false))) := by
  refine LimIs.unique (spec_IntervalJoin.fL_is a0_0 a0_1 a1_0 a1_1) ?_
  unfold spec_IntervalJoin.f
  repeat' with_reducible first | exact LimIs.const _ | exact spec_IntervalValid.fL_is .. | refine LimIs.ite ?_ ?_ | refine LimIs.bind ?_ (fun _ => ?_)
/-! ### spec_PartitionValid -/
noncomputable def spec_PartitionValid.j0L (x0 : List (S83)) (x33 : Bool) : Option (Bool) := Lim (fun k => spec_PartitionValid.j0 k x0 x33)
theorem spec_PartitionValid.j0L_is (x0 : List (S83)) (x33 : Bool) : LimIs (fun k => spec_PartitionValid.j0 k x0 x33) (spec_PartitionValid.j0L x0 x33) := LimIs.of_mono (fun k r h => (spec_PartitionValid.mono_l k).1 x0 x33 r h)
noncomputable def spec_PartitionValid.l0L (x0 : List (S83)) (x3 : Int) : Option (Bool) := Lim (fun k => spec_PartitionValid.l0 k x0 x3)
theorem spec_PartitionValid.l0L_is (x0 : List (S83)) (x3 : Int) : LimIs (fun k => spec_PartitionValid.l0 k x0 x3) (spec_PartitionValid.l0L x0 x3) := LimIs.of_mono (fun k r h => (spec_PartitionValid.mono_l k).2 x0 x3 r h)
noncomputable def spec_PartitionValid.fL (l0 : List (S83)) : Option (Bool) := Lim (fun k => spec_PartitionValid.f k l0)
theorem spec_PartitionValid.fL_is (l0 : List (S83)) : LimIs (fun k => spec_PartitionValid.f k l0) (spec_PartitionValid.fL l0) := LimIs.of_mono (fun k r h => spec_PartitionValid.mono l0 k r h)
theorem spec_PartitionValid.j0L_eq (x0 : List (S83)) (x33 : Bool) : spec_PartitionValid.j0L x0 x33 = if x33 = true then (some false) else (spec_PartitionValid.l0L x0 1) := by
  refine LimIs.unique (spec_PartitionValid.j0L_is x0 x33) (LimIs.step1 (by simp only [spec_PartitionValid.j0]) ?_)
  simp only [spec_PartitionValid.j0]
  repeat' with_reducible first | exact LimIs.const _ | exact spec_PartitionValid.l0L_is .. | refine LimIs.ite ?_ ?_ | refine LimIs.bind ?_ (fun _ => ?_)
theorem spec_PartitionValid.l0L_eq (x0 : List (S83)) (x3 : Int) : spec_PartitionValid.l0L x0 x3 = if x3 < (x0.length : Int) then (if 0 ≤ (wrap64 (x3 - 1)) then (if (wrap64 (x3 - 1)) < (x0.length : Int) then (if 0 ≤ x3 then ((spec_IntervalJoin.fL ((rd_T83 x0 (wrap64 (x3 - 1))).f0) ((rd_T83 x0 (wrap64 (x3 - 1))).f1) ((rd_T83 x0 x3).f0) ((rd_T83 x0 x3).f1)).bind fun bt171 => (if bt171.2.2 = true then (spec_PartitionValid.l0L x0 (wrap64 (x3 + 1))) else (some false))) else (none)) else (none)) else (none)) else (some true) := by
  refine LimIs.unique (spec_PartitionValid.l0L_is x0 x3) (LimIs.step1 (by simp only [spec_PartitionValid.l0]) ?_)
  simp only [spec_PartitionValid.l0]
  repeat' with_reducible first | exact LimIs.const _ | exact spec_IntervalJoin.fL_is .. | exact spec_PartitionValid.l0L_is .. | refine LimIs.ite ?_ ?_ | refine LimIs.bind ?_ (fun _ => ?_)
theorem spec_PartitionValid.fL_eq (l0 : List (S83)) : spec_PartitionValid.fL l0 = (spec_l1In.f (l0.length : Int) 1 6).bind fun t164 => (if t164 = true then (if 0 < (l0.length : Int) then ((spec_IntervalValid.fL ((rd_T83 l0 0).f0) ((rd_T83 l0 0).f1)).bind fun t166 => (if t166 = true then (if ((rd_T83 l0 0).f0).toList = ([] : List UInt8) then (if 0 ≤ (wrap64 ((l0.length : Int) - 1)) then (if (wrap64 ((l0.length : Int) - 1)) < (l0.length : Int) then (spec_PartitionValid.j0L l0 (((rd_T83 l0 (wrap64 ((l0.length : Int) - 1))).f1).toList != ([] : List UInt8))) else (none)) else (none)) else (spec_PartitionValid.j0L l0 true)) else (spec_PartitionValid.j0L l0 true))) else (none)) else (spec_PartitionValid.j0L l0 true)) := by
  refine LimIs.unique (spec_PartitionValid.fL_is l0) ?_
  unfold spec_PartitionValid.f
  repeat' with_reducible first | exact LimIs.const _ | exact spec_IntervalValid.fL_is .. | exact spec_PartitionValid.j0L_is .. | refine LimIs.ite ?_ ?_ | refine LimIs.bind ?_ (fun _ => ?_)
/-! ### spec_IntervalHas -/
noncomputable def spec_IntervalHas.fL (a0_0 a0_1 a1 : ByteArray) : Option (Bool) := Lim (fun k => spec_IntervalHas.f k a0_0 a0_1 a1)
theorem spec_IntervalHas.fL_is (a0_0 a0_1 a1 : ByteArray) : LimIs (fun k => spec_IntervalHas.f k a0_0 a0_1 a1) (spec_IntervalHas.fL a0_0 a0_1 a1) := LimIs.of_mono (fun k r h => spec_IntervalHas.mono a0_0 a0_1 a1 k r h)
theorem spec_IntervalHas.fL_eq (a0_0 a0_1 a1 : ByteArray) : spec_IntervalHas.fL a0_0 a0_1 a1 = (spec_IntervalValid.fL a0_0 a0_1).bind fun t176 => (if t176 = true then ((spec_KeyValid.fL a1).bind fun t177 => (if t177 = true then (if ((Op.bytesLess a1.toList a0_0.toList) = true) then (some false) else (if a0_1.toList = ([] : List UInt8) then (some true) else (some (Op.bytesLess a1.toList a0_1.toList)))) else (some false))) else (some false)) := by
  refine LimIs.unique (spec_IntervalHas.fL_is a0_0 a0_1 a1) ?_
  unfold spec_IntervalHas.f
  repeat' with_reducible first | exact LimIs.const _ | exact spec_IntervalValid.fL_is .. | exact spec_KeyValid.fL_is .. | refine LimIs.ite ?_ ?_ | refine LimIs.bind ?_ (fun _ => ?_)
/-! ### spec_PairScan -/
noncomputable def spec_PairScan.j0L (x0 : List (S29)) (x2 : Int) (x7 : List (S29)) (x22 : Bool) (x179000 x179001 : ByteArray) : Option ((List (S29))) := Lim (fun k => spec_PairScan.j0 k x0 x2 x7 x22 x179000 x179001)
theorem spec_PairScan.j0L_is (x0 : List (S29)) (x2 : Int) (x7 : List (S29)) (x22 : Bool) (x179000 x179001 : ByteArray) : LimIs (fun k => spec_PairScan.j0 k x0 x2 x7 x22 x179000 x179001) (spec_PairScan.j0L x0 x2 x7 x22 x179000 x179001) := LimIs.of_mono (fun k r h => (spec_PairScan.mono_l k).1 x0 x2 x7 x22 x179000 x179001 r h)
noncomputable def spec_PairScan.l0L (x0 : List (S29)) (x2 : Int) (x7 : List (S29)) (x8 : Int) (x179000 x179001 : ByteArray) : Option ((List (S29))) := Lim (fun k => spec_PairScan.l0 k x0 x2 x7 x8 x179000 x179001)
theorem spec_PairScan.l0L_is (x0 : List (S29)) (x2 : Int) (x7 : List (S29)) (x8 : Int) (x179000 x179001 : ByteArray) : LimIs (fun k => spec_PairScan.l0 k x0 x2 x7 x8 x179000 x179001) (spec_PairScan.l0L x0 x2 x7 x8 x179000 x179001) := LimIs.of_mono (fun k r h => (spec_PairScan.mono_l k).2.1 x0 x2 x7 x8 x179000 x179001 r h)
noncomputable def spec_PairScan.j2L (x0 : List (S29)) (x2 : Int) (x7 : List (S29)) (x8 : Int) (x33 : Bool) (x179000 x179001 : ByteArray) : Option ((List (S29))) := Lim (fun k => spec_PairScan.j2 k x0 x2 x7 x8 x33 x179000 x179001)
theorem spec_PairScan.j2L_is (x0 : List (S29)) (x2 : Int) (x7 : List (S29)) (x8 : Int) (x33 : Bool) (x179000 x179001 : ByteArray) : LimIs (fun k => spec_PairScan.j2 k x0 x2 x7 x8 x33 x179000 x179001) (spec_PairScan.j2L x0 x2 x7 x8 x33 x179000 x179001) := LimIs.of_mono (fun k r h => (spec_PairScan.mono_l k).2.2 x0 x2 x7 x8 x33 x179000 x179001 r h)
noncomputable def spec_PairScan.fL (l0 : List (S29)) (a1_0 a1_1 : ByteArray) (a2 : Int) : Option ((List (S29))) := Lim (fun k => spec_PairScan.f k l0 a1_0 a1_1 a2)
theorem spec_PairScan.fL_is (l0 : List (S29)) (a1_0 a1_1 : ByteArray) (a2 : Int) : LimIs (fun k => spec_PairScan.f k l0 a1_0 a1_1 a2) (spec_PairScan.fL l0 a1_0 a1_1 a2) := LimIs.of_mono (fun k r h => spec_PairScan.mono l0 a1_0 a1_1 a2 k r h)
theorem spec_PairScan.j0L_eq (x0 : List (S29)) (x2 : Int) (x7 : List (S29)) (x22 : Bool) (x179000 x179001 : ByteArray) : spec_PairScan.j0L x0 x2 x7 x22 x179000 x179001 = if x22 = true then (some x7) else (spec_PairScan.l0L x0 x2 x7 0 x179000 x179001) := by
  refine LimIs.unique (spec_PairScan.j0L_is x0 x2 x7 x22 x179000 x179001) (LimIs.step1 (by simp only [spec_PairScan.j0]) ?_)
  simp only [spec_PairScan.j0]
  repeat' with_reducible first | exact LimIs.const _ | exact spec_PairScan.l0L_is .. | refine LimIs.ite ?_ ?_ | refine LimIs.bind ?_ (fun _ => ?_)
theorem spec_PairScan.l0L_eq (x0 : List (S29)) (x2 : Int) (x7 : List (S29)) (x8 : Int) (x179000 x179001 : ByteArray) : spec_PairScan.l0L x0 x2 x7 x8 x179000 x179001 = if x8 < (x0.length : Int) then (spec_PairScan.j2L x0 x2 x7 x8 (decide ((x7.length : Int) < x2)) x179000 x179001) else (spec_PairScan.j2L x0 x2 x7 x8 false x179000 x179001) := by
  refine LimIs.unique (spec_PairScan.l0L_is x0 x2 x7 x8 x179000 x179001) (LimIs.step1 (by simp only [spec_PairScan.l0]) ?_)
  simp only [spec_PairScan.l0]
  repeat' with_reducible first | exact LimIs.const _ | exact spec_PairScan.j2L_is .. | refine LimIs.ite ?_ ?_ | refine LimIs.bind ?_ (fun _ => ?_)
theorem spec_PairScan.j2L_eq (x0 : List (S29)) (x2 : Int) (x7 : List (S29)) (x8 : Int) (x33 : Bool) (x179000 x179001 : ByteArray) : spec_PairScan.j2L x0 x2 x7 x8 x33 x179000 x179001 = if x33 = true then (if 0 ≤ x8 then (if x8 < (x0.length : Int) then ((spec_IntervalHas.fL x179000 x179001 ((rd_T29 x0 x8).f0)).bind fun t186 => (if t186 = true then (if x7.length < 5864062014805 then (spec_PairScan.l0L x0 x2 (x7 ++ [(⟨(rd_T29 x0 x8).f0, (rd_T29 x0 x8).f1⟩ : S29)]) (wrap64 (x8 + 1)) x179000 x179001) else (none)) else (spec_PairScan.l0L x0 x2 x7 (wrap64 (x8 + 1)) x179000 x179001))) else (none)) else (none)) else (some x7) := by
  refine LimIs.unique (spec_PairScan.j2L_is x0 x2 x7 x8 x33 x179000 x179001) (LimIs.step1 (by simp only [spec_PairScan.j2]) ?_)
  simp only [spec_PairScan.j2]
  repeat' with_reducible first | exact LimIs.const _ | exact spec_IntervalHas.fL_is .. | exact spec_PairScan.l0L_is .. | refine LimIs.ite ?_ ?_ | refine LimIs.bind ?_ (fun _ => ?_)
theorem spec_PairScan.fL_eq (l0 : List (S29)) (a1_0 a1_1 : ByteArray) (a2 : Int) : spec_PairScan.fL l0 a1_0 a1_1 a2 = (some (([] : List (S29)) : List (S29))).bind fun y179 => ((spec_PairsValid.fL l0).bind fun t182 => (if t182 = true then ((spec_IntervalValid.fL a1_0 a1_1).bind fun t183 => (if t183 = true then ((spec_l1In.f a2 0 48).bind fun t184 => (spec_PairScan.j0L l0 a2 y179 (!t184) a1_0 a1_1)) else (spec_PairScan.j0L l0 a2 y179 true a1_0 a1_1))) else (spec_PairScan.j0L l0 a2 y179 true a1_0 a1_1))) := by
  refine LimIs.unique (spec_PairScan.fL_is l0 a1_0 a1_1 a2) ?_
  unfold spec_PairScan.f
  repeat' with_reducible first | exact LimIs.const _ | exact spec_IntervalValid.fL_is .. | exact spec_PairScan.j0L_is .. | exact spec_PairsValid.fL_is .. | refine LimIs.ite ?_ ?_ | refine LimIs.bind ?_ (fun _ => ?_)
/-! ### spec_PairsIn -/
noncomputable def spec_PairsIn.fL (l0 : List (S29)) (a1_0 a1_1 : ByteArray) : Option ((List (S29))) := Lim (fun k => spec_PairsIn.f k l0 a1_0 a1_1)
theorem spec_PairsIn.fL_is (l0 : List (S29)) (a1_0 a1_1 : ByteArray) : LimIs (fun k => spec_PairsIn.f k l0 a1_0 a1_1) (spec_PairsIn.fL l0 a1_0 a1_1) := LimIs.of_mono (fun k r h => spec_PairsIn.mono l0 a1_0 a1_1 k r h)
theorem spec_PairsIn.fL_eq (l0 : List (S29)) (a1_0 a1_1 : ByteArray) : spec_PairsIn.fL l0 a1_0 a1_1 = (spec_PairScan.fL l0 a1_0 a1_1 48).bind fun t192 => (some t192) := by
  refine LimIs.unique (spec_PairsIn.fL_is l0 a1_0 a1_1) ?_
  unfold spec_PairsIn.f
  repeat' with_reducible first | exact LimIs.const _ | exact spec_PairScan.fL_is .. | refine LimIs.ite ?_ ?_ | refine LimIs.bind ?_ (fun _ => ?_)
/-! ### spec_PartDigests -/
noncomputable def spec_PartDigests.j0L (x0 : List (S29)) (x1 : List (S83)) (x5 : List Int) (x15 : Bool) : Option (List Int) := Lim (fun k => spec_PartDigests.j0 k x0 x1 x5 x15)
theorem spec_PartDigests.j0L_is (x0 : List (S29)) (x1 : List (S83)) (x5 : List Int) (x15 : Bool) : LimIs (fun k => spec_PartDigests.j0 k x0 x1 x5 x15) (spec_PartDigests.j0L x0 x1 x5 x15) := LimIs.of_mono (fun k r h => (spec_PartDigests.mono_l k).1 x0 x1 x5 x15 r h)
noncomputable def spec_PartDigests.l0L (x0 : List (S29)) (x1 : List (S83)) (x5 : List Int) (x6 : Int) : Option (List Int) := Lim (fun k => spec_PartDigests.l0 k x0 x1 x5 x6)
theorem spec_PartDigests.l0L_is (x0 : List (S29)) (x1 : List (S83)) (x5 : List Int) (x6 : Int) : LimIs (fun k => spec_PartDigests.l0 k x0 x1 x5 x6) (spec_PartDigests.l0L x0 x1 x5 x6) := LimIs.of_mono (fun k r h => (spec_PartDigests.mono_l k).2 x0 x1 x5 x6 r h)
noncomputable def spec_PartDigests.fL (l0 : List (S29)) (l1 : List (S83)) : Option (List Int) := Lim (fun k => spec_PartDigests.f k l0 l1)
theorem spec_PartDigests.fL_is (l0 : List (S29)) (l1 : List (S83)) : LimIs (fun k => spec_PartDigests.f k l0 l1) (spec_PartDigests.fL l0 l1) := LimIs.of_mono (fun k r h => spec_PartDigests.mono l0 l1 k r h)
theorem spec_PartDigests.j0L_eq (x0 : List (S29)) (x1 : List (S83)) (x5 : List Int) (x15 : Bool) : spec_PartDigests.j0L x0 x1 x5 x15 = if x15 = true then (some x5) else (spec_PartDigests.l0L x0 x1 x5 0) := by
  refine LimIs.unique (spec_PartDigests.j0L_is x0 x1 x5 x15) (LimIs.step1 (by simp only [spec_PartDigests.j0]) ?_)
  simp only [spec_PartDigests.j0]
  repeat' with_reducible first | exact LimIs.const _ | exact spec_PartDigests.l0L_is .. | refine LimIs.ite ?_ ?_ | refine LimIs.bind ?_ (fun _ => ?_)
theorem spec_PartDigests.l0L_eq (x0 : List (S29)) (x1 : List (S83)) (x5 : List Int) (x6 : Int) : spec_PartDigests.l0L x0 x1 x5 x6 = if x6 < (x1.length : Int) then (if 0 ≤ x6 then ((spec_PairsIn.fL x0 ((rd_T83 x1 x6).f0) ((rd_T83 x1 x6).f1)).bind fun t201 => ((spec_PairsDigest.fL t201).bind fun t204 => (if x5.length < 17592186044416 then (spec_PartDigests.l0L x0 x1 (x5 ++ [t204]) (wrap64 (x6 + 1))) else (none)))) else (none)) else (some x5) := by
  refine LimIs.unique (spec_PartDigests.l0L_is x0 x1 x5 x6) (LimIs.step1 (by simp only [spec_PartDigests.l0]) ?_)
  simp only [spec_PartDigests.l0]
  repeat' with_reducible first | exact LimIs.const _ | exact spec_PairsDigest.fL_is .. | exact spec_PairsIn.fL_is .. | exact spec_PartDigests.l0L_is .. | refine LimIs.ite ?_ ?_ | refine LimIs.bind ?_ (fun _ => ?_)
theorem spec_PartDigests.fL_eq (l0 : List (S29)) (l1 : List (S83)) : spec_PartDigests.fL l0 l1 = (some (([] : List Int) : List Int)).bind fun y195 => ((spec_PairsValid.fL l0).bind fun t198 => (if t198 = true then ((spec_PartitionValid.fL l1).bind fun t199 => (spec_PartDigests.j0L l0 l1 y195 (!t199))) else (spec_PartDigests.j0L l0 l1 y195 true))) := by
  refine LimIs.unique (spec_PartDigests.fL_is l0 l1) ?_
  unfold spec_PartDigests.f
  repeat' with_reducible first | exact LimIs.const _ | exact spec_PairsValid.fL_is .. | exact spec_PartDigests.j0L_is .. | exact spec_PartitionValid.fL_is .. | refine LimIs.ite ?_ ?_ | refine LimIs.bind ?_ (fun _ => ?_)
/-! ### spec_DiffParts -/
noncomputable def spec_DiffParts.l0L (x7 x8 x9 : List Int) (x10 : Int) : Option (List Int) := Lim (fun k => spec_DiffParts.l0 k x7 x8 x9 x10)
theorem spec_DiffParts.l0L_is (x7 x8 x9 : List Int) (x10 : Int) : LimIs (fun k => spec_DiffParts.l0 k x7 x8 x9 x10) (spec_DiffParts.l0L x7 x8 x9 x10) := LimIs.of_mono (fun k r h => (spec_DiffParts.mono_l k).1 x7 x8 x9 x10 r h)
noncomputable def spec_DiffParts.j1L (x7 x8 x9 : List Int) (x10 : Int) (x27 : Bool) : Option (List Int) := Lim (fun k => spec_DiffParts.j1 k x7 x8 x9 x10 x27)
theorem spec_DiffParts.j1L_is (x7 x8 x9 : List Int) (x10 : Int) (x27 : Bool) : LimIs (fun k => spec_DiffParts.j1 k x7 x8 x9 x10 x27) (spec_DiffParts.j1L x7 x8 x9 x10 x27) := LimIs.of_mono (fun k r h => (spec_DiffParts.mono_l k).2 x7 x8 x9 x10 x27 r h)
noncomputable def spec_DiffParts.fL (l0 l1 : List (S29)) (l2 : List (S83)) : Option (List Int) := Lim (fun k => spec_DiffParts.f k l0 l1 l2)
theorem spec_DiffParts.fL_is (l0 l1 : List (S29)) (l2 : List (S83)) : LimIs (fun k => spec_DiffParts.f k l0 l1 l2) (spec_DiffParts.fL l0 l1 l2) := LimIs.of_mono (fun k r h => spec_DiffParts.mono l0 l1 l2 k r h)
theorem spec_DiffParts.l0L_eq (x7 x8 x9 : List Int) (x10 : Int) : spec_DiffParts.l0L x7 x8 x9 x10 = if x10 < (x8.length : Int) then (spec_DiffParts.j1L x7 x8 x9 x10 (decide (x10 < (x9.length : Int)))) else (spec_DiffParts.j1L x7 x8 x9 x10 false) := by
  refine LimIs.unique (spec_DiffParts.l0L_is x7 x8 x9 x10) (LimIs.step1 (by simp only [spec_DiffParts.l0]) ?_)
  simp only [spec_DiffParts.l0]
  repeat' with_reducible first | exact LimIs.const _ | exact spec_DiffParts.j1L_is .. | refine LimIs.ite ?_ ?_ | refine LimIs.bind ?_ (fun _ => ?_)
theorem spec_DiffParts.j1L_eq (x7 x8 x9 : List Int) (x10 : Int) (x27 : Bool) : spec_DiffParts.j1L x7 x8 x9 x10 x27 = if x27 = true then (if 0 ≤ x10 then (if x10 < (x8.length : Int) then (if x10 < (x9.length : Int) then (if (rd x8 x10) = (rd x9 x10) then (spec_DiffParts.l0L x7 x8 x9 (wrap64 (x10 + 1))) else (if x7.length < 17592186044416 then (spec_DiffParts.l0L (x7 ++ [x10]) x8 x9 (wrap64 (x10 + 1))) else (none))) else (none)) else (none)) else (none)) else (some x7) := by
  refine LimIs.unique (spec_DiffParts.j1L_is x7 x8 x9 x10 x27) (LimIs.step1 (by simp only [spec_DiffParts.j1]) ?_)
  simp only [spec_DiffParts.j1]
  repeat' with_reducible first | exact LimIs.const _ | exact spec_DiffParts.l0L_is .. | refine LimIs.ite ?_ ?_ | refine LimIs.bind ?_ (fun _ => ?_)
theorem spec_DiffParts.fL_eq (l0 l1 : List (S29)) (l2 : List (S83)) : spec_DiffParts.fL l0 l1 l2 = (spec_PartDigests.fL l0 l2).bind fun t211 => ((spec_PartDigests.fL l1 l2).bind fun t214 => (spec_DiffParts.l0L (([] : List Int)) t211 t214 0)) := by
  refine LimIs.unique (spec_DiffParts.fL_is l0 l1 l2) ?_
  unfold spec_DiffParts.f
  repeat' with_reducible first | exact LimIs.const _ | exact spec_DiffParts.l0L_is .. | exact spec_PartDigests.fL_is .. | refine LimIs.ite ?_ ?_ | refine LimIs.bind ?_ (fun _ => ?_)
/-! ### impl_PairDigest -/
noncomputable def impl_PairDigest.fL (a0_0 : ByteArray) (a0_1 : Int) : Option (Int) := Lim (fun k => impl_PairDigest.f k a0_0 a0_1)
theorem impl_PairDigest.fL_is (a0_0 : ByteArray) (a0_1 : Int) : LimIs (fun k => impl_PairDigest.f k a0_0 a0_1) (impl_PairDigest.fL a0_0 a0_1) := LimIs.of_mono (fun k r h => impl_PairDigest.mono a0_0 a0_1 k r h)
theorem impl_PairDigest.fL_eq (a0_0 : ByteArray) (a0_1 : Int) : impl_PairDigest.fL a0_0 a0_1 = (impl_KeyValid.fL a0_0).bind fun t223 => (if t223 = true then ((impl_valueValid.f a0_1).bind fun t224 => (if t224 = true then ((impl_KeyRank.fL a0_0).bind fun t225 => (some (Int.tmod (wrap64 ((wrap64 ((wrap64 (1009 * t225)) + (wrap64 (7 * a0_1)))) + 3)) 99991))) else (some (-1)))) else (some (-1))) := by
  refine LimIs.unique (impl_PairDigest.fL_is a0_0 a0_1) ?_
  unfold impl_PairDigest.f
  repeat' with_reducible first | exact LimIs.const _ | exact impl_KeyRank.fL_is .. | exact impl_KeyValid.fL_is .. | refine LimIs.ite ?_ ?_ | refine LimIs.bind ?_ (fun _ => ?_)
/-! ### impl_PairsDigest -/
noncomputable def impl_PairsDigest.l0L (x3 : Int) (x9 : List (S29)) (x10 x11 : Int) : Option (Int) := Lim (fun k => impl_PairsDigest.l0 k x3 x9 x10 x11)
theorem impl_PairsDigest.l0L_is (x3 : Int) (x9 : List (S29)) (x10 x11 : Int) : LimIs (fun k => impl_PairsDigest.l0 k x3 x9 x10 x11) (impl_PairsDigest.l0L x3 x9 x10 x11) := LimIs.of_mono (fun k r h => (impl_PairsDigest.mono_l k) x3 x9 x10 x11 r h)
noncomputable def impl_PairsDigest.fL (l0 : List (S29)) : Option (Int) := Lim (fun k => impl_PairsDigest.f k l0)
theorem impl_PairsDigest.fL_is (l0 : List (S29)) : LimIs (fun k => impl_PairsDigest.f k l0) (impl_PairsDigest.fL l0) := LimIs.of_mono (fun k r h => impl_PairsDigest.mono l0 k r h)
theorem impl_PairsDigest.l0L_eq (x3 : Int) (x9 : List (S29)) (x10 x11 : Int) : impl_PairsDigest.l0L x3 x9 x10 x11 = if x11 < x10 then (if 0 ≤ x11 then (if x11 < (x9.length : Int) then ((impl_PairDigest.fL ((rd_T29 x9 x11).f0) ((rd_T29 x9 x11).f1)).bind fun t229 => (impl_PairsDigest.l0L (wrap64 (x3 + t229)) x9 x10 (wrap64 (x11 + 1)))) else (none)) else (none)) else (some (Int.tmod x3 99991)) := by
  refine LimIs.unique (impl_PairsDigest.l0L_is x3 x9 x10 x11) (LimIs.step1 (by simp only [impl_PairsDigest.l0]) ?_)
  simp only [impl_PairsDigest.l0]
  repeat' with_reducible first | exact LimIs.const _ | exact impl_PairDigest.fL_is .. | exact impl_PairsDigest.l0L_is .. | refine LimIs.ite ?_ ?_ | refine LimIs.bind ?_ (fun _ => ?_)
theorem impl_PairsDigest.fL_eq (l0 : List (S29)) : impl_PairsDigest.fL l0 = (impl_PairsValid.fL l0).bind fun t226 => (if t226 = true then (impl_PairsDigest.l0L 0 l0 (l0.length : Int) 0) else (some (-1))) := by
  refine LimIs.unique (impl_PairsDigest.fL_is l0) ?_
  unfold impl_PairsDigest.f
  repeat' with_reducible first | exact LimIs.const _ | exact impl_PairsDigest.l0L_is .. | exact impl_PairsValid.fL_is .. | refine LimIs.ite ?_ ?_ | refine LimIs.bind ?_ (fun _ => ?_)
/-! ### impl_Pair_string -/
noncomputable def impl_Pair_string.l0L (x0 : List (S29)) (x1 : ByteArray) (x8 x9 x10 : Int) : Option (Int × Bool) := Lim (fun k => impl_Pair_string.l0 k x0 x1 x8 x9 x10)
theorem impl_Pair_string.l0L_is (x0 : List (S29)) (x1 : ByteArray) (x8 x9 x10 : Int) : LimIs (fun k => impl_Pair_string.l0 k x0 x1 x8 x9 x10) (impl_Pair_string.l0L x0 x1 x8 x9 x10) := LimIs.of_mono (fun k r h => (impl_Pair_string.mono_l k) x0 x1 x8 x9 x10 r h)
noncomputable def impl_Pair_string.fL (l0 : List (S29)) (a1 : ByteArray) (a2 : Unit) : Option (Int × Bool) := Lim (fun k => impl_Pair_string.f k l0 a1 a2)
theorem impl_Pair_string.fL_is (l0 : List (S29)) (a1 : ByteArray) (a2 : Unit) : LimIs (fun k => impl_Pair_string.f k l0 a1 a2) (impl_Pair_string.fL l0 a1 a2) := LimIs.of_mono (fun k r h => impl_Pair_string.mono l0 a1 a2 k r h)
theorem impl_Pair_string.l0L_eq (x0 : List (S29)) (x1 : ByteArray) (x8 x9 x10 : Int) : impl_Pair_string.l0L x0 x1 x8 x9 x10 = if x9 < x10 then (if 0 ≤ (wrap64 ((IntKind.u64.wrap (wrap64 (x9 + x10))) / 2)) then (if (wrap64 ((IntKind.u64.wrap (wrap64 (x9 + x10))) / 2)) < (x0.length : Int) then ((impl_pairPlace_1.f ((rd_T29 x0 (wrap64 ((IntKind.u64.wrap (wrap64 (x9 + x10))) / 2))).f0) ((rd_T29 x0 (wrap64 ((IntKind.u64.wrap (wrap64 (x9 + x10))) / 2))).f1) x1).bind fun t238 => (if t238 < 0 then (impl_Pair_string.l0L x0 x1 x8 (wrap64 ((wrap64 ((IntKind.u64.wrap (wrap64 (x9 + x10))) / 2)) + 1)) x10) else (impl_Pair_string.l0L x0 x1 x8 x9 (wrap64 ((IntKind.u64.wrap (wrap64 (x9 + x10))) / 2))))) else (none)) else (none)) else (if x9 < x8 then (if 0 ≤ x9 then (if x9 < (x0.length : Int) then ((impl_pairPlace_1.f ((rd_T29 x0 x9).f0) ((rd_T29 x0 x9).f1) x1).bind fun t240 => (some (x9, (t240 == 0)))) else (none)) else (none)) else (some (x9, false))) := by
  refine LimIs.unique (impl_Pair_string.l0L_is x0 x1 x8 x9 x10) (LimIs.step1 (by simp only [impl_Pair_string.l0]) ?_)
  simp only [impl_Pair_string.l0]
  repeat' with_reducible first | exact LimIs.const _ | exact impl_Pair_string.l0L_is .. | refine LimIs.ite ?_ ?_ | refine LimIs.bind ?_ (fun _ => ?_)
theorem impl_Pair_string.fL_eq (l0 : List (S29)) (a1 : ByteArray) (a2 : Unit) : impl_Pair_string.fL l0 a1 a2 = impl_Pair_string.l0L l0 a1 (l0.length : Int) 0 (l0.length : Int) := by
  refine LimIs.unique (impl_Pair_string.fL_is l0 a1 a2) ?_
  unfold impl_Pair_string.f
  repeat' with_reducible first | exact LimIs.const _ | exact impl_Pair_string.l0L_is .. | refine LimIs.ite ?_ ?_ | refine LimIs.bind ?_ (fun _ => ?_)
/-! ### impl_pairPlace -/
noncomputable def impl_pairPlace.fL (l0 : List (S29)) (a1 : ByteArray) : Option (Int × Bool) := Lim (fun k => impl_pairPlace.f k l0 a1)
theorem impl_pairPlace.fL_is (l0 : List (S29)) (a1 : ByteArray) : LimIs (fun k => impl_pairPlace.f k l0 a1) (impl_pairPlace.fL l0 a1) := LimIs.of_mono (fun k r h => impl_pairPlace.mono l0 a1 k r h)
theorem impl_pairPlace.fL_eq (l0 : List (S29)) (a1 : ByteArray) : impl_pairPlace.fL l0 a1 = (impl_Pair_string.fL l0 a1 ()).bind fun bt241 => (some (bt241.1, bt241.2)) := by
  refine LimIs.unique (impl_pairPlace.fL_is l0 a1) ?_
  unfold impl_pairPlace.f
  repeat' with_reducible first | exact LimIs.const _ | exact impl_Pair_string.fL_is .. | refine LimIs.ite ?_ ?_ | refine LimIs.bind ?_ (fun _ => ?_)
/-! ### impl_PairsIn -/
noncomputable def impl_PairsIn.j0L (x0 : List (S29)) (x15 : Bool) (x244000 x244001 : ByteArray) : Option ((List (S29))) := Lim (fun k => impl_PairsIn.j0 k x0 x15 x244000 x244001)
theorem impl_PairsIn.j0L_is (x0 : List (S29)) (x15 : Bool) (x244000 x244001 : ByteArray) : LimIs (fun k => impl_PairsIn.j0 k x0 x15 x244000 x244001) (impl_PairsIn.j0L x0 x15 x244000 x244001) := LimIs.of_mono (fun k r h => (impl_PairsIn.mono_l k) x0 x15 x244000 x244001 r h)
noncomputable def impl_PairsIn.fL (l0 : List (S29)) (a1_0 a1_1 : ByteArray) : Option ((List (S29))) := Lim (fun k => impl_PairsIn.f k l0 a1_0 a1_1)
theorem impl_PairsIn.fL_is (l0 : List (S29)) (a1_0 a1_1 : ByteArray) : LimIs (fun k => impl_PairsIn.f k l0 a1_0 a1_1) (impl_PairsIn.fL l0 a1_0 a1_1) := LimIs.of_mono (fun k r h => impl_PairsIn.mono l0 a1_0 a1_1 k r h)
theorem impl_PairsIn.j0L_eq (x0 : List (S29)) (x15 : Bool) (x244000 x244001 : ByteArray) : impl_PairsIn.j0L x0 x15 x244000 x244001 = if x15 = true then (some ([] : List (S29))) else ((impl_pairPlace.fL x0 x244000).bind fun bt246 => (if x244001.toList = ([] : List UInt8) then (if 0 ≤ bt246.1 then (if bt246.1 ≤ (x0.length : Int) then (if (x0.length : Int) ≤ (x0.length : Int) then ((impl_Pair.f ((x0.take ((x0.length : Int) : Int).toNat).drop (bt246.1 : Int).toNat)).bind fun t252 => (some t252)) else (none)) else (none)) else (none)) else ((impl_pairPlace.fL x0 x244001).bind fun bt255 => (if 0 ≤ bt246.1 then (if bt246.1 ≤ bt255.1 then (if bt255.1 ≤ (x0.length : Int) then ((impl_Pair.f ((x0.take (bt255.1 : Int).toNat).drop (bt246.1 : Int).toNat)).bind fun t261 => (some t261)) else (none)) else (none)) else (none))))) := by
  refine LimIs.unique (impl_PairsIn.j0L_is x0 x15 x244000 x244001) (LimIs.step1 (by simp only [impl_PairsIn.j0]) ?_)
  simp only [impl_PairsIn.j0]
  repeat' with_reducible first | exact LimIs.const _ | exact impl_pairPlace.fL_is .. | refine LimIs.ite ?_ ?_ | refine LimIs.bind ?_ (fun _ => ?_)
theorem impl_PairsIn.fL_eq (l0 : List (S29)) (a1_0 a1_1 : ByteArray) : impl_PairsIn.fL l0 a1_0 a1_1 = (impl_PairsValid.fL l0).bind fun t244 => (if t244 = true then ((impl_IntervalValid.fL a1_0 a1_1).bind fun t245 => (impl_PairsIn.j0L l0 (!t245) a1_0 a1_1)) else (impl_PairsIn.j0L l0 true a1_0 a1_1)) := by
  refine LimIs.unique (impl_PairsIn.fL_is l0 a1_0 a1_1) ?_
  unfold impl_PairsIn.f
  repeat' with_reducible first | exact LimIs.const _ | exact impl_IntervalValid.fL_is .. | exact impl_PairsIn.j0L_is .. | exact impl_PairsValid.fL_is .. | refine LimIs.ite ?_ ?_ | refine LimIs.bind ?_ (fun _ => ?_)
/-! ### impl_PartDigests -/
noncomputable def impl_PartDigests.j0L (x0 : List (S29)) (x1 : List (S83)) (x15 : Bool) : Option (List Int) := Lim (fun k => impl_PartDigests.j0 k x0 x1 x15)
theorem impl_PartDigests.j0L_is (x0 : List (S29)) (x1 : List (S83)) (x15 : Bool) : LimIs (fun k => impl_PartDigests.j0 k x0 x1 x15) (impl_PartDigests.j0L x0 x1 x15) := LimIs.of_mono (fun k r h => (impl_PartDigests.mono_l k).1 x0 x1 x15 r h)
noncomputable def impl_PartDigests.l0L (x0 : List (S29)) (x5 : List Int) (x16 : List (S83)) (x17 x18 : Int) : Option (List Int) := Lim (fun k => impl_PartDigests.l0 k x0 x5 x16 x17 x18)
theorem impl_PartDigests.l0L_is (x0 : List (S29)) (x5 : List Int) (x16 : List (S83)) (x17 x18 : Int) : LimIs (fun k => impl_PartDigests.l0 k x0 x5 x16 x17 x18) (impl_PartDigests.l0L x0 x5 x16 x17 x18) := LimIs.of_mono (fun k r h => (impl_PartDigests.mono_l k).2 x0 x5 x16 x17 x18 r h)
noncomputable def impl_PartDigests.fL (l0 : List (S29)) (l1 : List (S83)) : Option (List Int) := Lim (fun k => impl_PartDigests.f k l0 l1)
theorem impl_PartDigests.fL_is (l0 : List (S29)) (l1 : List (S83)) : LimIs (fun k => impl_PartDigests.f k l0 l1) (impl_PartDigests.fL l0 l1) := LimIs.of_mono (fun k r h => impl_PartDigests.mono l0 l1 k r h)
theorem impl_PartDigests.j0L_eq (x0 : List (S29)) (x1 : List (S83)) (x15 : Bool) : impl_PartDigests.j0L x0 x1 x15 = if x15 = true then (some ([] : List Int)) else (impl_PartDigests.l0L x0 ([] : List Int) x1 (x1.length : Int) 0) := by
  refine LimIs.unique (impl_PartDigests.j0L_is x0 x1 x15) (LimIs.step1 (by simp only [impl_PartDigests.j0]) ?_)
  simp only [impl_PartDigests.j0]
  repeat' with_reducible first | exact LimIs.const _ | exact impl_PartDigests.l0L_is .. | refine LimIs.ite ?_ ?_ | refine LimIs.bind ?_ (fun _ => ?_)
theorem impl_PartDigests.l0L_eq (x0 : List (S29)) (x5 : List Int) (x16 : List (S83)) (x17 x18 : Int) : impl_PartDigests.l0L x0 x5 x16 x17 x18 = if x18 < x17 then (if 0 ≤ x18 then (if x18 < (x16.length : Int) then ((impl_PairsIn.fL x0 ((rd_T83 x16 x18).f0) ((rd_T83 x16 x18).f1)).bind fun t268 => ((impl_PairsDigest.fL t268).bind fun t271 => (if x5.length < 17592186044416 then (impl_PartDigests.l0L x0 (x5 ++ [t271]) x16 x17 (wrap64 (x18 + 1))) else (none)))) else (none)) else (none)) else (some x5) := by
  refine LimIs.unique (impl_PartDigests.l0L_is x0 x5 x16 x17 x18) (LimIs.step1 (by simp only [impl_PartDigests.l0]) ?_)
  simp only [impl_PartDigests.l0]
  repeat' with_reducible first | exact LimIs.const _ | exact impl_PairsDigest.fL_is .. | exact impl_PairsIn.fL_is .. | exact impl_PartDigests.l0L_is .. | refine LimIs.ite ?_ ?_ | refine LimIs.bind ?_ (fun _ => ?_)
theorem impl_PartDigests.fL_eq (l0 : List (S29)) (l1 : List (S83)) : impl_PartDigests.fL l0 l1 = (impl_PairsValid.fL l0).bind fun t264 => (if t264 = true then ((impl_PartitionValid.fL l1).bind fun t265 => (impl_PartDigests.j0L l0 l1 (!t265))) else (impl_PartDigests.j0L l0 l1 true)) := by
  refine LimIs.unique (impl_PartDigests.fL_is l0 l1) ?_
  unfold impl_PartDigests.f
  repeat' with_reducible first | exact LimIs.const _ | exact impl_PairsValid.fL_is .. | exact impl_PartDigests.j0L_is .. | exact impl_PartitionValid.fL_is .. | refine LimIs.ite ?_ ?_ | refine LimIs.bind ?_ (fun _ => ?_)
/-! ### impl_DiffParts -/
noncomputable def impl_DiffParts.j0L (x0 x1 : List (S29)) (x2 : List (S83)) (x23 : Bool) : Option (List Int) := Lim (fun k => impl_DiffParts.j0 k x0 x1 x2 x23)
theorem impl_DiffParts.j0L_is (x0 x1 : List (S29)) (x2 : List (S83)) (x23 : Bool) : LimIs (fun k => impl_DiffParts.j0 k x0 x1 x2 x23) (impl_DiffParts.j0L x0 x1 x2 x23) := LimIs.of_mono (fun k r h => (impl_DiffParts.mono_l k).1 x0 x1 x2 x23 r h)
noncomputable def impl_DiffParts.l0L (x7 x8 x9 : List Int) (x31 x32 : Int) : Option (List Int) := Lim (fun k => impl_DiffParts.l0 k x7 x8 x9 x31 x32)
theorem impl_DiffParts.l0L_is (x7 x8 x9 : List Int) (x31 x32 : Int) : LimIs (fun k => impl_DiffParts.l0 k x7 x8 x9 x31 x32) (impl_DiffParts.l0L x7 x8 x9 x31 x32) := LimIs.of_mono (fun k r h => (impl_DiffParts.mono_l k).2 x7 x8 x9 x31 x32 r h)
noncomputable def impl_DiffParts.fL (l0 l1 : List (S29)) (l2 : List (S83)) : Option (List Int) := Lim (fun k => impl_DiffParts.f k l0 l1 l2)
theorem impl_DiffParts.fL_is (l0 l1 : List (S29)) (l2 : List (S83)) : LimIs (fun k => impl_DiffParts.f k l0 l1 l2) (impl_DiffParts.fL l0 l1 l2) := LimIs.of_mono (fun k r h => impl_DiffParts.mono l0 l1 l2 k r h)
theorem impl_DiffParts.j0L_eq (x0 x1 : List (S29)) (x2 : List (S83)) (x23 : Bool) : impl_DiffParts.j0L x0 x1 x2 x23 = if x23 = true then (some ([] : List Int)) else ((impl_PartDigests.fL x0 x2).bind fun t278 => ((impl_PartDigests.fL x1 x2).bind fun t281 => (impl_DiffParts.l0L t278 t281 ([] : List Int) (x2.length : Int) 0))) := by
  refine LimIs.unique (impl_DiffParts.j0L_is x0 x1 x2 x23) (LimIs.step1 (by simp only [impl_DiffParts.j0]) ?_)
  simp only [impl_DiffParts.j0]
  repeat' with_reducible first | exact LimIs.const _ | exact impl_DiffParts.l0L_is .. | exact impl_PartDigests.fL_is .. | refine LimIs.ite ?_ ?_ | refine LimIs.bind ?_ (fun _ => ?_)
theorem impl_DiffParts.l0L_eq (x7 x8 x9 : List Int) (x31 x32 : Int) : impl_DiffParts.l0L x7 x8 x9 x31 x32 = if x32 < x31 then (if 0 ≤ x32 then (if x32 < (x7.length : Int) then (if x32 < (x8.length : Int) then (if (rd x7 x32) = (rd x8 x32) then (impl_DiffParts.l0L x7 x8 x9 x31 (wrap64 (x32 + 1))) else (if x9.length < 17592186044416 then (impl_DiffParts.l0L x7 x8 (x9 ++ [x32]) x31 (wrap64 (x32 + 1))) else (none))) else (none)) else (none)) else (none)) else (some x9) := by
  refine LimIs.unique (impl_DiffParts.l0L_is x7 x8 x9 x31 x32) (LimIs.step1 (by simp only [impl_DiffParts.l0]) ?_)
  simp only [impl_DiffParts.l0]
  repeat' with_reducible first | exact LimIs.const _ | exact impl_DiffParts.l0L_is .. | refine LimIs.ite ?_ ?_ | refine LimIs.bind ?_ (fun _ => ?_)
theorem impl_DiffParts.fL_eq (l0 l1 : List (S29)) (l2 : List (S83)) : impl_DiffParts.fL l0 l1 l2 = (impl_PairsValid.fL l0).bind fun t275 => (if t275 = true then ((impl_PairsValid.fL l1).bind fun t276 => (if t276 = true then ((impl_PartitionValid.fL l2).bind fun t277 => (impl_DiffParts.j0L l0 l1 l2 (!t277))) else (impl_DiffParts.j0L l0 l1 l2 true))) else (impl_DiffParts.j0L l0 l1 l2 true)) := by
  refine LimIs.unique (impl_DiffParts.fL_is l0 l1 l2) ?_
  unfold impl_DiffParts.f
  repeat' with_reducible first | exact LimIs.const _ | exact impl_DiffParts.j0L_is .. | exact impl_PairsValid.fL_is .. | exact impl_PartitionValid.fL_is .. | refine LimIs.ite ?_ ?_ | refine LimIs.bind ?_ (fun _ => ?_)
/-! ### spec_l20Rd_pick -/
noncomputable def spec_l20Rd_pick.j0L (x1 : Int) (x24 : Bool) (x1000 : List Int) (x1001 : Int) : Option (Int × Int) := Lim (fun k => spec_l20Rd_pick.j0 k x1 x24 x1000 x1001)
theorem spec_l20Rd_pick.j0L_is (x1 : Int) (x24 : Bool) (x1000 : List Int) (x1001 : Int) : LimIs (fun k => spec_l20Rd_pick.j0 k x1 x24 x1000 x1001) (spec_l20Rd_pick.j0L x1 x24 x1000 x1001) := LimIs.of_mono (fun k r h => (spec_l20Rd_pick.mono_l k) x1 x24 x1000 x1001 r h)
noncomputable def spec_l20Rd_pick.fL (s0_0 : List Int) (s0_1 a1 : Int) : Option (Int × Int) := Lim (fun k => spec_l20Rd_pick.f k s0_0 s0_1 a1)
theorem spec_l20Rd_pick.fL_is (s0_0 : List Int) (s0_1 a1 : Int) : LimIs (fun k => spec_l20Rd_pick.f k s0_0 s0_1 a1) (spec_l20Rd_pick.fL s0_0 s0_1 a1) := LimIs.of_mono (fun k r h => spec_l20Rd_pick.mono s0_0 s0_1 a1 k r h)
theorem spec_l20Rd_pick.j0L_eq (x1 : Int) (x24 : Bool) (x1000 : List Int) (x1001 : Int) : spec_l20Rd_pick.j0L x1 x24 x1000 x1001 = if x24 = true then (some (0, x1001)) else (if (wrap64 (x1001 - 1)) < (x1000.length : Int) then (if 0 ≤ (wrap64 (x1001 - 1)) then (if x1 = 0 then (none) else (some (Int.tmod (wrap64 (rd x1000 (wrap64 (x1001 - 1)))) x1, x1001))) else (none)) else (if (x1000.length : Int) = 0 then (none) else (if 0 ≤ (Int.tmod (wrap64 (x1001 - 1)) (x1000.length : Int)) then (if (Int.tmod (wrap64 (x1001 - 1)) (x1000.length : Int)) < (x1000.length : Int) then (if 0 ≤ (Int.tmod (wrap64 ((wrap64 ((wrap64 (x1001 - 1)) * 7)) + 3)) (x1000.length : Int)) then (if (Int.tmod (wrap64 ((wrap64 ((wrap64 (x1001 - 1)) * 7)) + 3)) (x1000.length : Int)) < (x1000.length : Int) then (if x1 = 0 then (none) else (some (Int.tmod (Go.bits .xor .i64 (wrap64 ((wrap64 ((wrap64 ((wrap64 ((wrap64 (rd x1000 (Int.tmod (wrap64 (x1001 - 1)) (x1000.length : Int)))) * 131)) + (wrap64 ((wrap64 (rd x1000 (Int.tmod (wrap64 ((wrap64 ((wrap64 (x1001 - 1)) * 7)) + 3)) (x1000.length : Int)))) * 1117)))) + (wrap64 ((wrap64 (x1001 - 1)) * 29)))) + (wrap64 ((wrap64 (Int.tdiv (wrap64 (x1001 - 1)) (x1000.length : Int))) * 53)))) (wrap64 (Int.tdiv (wrap64 ((wrap64 ((wrap64 ((wrap64 ((wrap64 (rd x1000 (Int.tmod (wrap64 (x1001 - 1)) (x1000.length : Int)))) * 131)) + (wrap64 ((wrap64 (rd x1000 (Int.tmod (wrap64 ((wrap64 ((wrap64 (x1001 - 1)) * 7)) + 3)) (x1000.length : Int)))) * 1117)))) + (wrap64 ((wrap64 (x1001 - 1)) * 29)))) + (wrap64 ((wrap64 (Int.tdiv (wrap64 (x1001 - 1)) (x1000.length : Int))) * 53)))) 64))) x1, x1001))) else (none)) else (none)) else (none)) else (none)))) := by
  refine LimIs.unique (spec_l20Rd_pick.j0L_is x1 x24 x1000 x1001) (LimIs.step1 (by simp only [spec_l20Rd_pick.j0]) ?_)
  simp only [spec_l20Rd_pick.j0]
  repeat' with_reducible first | exact LimIs.const _ | refine LimIs.ite ?_ ?_ | refine LimIs.bind ?_ (fun _ => ?_)
theorem spec_l20Rd_pick.fL_eq (s0_0 : List Int) (s0_1 a1 : Int) : spec_l20Rd_pick.fL s0_0 s0_1 a1 = if a1 < 1 then (spec_l20Rd_pick.j0L a1 true s0_0 (wrap64 (s0_1 + 1))) else (spec_l20Rd_pick.j0L a1 ((s0_0.length : Int) == 0) s0_0 (wrap64 (s0_1 + 1))) := by
  refine LimIs.unique (spec_l20Rd_pick.fL_is s0_0 s0_1 a1) ?_
  unfold spec_l20Rd_pick.f
  repeat' with_reducible first | exact LimIs.const _ | exact spec_l20Rd_pick.j0L_is .. | refine LimIs.ite ?_ ?_ | refine LimIs.bind ?_ (fun _ => ?_)
/-! ### spec_l20Rd_odd -/
noncomputable def spec_l20Rd_odd.fL (s0_0 : List Int) (s0_1 a1 : Int) : Option (Bool × Int) := Lim (fun k => spec_l20Rd_odd.f k s0_0 s0_1 a1)
theorem spec_l20Rd_odd.fL_is (s0_0 : List Int) (s0_1 a1 : Int) : LimIs (fun k => spec_l20Rd_odd.f k s0_0 s0_1 a1) (spec_l20Rd_odd.fL s0_0 s0_1 a1) := LimIs.of_mono (fun k r h => spec_l20Rd_odd.mono s0_0 s0_1 a1 k r h)
theorem spec_l20Rd_odd.fL_eq (s0_0 : List Int) (s0_1 a1 : Int) : spec_l20Rd_odd.fL s0_0 s0_1 a1 = if a1 > 0 then ((spec_l20Rd_pick.fL s0_0 s0_1 a1).bind fun bt298 => (some ((bt298.1 == (wrap64 (a1 - 1))), bt298.2))) else (some (false, s0_1)) := by
  refine LimIs.unique (spec_l20Rd_odd.fL_is s0_0 s0_1 a1) ?_
  unfold spec_l20Rd_odd.f
  repeat' with_reducible first | exact LimIs.const _ | exact spec_l20Rd_pick.fL_is .. | refine LimIs.ite ?_ ?_ | refine LimIs.bind ?_ (fun _ => ?_)
/-! ### spec_PartitionOf -/
noncomputable def spec_PartitionOf.l0L (x0 : List ByteArray) (x4 : List (S83)) (x5 : Int) : Option ((List (S83)) × Bool) := Lim (fun k => spec_PartitionOf.l0 k x0 x4 x5)
theorem spec_PartitionOf.l0L_is (x0 : List ByteArray) (x4 : List (S83)) (x5 : Int) : LimIs (fun k => spec_PartitionOf.l0 k x0 x4 x5) (spec_PartitionOf.l0L x0 x4 x5) := LimIs.of_mono (fun k r h => (spec_PartitionOf.mono_l k) x0 x4 x5 r h)
noncomputable def spec_PartitionOf.fL (l0 : List ByteArray) : Option ((List (S83)) × Bool) := Lim (fun k => spec_PartitionOf.f k l0)
theorem spec_PartitionOf.fL_is (l0 : List ByteArray) : LimIs (fun k => spec_PartitionOf.f k l0) (spec_PartitionOf.fL l0) := LimIs.of_mono (fun k r h => spec_PartitionOf.mono l0 k r h)
theorem spec_PartitionOf.l0L_eq (x0 : List ByteArray) (x4 : List (S83)) (x5 : Int) : spec_PartitionOf.l0L x0 x4 x5 = if x5 < (x0.length : Int) then (if (x4.length : Int) ≤ 6 then (if 0 ≤ x5 then (if 0 ≤ (wrap64 ((x4.length : Int) - 1)) then (if (wrap64 ((x4.length : Int) - 1)) < (x4.length : Int) then ((some (x4.set ((wrap64 ((x4.length : Int) - 1)) : Int).toNat (⟨(rd_T83 x4 (wrap64 ((x4.length : Int) - 1))).f0, rdOf ByteArray.empty x0 x5⟩ : S83) : List (S83))).bind fun y304 => (if y304.length < 4398046511104 then (spec_PartitionOf.l0L x0 (y304 ++ [(⟨rdOf ByteArray.empty x0 x5, (⟨#[]⟩ : ByteArray)⟩ : S83)]) (wrap64 (x5 + 1))) else (none))) else (none)) else (none)) else (none)) else ((spec_PartitionValid.fL x4).bind fun t309 => (if t309 = true then (some (x4, true)) else (some ((([] : List (S83))), false))))) else ((spec_PartitionValid.fL x4).bind fun t313 => (if t313 = true then (some (x4, true)) else (some ((([] : List (S83))), false)))) := by
  refine LimIs.unique (spec_PartitionOf.l0L_is x0 x4 x5) (LimIs.step1 (by simp only [spec_PartitionOf.l0]) ?_)
  simp only [spec_PartitionOf.l0]
  repeat' with_reducible first | exact LimIs.const _ | exact spec_PartitionOf.l0L_is .. | exact spec_PartitionValid.fL_is .. | refine LimIs.ite ?_ ?_ | refine LimIs.bind ?_ (fun _ => ?_)
theorem spec_PartitionOf.fL_eq (l0 : List ByteArray) : spec_PartitionOf.fL l0 = spec_PartitionOf.l0L l0 (([(⟨(⟨#[]⟩ : ByteArray), (⟨#[]⟩ : ByteArray)⟩ : S83)] : List (S83))) 0 := by
  refine LimIs.unique (spec_PartitionOf.fL_is l0) ?_
  unfold spec_PartitionOf.f
  repeat' with_reducible first | exact LimIs.const _ | exact spec_PartitionOf.l0L_is .. | refine LimIs.ite ?_ ?_ | refine LimIs.bind ?_ (fun _ => ?_)
/-! ### spec_KeyAt -/
noncomputable def spec_KeyAt.l0L (x0 : Int) (x3 : ByteArray) (x4 : Int) : Option (ByteArray) := Lim (fun k => spec_KeyAt.l0 k x0 x3 x4)
theorem spec_KeyAt.l0L_is (x0 : Int) (x3 : ByteArray) (x4 : Int) : LimIs (fun k => spec_KeyAt.l0 k x0 x3 x4) (spec_KeyAt.l0L x0 x3 x4) := LimIs.of_mono (fun k r h => (spec_KeyAt.mono_l k) x0 x3 x4 r h)
noncomputable def spec_KeyAt.fL (a0 : Int) : Option (ByteArray) := Lim (fun k => spec_KeyAt.f k a0)
theorem spec_KeyAt.fL_is (a0 : Int) : LimIs (fun k => spec_KeyAt.f k a0) (spec_KeyAt.fL a0) := LimIs.of_mono (fun k r h => spec_KeyAt.mono a0 k r h)
theorem spec_KeyAt.l0L_eq (x0 : Int) (x3 : ByteArray) (x4 : Int) : spec_KeyAt.l0L x0 x3 x4 = if x4 < 4 then ((spec_l1Weight.f x4).bind fun t318 => (if t318 = 0 then (none) else ((some (([(wrap64 (97 + (wrap64 (Int.tdiv x0 t318)))) % 256] : List Int) : List Int)).bind fun y319 => (if x3.size + (strOfNums y319).size ≤ 9223372036854775807 then ((spec_l1Weight.f x4).bind fun t322 => (if t322 = 0 then (none) else (if (Int.tmod x0 t322) = 0 then (some (x3 ++ (strOfNums y319))) else (spec_KeyAt.l0L (wrap64 ((Int.tmod x0 t322) - 1)) (x3 ++ (strOfNums y319)) (wrap64 (x4 + 1)))))) else (none))))) else (some x3) := by
  refine LimIs.unique (spec_KeyAt.l0L_is x0 x3 x4) (LimIs.step1 (by simp only [spec_KeyAt.l0]) ?_)
  simp only [spec_KeyAt.l0]
  repeat' with_reducible first | exact LimIs.const _ | exact spec_KeyAt.l0L_is .. | refine LimIs.ite ?_ ?_ | refine LimIs.bind ?_ (fun _ => ?_)
theorem spec_KeyAt.fL_eq (a0 : Int) : spec_KeyAt.fL a0 = (spec_l1In.f a0 0 475253).bind fun t317 => (if t317 = true then (spec_KeyAt.l0L a0 (⟨#[]⟩ : ByteArray) 0) else (some (⟨#[]⟩ : ByteArray))) := by
  refine LimIs.unique (spec_KeyAt.fL_is a0) ?_
  unfold spec_KeyAt.f
  repeat' with_reducible first | exact LimIs.const _ | exact spec_KeyAt.l0L_is .. | refine LimIs.ite ?_ ?_ | refine LimIs.bind ?_ (fun _ => ?_)
/-! ### spec_l20Bounds -/
noncomputable def spec_l20Bounds.l0L (x1 : Int) (x5 : List ByteArray) (x6 x7 : Int) (x1000 : List Int) (x1001 : Int) : Option (List ByteArray × Int) := Lim (fun k => spec_l20Bounds.l0 k x1 x5 x6 x7 x1000 x1001)
theorem spec_l20Bounds.l0L_is (x1 : Int) (x5 : List ByteArray) (x6 x7 : Int) (x1000 : List Int) (x1001 : Int) : LimIs (fun k => spec_l20Bounds.l0 k x1 x5 x6 x7 x1000 x1001) (spec_l20Bounds.l0L x1 x5 x6 x7 x1000 x1001) := LimIs.of_mono (fun k r h => (spec_l20Bounds.mono_l k) x1 x5 x6 x7 x1000 x1001 r h)
noncomputable def spec_l20Bounds.fL (s0_0 : List Int) (s0_1 a1 : Int) : Option (List ByteArray × Int) := Lim (fun k => spec_l20Bounds.f k s0_0 s0_1 a1)
theorem spec_l20Bounds.fL_is (s0_0 : List Int) (s0_1 a1 : Int) : LimIs (fun k => spec_l20Bounds.f k s0_0 s0_1 a1) (spec_l20Bounds.fL s0_0 s0_1 a1) := LimIs.of_mono (fun k r h => spec_l20Bounds.mono s0_0 s0_1 a1 k r h)
theorem spec_l20Bounds.l0L_eq (x1 : Int) (x5 : List ByteArray) (x6 x7 : Int) (x1000 : List Int) (x1001 : Int) : spec_l20Bounds.l0L x1 x5 x6 x7 x1000 x1001 = if x7 > 0 then ((spec_KeyAt.fL x6).bind fun t330 => (if x5.length < 8796093022208 then ((spec_l20Rd_pick.fL x1000 x1001 256).bind fun bt334 => ((spec_l20Rd_pick.fL x1000 bt334.2 256).bind fun bt336 => (spec_l20Bounds.l0L x1 (x5 ++ [t330]) (wrap64 ((wrap64 (x6 + 1)) + (wrap64 (bt334.1 * bt336.1)))) (wrap64 (x7 - 1)) x1000 bt336.2))) else (none))) else ((spec_l20Rd_odd.fL x1000 x1001 x1).bind fun bt338 => (if bt338.1 = true then ((some (([(⟨#[97]⟩ : ByteArray), (⟨#[]⟩ : ByteArray), (⟨#[65]⟩ : ByteArray), (⟨#[98]⟩ : ByteArray)] : List ByteArray) : List ByteArray)).bind fun y340 => ((spec_l20Rd_pick.fL x1000 bt338.2 4).bind fun bt343 => (if 0 ≤ bt343.1 then (if bt343.1 < (y340.length : Int) then ((some (([rdOf ByteArray.empty y340 bt343.1, (⟨#[98, 98]⟩ : ByteArray)] : List ByteArray) : List ByteArray)).bind fun y346 => (if x5.length + y346.length < 8796093022208 then (some ((x5 ++ y346), bt343.2)) else (none))) else (none)) else (none)))) else (some (x5, bt338.2)))) := by
  refine LimIs.unique (spec_l20Bounds.l0L_is x1 x5 x6 x7 x1000 x1001) (LimIs.step1 (by simp only [spec_l20Bounds.l0]) ?_)
  simp only [spec_l20Bounds.l0]
  repeat' with_reducible first | exact LimIs.const _ | exact spec_KeyAt.fL_is .. | exact spec_l20Bounds.l0L_is .. | exact spec_l20Rd_odd.fL_is .. | exact spec_l20Rd_pick.fL_is .. | refine LimIs.ite ?_ ?_ | refine LimIs.bind ?_ (fun _ => ?_)
theorem spec_l20Bounds.fL_eq (s0_0 : List Int) (s0_1 a1 : Int) : spec_l20Bounds.fL s0_0 s0_1 a1 = (spec_l20Rd_pick.fL s0_0 s0_1 200).bind fun bt326 => ((spec_l20Rd_pick.fL s0_0 bt326.2 6).bind fun bt328 => (spec_l20Bounds.l0L a1 (([] : List ByteArray)) (wrap64 (1 + bt326.1)) bt328.1 s0_0 bt328.2)) := by
  refine LimIs.unique (spec_l20Bounds.fL_is s0_0 s0_1 a1) ?_
  unfold spec_l20Bounds.f
  repeat' with_reducible first | exact LimIs.const _ | exact spec_l20Bounds.l0L_is .. | exact spec_l20Rd_pick.fL_is .. | refine LimIs.ite ?_ ?_ | refine LimIs.bind ?_ (fun _ => ?_)
/-! ### spec_l20Parts -/
noncomputable def spec_l20Parts.fL (s0_0 : List Int) (s0_1 a1 : Int) : Option ((List (S83)) × Int) := Lim (fun k => spec_l20Parts.f k s0_0 s0_1 a1)
theorem spec_l20Parts.fL_is (s0_0 : List Int) (s0_1 a1 : Int) : LimIs (fun k => spec_l20Parts.f k s0_0 s0_1 a1) (spec_l20Parts.fL s0_0 s0_1 a1) := LimIs.of_mono (fun k r h => spec_l20Parts.mono s0_0 s0_1 a1 k r h)
theorem spec_l20Parts.fL_eq (s0_0 : List Int) (s0_1 a1 : Int) : spec_l20Parts.fL s0_0 s0_1 a1 = (spec_l20Bounds.fL s0_0 s0_1 0).bind fun bt352 => ((spec_PartitionOf.fL bt352.1).bind fun bt356 => ((spec_l20Rd_odd.fL s0_0 bt352.2 a1).bind fun bt360 => (if bt360.1 = true then ((spec_l20Rd_pick.fL s0_0 bt360.2 5).bind fun bt362 => (if bt362.1 = 0 then (if 1 ≤ (bt356.1.length : Int) then (some ((bt356.1.drop (1 : Int).toNat), bt362.2)) else (none)) else (if bt362.1 = 1 then (if bt356.1.length < 4398046511104 then (some ((bt356.1 ++ [(⟨(⟨#[122, 122]⟩ : ByteArray), (⟨#[]⟩ : ByteArray)⟩ : S83)]), bt362.2)) else (none)) else (if bt362.1 = 2 then (if 0 ≤ (wrap64 ((bt356.1.length : Int) - 1)) then (if (wrap64 ((bt356.1.length : Int) - 1)) < (bt356.1.length : Int) then (some ((bt356.1.set ((wrap64 ((bt356.1.length : Int) - 1)) : Int).toNat (⟨(rd_T83 bt356.1 (wrap64 ((bt356.1.length : Int) - 1))).f0, (⟨#[122, 122, 122, 122]⟩ : ByteArray)⟩ : S83)), bt362.2)) else (none)) else (none)) else (if bt362.1 = 3 then (if 0 < (bt356.1.length : Int) then (some ((bt356.1.set (0 : Int).toNat (⟨(⟨#[97]⟩ : ByteArray), (rd_T83 bt356.1 0).f1⟩ : S83)), bt362.2)) else (none)) else (if bt356.1.length + bt356.1.length < 4398046511104 then (some ((bt356.1 ++ bt356.1), bt362.2)) else (none))))))) else (some (bt356.1, bt360.2))))) := by
  refine LimIs.unique (spec_l20Parts.fL_is s0_0 s0_1 a1) ?_
  unfold spec_l20Parts.f
  repeat' with_reducible first | exact LimIs.const _ | exact spec_PartitionOf.fL_is .. | exact spec_l20Bounds.fL_is .. | exact spec_l20Rd_odd.fL_is .. | exact spec_l20Rd_pick.fL_is .. | refine LimIs.ite ?_ ?_ | refine LimIs.bind ?_ (fun _ => ?_)
/-! ### spec_l4Place -/
noncomputable def spec_l4Place.l0L (x0 : List (S29)) (x1 : ByteArray) (x5 : Int) : Option (Int) := Lim (fun k => spec_l4Place.l0 k x0 x1 x5)
theorem spec_l4Place.l0L_is (x0 : List (S29)) (x1 : ByteArray) (x5 : Int) : LimIs (fun k => spec_l4Place.l0 k x0 x1 x5) (spec_l4Place.l0L x0 x1 x5) := LimIs.of_mono (fun k r h => (spec_l4Place.mono_l k) x0 x1 x5 r h)
noncomputable def spec_l4Place.fL (l0 : List (S29)) (a1 : ByteArray) : Option (Int) := Lim (fun k => spec_l4Place.f k l0 a1)
theorem spec_l4Place.fL_is (l0 : List (S29)) (a1 : ByteArray) : LimIs (fun k => spec_l4Place.f k l0 a1) (spec_l4Place.fL l0 a1) := LimIs.of_mono (fun k r h => spec_l4Place.mono l0 a1 k r h)
theorem spec_l4Place.l0L_eq (x0 : List (S29)) (x1 : ByteArray) (x5 : Int) : spec_l4Place.l0L x0 x1 x5 = if x5 < (x0.length : Int) then (if 0 ≤ x5 then (if (Op.bytesLess (((rd_T29 x0 x5).f0).toList) x1.toList) = true then (spec_l4Place.l0L x0 x1 (wrap64 (x5 + 1))) else (some x5)) else (none)) else (some x5) := by
  refine LimIs.unique (spec_l4Place.l0L_is x0 x1 x5) (LimIs.step1 (by simp only [spec_l4Place.l0]) ?_)
  simp only [spec_l4Place.l0]
  repeat' with_reducible first | exact LimIs.const _ | exact spec_l4Place.l0L_is .. | refine LimIs.ite ?_ ?_ | refine LimIs.bind ?_ (fun _ => ?_)
theorem spec_l4Place.fL_eq (l0 : List (S29)) (a1 : ByteArray) : spec_l4Place.fL l0 a1 = spec_l4Place.l0L l0 a1 0 := by
  refine LimIs.unique (spec_l4Place.fL_is l0 a1) ?_
  unfold spec_l4Place.f
  repeat' with_reducible first | exact LimIs.const _ | exact spec_l4Place.l0L_is .. | refine LimIs.ite ?_ ?_ | refine LimIs.bind ?_ (fun _ => ?_)
/-! ### spec_PairPut -/
noncomputable def spec_PairPut.j0L (x0 : List (S29)) (x1 : ByteArray) (x2 : Int) (x8 : List (S29)) (x23 : Bool) : Option ((List (S29)) × Bool) := Lim (fun k => spec_PairPut.j0 k x0 x1 x2 x8 x23)
theorem spec_PairPut.j0L_is (x0 : List (S29)) (x1 : ByteArray) (x2 : Int) (x8 : List (S29)) (x23 : Bool) : LimIs (fun k => spec_PairPut.j0 k x0 x1 x2 x8 x23) (spec_PairPut.j0L x0 x1 x2 x8 x23) := LimIs.of_mono (fun k r h => (spec_PairPut.mono_l k).1 x0 x1 x2 x8 x23 r h)
noncomputable def spec_PairPut.j1L (x0 : List (S29)) (x1 : ByteArray) (x2 : Int) (x8 : List (S29)) (x9 : Int) (x40 : Bool) : Option ((List (S29)) × Bool) := Lim (fun k => spec_PairPut.j1 k x0 x1 x2 x8 x9 x40)
theorem spec_PairPut.j1L_is (x0 : List (S29)) (x1 : ByteArray) (x2 : Int) (x8 : List (S29)) (x9 : Int) (x40 : Bool) : LimIs (fun k => spec_PairPut.j1 k x0 x1 x2 x8 x9 x40) (spec_PairPut.j1L x0 x1 x2 x8 x9 x40) := LimIs.of_mono (fun k r h => (spec_PairPut.mono_l k).2 x0 x1 x2 x8 x9 x40 r h)
noncomputable def spec_PairPut.fL (l0 : List (S29)) (a1 : ByteArray) (a2 : Int) : Option ((List (S29)) × Bool) := Lim (fun k => spec_PairPut.f k l0 a1 a2)
theorem spec_PairPut.fL_is (l0 : List (S29)) (a1 : ByteArray) (a2 : Int) : LimIs (fun k => spec_PairPut.f k l0 a1 a2) (spec_PairPut.fL l0 a1 a2) := LimIs.of_mono (fun k r h => spec_PairPut.mono l0 a1 a2 k r h)
theorem spec_PairPut.j0L_eq (x0 : List (S29)) (x1 : ByteArray) (x2 : Int) (x8 : List (S29)) (x23 : Bool) : spec_PairPut.j0L x0 x1 x2 x8 x23 = if x23 = true then (some (x8, false)) else ((spec_l4Place.fL x0 x1).bind fun t382 => (if t382 < (x0.length : Int) then (if 0 ≤ t382 then (spec_PairPut.j1L x0 x1 x2 x8 t382 (((rd_T29 x0 t382).f0).toList == x1.toList)) else (none)) else (spec_PairPut.j1L x0 x1 x2 x8 t382 false))) := by
  refine LimIs.unique (spec_PairPut.j0L_is x0 x1 x2 x8 x23) (LimIs.step1 (by simp only [spec_PairPut.j0]) ?_)
  simp only [spec_PairPut.j0]
  repeat' with_reducible first | exact LimIs.const _ | exact spec_PairPut.j1L_is .. | exact spec_l4Place.fL_is .. | refine LimIs.ite ?_ ?_ | refine LimIs.bind ?_ (fun _ => ?_)
theorem spec_PairPut.j1L_eq (x0 : List (S29)) (x1 : ByteArray) (x2 : Int) (x8 : List (S29)) (x9 : Int) (x40 : Bool) : spec_PairPut.j1L x0 x1 x2 x8 x9 x40 = if x40 = true then (if x8.length + x0.length < 5864062014805 then ((some (x8 ++ x0 : List (S29))).bind fun y384 => (if 0 ≤ x9 then (if x9 < (y384.length : Int) then (some ((y384.set (x9 : Int).toNat (⟨(rd_T29 y384 x9).f0, x2⟩ : S29)), true)) else (none)) else (none))) else (none)) else (if (x0.length : Int) ≥ 48 then (if x8.length + x0.length < 5864062014805 then (some ((x8 ++ x0), false)) else (none)) else (if 0 ≤ x9 then (if x9 ≤ (x0.length : Int) then ((some (x0.take (x9 : Int).toNat : List (S29))).bind fun y391 => (if x8.length + y391.length < 5864062014805 then ((some (x8 ++ y391 : List (S29))).bind fun y395 => (if y395.length < 5864062014805 then ((some (y395 ++ [(⟨x1, x2⟩ : S29)] : List (S29))).bind fun y398 => ((some (x0.drop (x9 : Int).toNat : List (S29))).bind fun y401 => (if y398.length + y401.length < 5864062014805 then (some ((y398 ++ y401), true)) else (none)))) else (none))) else (none))) else (none)) else (none))) := by
  refine LimIs.unique (spec_PairPut.j1L_is x0 x1 x2 x8 x9 x40) (LimIs.step1 (by simp only [spec_PairPut.j1]) ?_)
  simp only [spec_PairPut.j1]
  repeat' with_reducible first | exact LimIs.const _ | refine LimIs.ite ?_ ?_ | refine LimIs.bind ?_ (fun _ => ?_)
theorem spec_PairPut.fL_eq (l0 : List (S29)) (a1 : ByteArray) (a2 : Int) : spec_PairPut.fL l0 a1 a2 = (some (([] : List (S29)) : List (S29))).bind fun y376 => ((spec_PairsValid.fL l0).bind fun t379 => (if t379 = true then ((spec_KeyValid.fL a1).bind fun t380 => (if t380 = true then ((spec_l1In.f a2 0 999).bind fun t381 => (spec_PairPut.j0L l0 a1 a2 y376 (!t381))) else (spec_PairPut.j0L l0 a1 a2 y376 true))) else (spec_PairPut.j0L l0 a1 a2 y376 true))) := by
  refine LimIs.unique (spec_PairPut.fL_is l0 a1 a2) ?_
  unfold spec_PairPut.f
  repeat' with_reducible first | exact LimIs.const _ | exact spec_KeyValid.fL_is .. | exact spec_PairPut.j0L_is .. | exact spec_PairsValid.fL_is .. | refine LimIs.ite ?_ ?_ | refine LimIs.bind ?_ (fun _ => ?_)
/-! ### spec_l20Key -/
noncomputable def spec_l20Key.l0L (x5 : ByteArray) (x6 : Int) (x1000 : List Int) (x1001 : Int) : Option (ByteArray × Int) := Lim (fun k => spec_l20Key.l0 k x5 x6 x1000 x1001)
theorem spec_l20Key.l0L_is (x5 : ByteArray) (x6 : Int) (x1000 : List Int) (x1001 : Int) : LimIs (fun k => spec_l20Key.l0 k x5 x6 x1000 x1001) (spec_l20Key.l0L x5 x6 x1000 x1001) := LimIs.of_mono (fun k r h => (spec_l20Key.mono_l k) x5 x6 x1000 x1001 r h)
noncomputable def spec_l20Key.fL (s0_0 : List Int) (s0_1 a1 : Int) : Option (ByteArray × Int) := Lim (fun k => spec_l20Key.f k s0_0 s0_1 a1)
theorem spec_l20Key.fL_is (s0_0 : List Int) (s0_1 a1 : Int) : LimIs (fun k => spec_l20Key.f k s0_0 s0_1 a1) (spec_l20Key.fL s0_0 s0_1 a1) := LimIs.of_mono (fun k r h => spec_l20Key.mono s0_0 s0_1 a1 k r h)
theorem spec_l20Key.l0L_eq (x5 : ByteArray) (x6 : Int) (x1000 : List Int) (x1001 : Int) : spec_l20Key.l0L x5 x6 x1000 x1001 = if x6 > 0 then ((spec_l20Rd_pick.fL x1000 x1001 4).bind fun bt426 => ((some (([(wrap64 (97 + bt426.1)) % 256] : List Int) : List Int)).bind fun y428 => (if x5.size + (strOfNums y428).size ≤ 9223372036854775807 then (spec_l20Key.l0L (x5 ++ (strOfNums y428)) (wrap64 (x6 - 1)) x1000 bt426.2) else (none)))) else (some (x5, x1001)) := by
  refine LimIs.unique (spec_l20Key.l0L_is x5 x6 x1000 x1001) (LimIs.step1 (by simp only [spec_l20Key.l0]) ?_)
  simp only [spec_l20Key.l0]
  repeat' with_reducible first | exact LimIs.const _ | exact spec_l20Key.l0L_is .. | exact spec_l20Rd_pick.fL_is .. | refine LimIs.ite ?_ ?_ | refine LimIs.bind ?_ (fun _ => ?_)
theorem spec_l20Key.fL_eq (s0_0 : List Int) (s0_1 a1 : Int) : spec_l20Key.fL s0_0 s0_1 a1 = (spec_l20Rd_odd.fL s0_0 s0_1 a1).bind fun bt408 => (if bt408.1 = true then ((some (([(⟨#[]⟩ : ByteArray), (⟨#[65]⟩ : ByteArray), (⟨#[97, 49]⟩ : ByteArray), (⟨#[97, 98, 99, 100, 101]⟩ : ByteArray), (⟨#[98, 123]⟩ : ByteArray), (⟨#[97, 32, 98]⟩ : ByteArray)] : List ByteArray) : List ByteArray)).bind fun y410 => ((spec_l20Rd_pick.fL s0_0 bt408.2 6).bind fun bt413 => (if 0 ≤ bt413.1 then (if bt413.1 < (y410.length : Int) then (some (rdOf ByteArray.empty y410 bt413.1, bt413.2)) else (none)) else (none)))) else ((spec_l20Rd_pick.fL s0_0 bt408.2 12).bind fun bt416 => (if bt416.1 = 11 then ((some (([(⟨#[122, 122, 122, 122]⟩ : ByteArray), (⟨#[122, 122, 122]⟩ : ByteArray), (⟨#[97, 122, 122, 122]⟩ : ByteArray), (⟨#[122]⟩ : ByteArray), (⟨#[97, 97, 97, 97]⟩ : ByteArray)] : List ByteArray) : List ByteArray)).bind fun y418 => ((spec_l20Rd_pick.fL s0_0 bt416.2 5).bind fun bt421 => (if 0 ≤ bt421.1 then (if bt421.1 < (y418.length : Int) then (some (rdOf ByteArray.empty y418 bt421.1, bt421.2)) else (none)) else (none)))) else ((spec_l20Rd_pick.fL s0_0 bt416.2 2).bind fun bt424 => (spec_l20Key.l0L (⟨#[]⟩ : ByteArray) (wrap64 (1 + bt424.1)) s0_0 bt424.2))))) := by
  refine LimIs.unique (spec_l20Key.fL_is s0_0 s0_1 a1) ?_
  unfold spec_l20Key.f
  repeat' with_reducible first | exact LimIs.const _ | exact spec_l20Key.l0L_is .. | exact spec_l20Rd_odd.fL_is .. | exact spec_l20Rd_pick.fL_is .. | refine LimIs.ite ?_ ?_ | refine LimIs.bind ?_ (fun _ => ?_)
/-! ### spec_l20Value -/
noncomputable def spec_l20Value.fL (s0_0 : List Int) (s0_1 a1 : Int) : Option (Int × Int) := Lim (fun k => spec_l20Value.f k s0_0 s0_1 a1)
theorem spec_l20Value.fL_is (s0_0 : List Int) (s0_1 a1 : Int) : LimIs (fun k => spec_l20Value.f k s0_0 s0_1 a1) (spec_l20Value.fL s0_0 s0_1 a1) := LimIs.of_mono (fun k r h => spec_l20Value.mono s0_0 s0_1 a1 k r h)
theorem spec_l20Value.fL_eq (s0_0 : List Int) (s0_1 a1 : Int) : spec_l20Value.fL s0_0 s0_1 a1 = (spec_l20Rd_odd.fL s0_0 s0_1 a1).bind fun bt431 => (if bt431.1 = true then ((some (([(-1), 1000] : List Int) : List Int)).bind fun y433 => ((spec_l20Rd_pick.fL s0_0 bt431.2 2).bind fun bt436 => (if 0 ≤ bt436.1 then (if bt436.1 < (y433.length : Int) then (some (rd y433 bt436.1, bt436.2)) else (none)) else (none)))) else ((spec_l20Rd_pick.fL s0_0 bt431.2 20).bind fun bt439 => ((some (([bt439.1, 999] : List Int) : List Int)).bind fun y441 => ((spec_l20Rd_pick.fL s0_0 bt439.2 9).bind fun bt444 => (if 0 ≤ (wrap64 (Int.tdiv bt444.1 8)) then (if (wrap64 (Int.tdiv bt444.1 8)) < (y441.length : Int) then (some (rd y441 (wrap64 (Int.tdiv bt444.1 8)), bt444.2)) else (none)) else (none)))))) := by
  refine LimIs.unique (spec_l20Value.fL_is s0_0 s0_1 a1) ?_
  unfold spec_l20Value.f
  repeat' with_reducible first | exact LimIs.const _ | exact spec_l20Rd_odd.fL_is .. | exact spec_l20Rd_pick.fL_is .. | refine LimIs.ite ?_ ?_ | refine LimIs.bind ?_ (fun _ => ?_)
/-! ### spec_l20Pairs -/
noncomputable def spec_l20Pairs.l0L (x1 : Int) (x5 : List (S29)) (x6 : Int) (x1000 : List Int) (x1001 : Int) : Option ((List (S29)) × Int) := Lim (fun k => spec_l20Pairs.l0 k x1 x5 x6 x1000 x1001)
theorem spec_l20Pairs.l0L_is (x1 : Int) (x5 : List (S29)) (x6 : Int) (x1000 : List Int) (x1001 : Int) : LimIs (fun k => spec_l20Pairs.l0 k x1 x5 x6 x1000 x1001) (spec_l20Pairs.l0L x1 x5 x6 x1000 x1001) := LimIs.of_mono (fun k r h => (spec_l20Pairs.mono_l k).1 x1 x5 x6 x1000 x1001 r h)
noncomputable def spec_l20Pairs.j3L (x1 : Int) (x5 : List (S29)) (x1000 : List Int) (x1001 : Int) : Option ((List (S29)) × Int) := Lim (fun k => spec_l20Pairs.j3 k x1 x5 x1000 x1001)
theorem spec_l20Pairs.j3L_is (x1 : Int) (x5 : List (S29)) (x1000 : List Int) (x1001 : Int) : LimIs (fun k => spec_l20Pairs.j3 k x1 x5 x1000 x1001) (spec_l20Pairs.j3L x1 x5 x1000 x1001) := LimIs.of_mono (fun k r h => (spec_l20Pairs.mono_l k).2.1 x1 x5 x1000 x1001 r h)
noncomputable def spec_l20Pairs.l1L (x1 : Int) (x5 : List (S29)) (x9 : Int) (x1000 : List Int) (x1001 : Int) : Option ((List (S29)) × Int) := Lim (fun k => spec_l20Pairs.l1 k x1 x5 x9 x1000 x1001)
theorem spec_l20Pairs.l1L_is (x1 : Int) (x5 : List (S29)) (x9 : Int) (x1000 : List Int) (x1001 : Int) : LimIs (fun k => spec_l20Pairs.l1 k x1 x5 x9 x1000 x1001) (spec_l20Pairs.l1L x1 x5 x9 x1000 x1001) := LimIs.of_mono (fun k r h => (spec_l20Pairs.mono_l k).2.2.1 x1 x5 x9 x1000 x1001 r h)
noncomputable def spec_l20Pairs.j2L (x1 : Int) (x5 : List (S29)) (x9 : Int) (x38 : Bool) (x1000 : List Int) (x1001 : Int) : Option ((List (S29)) × Int) := Lim (fun k => spec_l20Pairs.j2 k x1 x5 x9 x38 x1000 x1001)
theorem spec_l20Pairs.j2L_is (x1 : Int) (x5 : List (S29)) (x9 : Int) (x38 : Bool) (x1000 : List Int) (x1001 : Int) : LimIs (fun k => spec_l20Pairs.j2 k x1 x5 x9 x38 x1000 x1001) (spec_l20Pairs.j2L x1 x5 x9 x38 x1000 x1001) := LimIs.of_mono (fun k r h => (spec_l20Pairs.mono_l k).2.2.2 x1 x5 x9 x38 x1000 x1001 r h)
noncomputable def spec_l20Pairs.fL (s0_0 : List Int) (s0_1 a1 : Int) : Option ((List (S29)) × Int) := Lim (fun k => spec_l20Pairs.f k s0_0 s0_1 a1)
theorem spec_l20Pairs.fL_is (s0_0 : List Int) (s0_1 a1 : Int) : LimIs (fun k => spec_l20Pairs.f k s0_0 s0_1 a1) (spec_l20Pairs.fL s0_0 s0_1 a1) := LimIs.of_mono (fun k r h => spec_l20Pairs.mono s0_0 s0_1 a1 k r h)
theorem spec_l20Pairs.l0L_eq (x1 : Int) (x5 : List (S29)) (x6 : Int) (x1000 : List Int) (x1001 : Int) : spec_l20Pairs.l0L x1 x5 x6 x1000 x1001 = if x6 > 0 then ((spec_l20Key.fL x1000 x1001 0).bind fun bt452 => ((spec_l20Value.fL x1000 bt452.2 0).bind fun bt454 => ((spec_PairPut.fL x5 bt452.1 bt454.1).bind fun bt456 => (spec_l20Pairs.l0L x1 bt456.1 (wrap64 (x6 - 1)) x1000 bt454.2)))) else ((spec_l20Rd_pick.fL x1000 x1001 16).bind fun bt460 => (if bt460.1 = 15 then (spec_l20Pairs.l1L x1 x5 0 x1000 bt460.2) else (spec_l20Pairs.j3L x1 x5 x1000 bt460.2))) := by
  refine LimIs.unique (spec_l20Pairs.l0L_is x1 x5 x6 x1000 x1001) (LimIs.step1 (by simp only [spec_l20Pairs.l0]) ?_)
  simp only [spec_l20Pairs.l0]
  repeat' with_reducible first | exact LimIs.const _ | exact spec_PairPut.fL_is .. | exact spec_l20Key.fL_is .. | exact spec_l20Pairs.j3L_is .. | exact spec_l20Pairs.l0L_is .. | exact spec_l20Pairs.l1L_is .. | exact spec_l20Rd_pick.fL_is .. | exact spec_l20Value.fL_is .. | refine LimIs.ite ?_ ?_ | refine LimIs.bind ?_ (fun _ => ?_)
theorem spec_l20Pairs.j3L_eq (x1 : Int) (x5 : List (S29)) (x1000 : List Int) (x1001 : Int) : spec_l20Pairs.j3L x1 x5 x1000 x1001 = (spec_l20Rd_odd.fL x1000 x1001 x1).bind fun bt467 => (if bt467.1 = true then ((some (([(⟨(⟨#[]⟩ : ByteArray), 0⟩ : S29), (⟨(⟨#[122, 122, 122, 122]⟩ : ByteArray), (-1)⟩ : S29), (⟨(⟨#[122, 122, 122, 122]⟩ : ByteArray), 1000⟩ : S29), (⟨(⟨#[97]⟩ : ByteArray), 1⟩ : S29), (⟨(⟨#[65]⟩ : ByteArray), 0⟩ : S29)] : List (S29)) : List (S29))).bind fun y469 => ((spec_l20Rd_pick.fL x1000 bt467.2 5).bind fun bt472 => (if 0 ≤ bt472.1 then (if bt472.1 < (y469.length : Int) then (if x5.length < 5864062014805 then (some ((x5 ++ [(⟨(rd_T29 y469 bt472.1).f0, (rd_T29 y469 bt472.1).f1⟩ : S29)]), bt472.2)) else (none)) else (none)) else (none)))) else (some (x5, bt467.2))) := by
  refine LimIs.unique (spec_l20Pairs.j3L_is x1 x5 x1000 x1001) (LimIs.step1 (by simp only [spec_l20Pairs.j3]) ?_)
  simp only [spec_l20Pairs.j3]
  repeat' with_reducible first | exact LimIs.const _ | exact spec_l20Rd_odd.fL_is .. | exact spec_l20Rd_pick.fL_is .. | refine LimIs.ite ?_ ?_ | refine LimIs.bind ?_ (fun _ => ?_)
theorem spec_l20Pairs.l1L_eq (x1 : Int) (x5 : List (S29)) (x9 : Int) (x1000 : List Int) (x1001 : Int) : spec_l20Pairs.l1L x1 x5 x9 x1000 x1001 = if (x5.length : Int) < 48 then (spec_l20Pairs.j2L x1 x5 x9 (decide (x9 < 200)) x1000 x1001) else (spec_l20Pairs.j2L x1 x5 x9 false x1000 x1001) := by
  refine LimIs.unique (spec_l20Pairs.l1L_is x1 x5 x9 x1000 x1001) (LimIs.step1 (by simp only [spec_l20Pairs.l1]) ?_)
  simp only [spec_l20Pairs.l1]
  repeat' with_reducible first | exact LimIs.const _ | exact spec_l20Pairs.j2L_is .. | refine LimIs.ite ?_ ?_ | refine LimIs.bind ?_ (fun _ => ?_)
theorem spec_l20Pairs.j2L_eq (x1 : Int) (x5 : List (S29)) (x9 : Int) (x38 : Bool) (x1000 : List Int) (x1001 : Int) : spec_l20Pairs.j2L x1 x5 x9 x38 x1000 x1001 = if x38 = true then ((spec_KeyAt.fL (wrap64 (x9 * 9))).bind fun t462 => ((spec_PairPut.fL x5 t462 x9).bind fun bt463 => (spec_l20Pairs.l1L x1 bt463.1 (wrap64 (x9 + 1)) x1000 x1001))) else (spec_l20Pairs.j3L x1 x5 x1000 x1001) := by
  refine LimIs.unique (spec_l20Pairs.j2L_is x1 x5 x9 x38 x1000 x1001) (LimIs.step1 (by simp only [spec_l20Pairs.j2]) ?_)
  simp only [spec_l20Pairs.j2]
  repeat' with_reducible first | exact LimIs.const _ | exact spec_KeyAt.fL_is .. | exact spec_PairPut.fL_is .. | exact spec_l20Pairs.j3L_is .. | exact spec_l20Pairs.l1L_is .. | refine LimIs.ite ?_ ?_ | refine LimIs.bind ?_ (fun _ => ?_)
theorem spec_l20Pairs.fL_eq (s0_0 : List Int) (s0_1 a1 : Int) : spec_l20Pairs.fL s0_0 s0_1 a1 = (spec_l20Rd_pick.fL s0_0 s0_1 9).bind fun bt450 => (spec_l20Pairs.l0L a1 (([] : List (S29))) bt450.1 s0_0 bt450.2) := by
  refine LimIs.unique (spec_l20Pairs.fL_is s0_0 s0_1 a1) ?_
  unfold spec_l20Pairs.f
  repeat' with_reducible first | exact LimIs.const _ | exact spec_l20Pairs.l0L_is .. | exact spec_l20Rd_pick.fL_is .. | refine LimIs.ite ?_ ?_ | refine LimIs.bind ?_ (fun _ => ?_)
/-! ### spec_PairDrop -/
noncomputable def spec_PairDrop.fL (l0 : List (S29)) (a1 : ByteArray) : Option ((List (S29)) × Bool) := Lim (fun k => spec_PairDrop.f k l0 a1)
theorem spec_PairDrop.fL_is (l0 : List (S29)) (a1 : ByteArray) : LimIs (fun k => spec_PairDrop.f k l0 a1) (spec_PairDrop.fL l0 a1) := LimIs.of_mono (fun k r h => spec_PairDrop.mono l0 a1 k r h)
theorem spec_PairDrop.fL_eq (l0 : List (S29)) (a1 : ByteArray) : spec_PairDrop.fL l0 a1 = (some (([] : List (S29)) : List (S29))).bind fun y478 => ((spec_PairsValid.fL l0).bind fun t481 => (if t481 = true then ((spec_l4Place.fL l0 a1).bind fun t482 => (if t482 = (l0.length : Int) then (if y478.length + l0.length < 5864062014805 then (some ((y478 ++ l0), false)) else (none)) else (if 0 ≤ t482 then (if t482 < (l0.length : Int) then (if ((rd_T29 l0 t482).f0).toList = a1.toList then (if t482 ≤ (l0.length : Int) then ((some (l0.take (t482 : Int).toNat : List (S29))).bind fun y487 => (if y478.length + y487.length < 5864062014805 then ((some (y478 ++ y487 : List (S29))).bind fun y491 => (if 0 ≤ (wrap64 (t482 + 1)) then (if (wrap64 (t482 + 1)) ≤ (l0.length : Int) then ((some (l0.drop ((wrap64 (t482 + 1)) : Int).toNat : List (S29))).bind fun y494 => (if y491.length + y494.length < 5864062014805 then (some ((y491 ++ y494), true)) else (none))) else (none)) else (none))) else (none))) else (none)) else (if y478.length + l0.length < 5864062014805 then (some ((y478 ++ l0), false)) else (none))) else (none)) else (none)))) else (some (y478, false)))) := by
  refine LimIs.unique (spec_PairDrop.fL_is l0 a1) ?_
  unfold spec_PairDrop.f
  repeat' with_reducible first | exact LimIs.const _ | exact spec_PairsValid.fL_is .. | exact spec_l4Place.fL_is .. | refine LimIs.ite ?_ ?_ | refine LimIs.bind ?_ (fun _ => ?_)
/-! ### spec_l20Near -/
noncomputable def spec_l20Near.j0L (x1 : List (S29)) (x2 : Int) (x14 : Bool) (x1000 : List Int) (x1001 : Int) : Option (ByteArray × Int) := Lim (fun k => spec_l20Near.j0 k x1 x2 x14 x1000 x1001)
theorem spec_l20Near.j0L_is (x1 : List (S29)) (x2 : Int) (x14 : Bool) (x1000 : List Int) (x1001 : Int) : LimIs (fun k => spec_l20Near.j0 k x1 x2 x14 x1000 x1001) (spec_l20Near.j0L x1 x2 x14 x1000 x1001) := LimIs.of_mono (fun k r h => (spec_l20Near.mono_l k) x1 x2 x14 x1000 x1001 r h)
noncomputable def spec_l20Near.fL (s0_0 : List Int) (s0_1 : Int) (l1 : List (S29)) (a2 : Int) : Option (ByteArray × Int) := Lim (fun k => spec_l20Near.f k s0_0 s0_1 l1 a2)
theorem spec_l20Near.fL_is (s0_0 : List Int) (s0_1 : Int) (l1 : List (S29)) (a2 : Int) : LimIs (fun k => spec_l20Near.f k s0_0 s0_1 l1 a2) (spec_l20Near.fL s0_0 s0_1 l1 a2) := LimIs.of_mono (fun k r h => spec_l20Near.mono s0_0 s0_1 l1 a2 k r h)
theorem spec_l20Near.j0L_eq (x1 : List (S29)) (x2 : Int) (x14 : Bool) (x1000 : List Int) (x1001 : Int) : spec_l20Near.j0L x1 x2 x14 x1000 x1001 = if x14 = true then ((spec_l20Rd_pick.fL x1000 x1001 (x1.length : Int)).bind fun bt506 => (if 0 ≤ bt506.1 then (if bt506.1 < (x1.length : Int) then (some ((rd_T29 x1 bt506.1).f0, bt506.2)) else (none)) else (none))) else ((spec_l20Key.fL x1000 x1001 x2).bind fun bt509 => (some (bt509.1, bt509.2))) := by
  refine LimIs.unique (spec_l20Near.j0L_is x1 x2 x14 x1000 x1001) (LimIs.step1 (by simp only [spec_l20Near.j0]) ?_)
  simp only [spec_l20Near.j0]
  repeat' with_reducible first | exact LimIs.const _ | exact spec_l20Key.fL_is .. | exact spec_l20Rd_pick.fL_is .. | refine LimIs.ite ?_ ?_ | refine LimIs.bind ?_ (fun _ => ?_)
theorem spec_l20Near.fL_eq (s0_0 : List Int) (s0_1 : Int) (l1 : List (S29)) (a2 : Int) : spec_l20Near.fL s0_0 s0_1 l1 a2 = if (l1.length : Int) > 0 then ((spec_l20Rd_pick.fL s0_0 s0_1 2).bind fun bt504 => (spec_l20Near.j0L l1 a2 (bt504.1 == 0) s0_0 bt504.2)) else (spec_l20Near.j0L l1 a2 false s0_0 s0_1) := by
  refine LimIs.unique (spec_l20Near.fL_is s0_0 s0_1 l1 a2) ?_
  unfold spec_l20Near.f
  repeat' with_reducible first | exact LimIs.const _ | exact spec_l20Near.j0L_is .. | exact spec_l20Rd_pick.fL_is .. | refine LimIs.ite ?_ ?_ | refine LimIs.bind ?_ (fun _ => ?_)
/-! ### spec_DrawPairChanges -/
noncomputable def spec_DrawPairChanges.l0L (x5 x6 : List (S29)) (x7 : Int) (x514000 : List Int) (x514001 : Int) : Option ((List (S29)) × (List (S29))) := Lim (fun k => spec_DrawPairChanges.l0 k x5 x6 x7 x514000 x514001)
theorem spec_DrawPairChanges.l0L_is (x5 x6 : List (S29)) (x7 : Int) (x514000 : List Int) (x514001 : Int) : LimIs (fun k => spec_DrawPairChanges.l0 k x5 x6 x7 x514000 x514001) (spec_DrawPairChanges.l0L x5 x6 x7 x514000 x514001) := LimIs.of_mono (fun k r h => (spec_DrawPairChanges.mono_l k).1 x5 x6 x7 x514000 x514001 r h)
noncomputable def spec_DrawPairChanges.j1L (x5 x6 : List (S29)) (x7 : Int) (x31 : Bool) (x514000 : List Int) (x514001 : Int) : Option ((List (S29)) × (List (S29))) := Lim (fun k => spec_DrawPairChanges.j1 k x5 x6 x7 x31 x514000 x514001)
theorem spec_DrawPairChanges.j1L_is (x5 x6 : List (S29)) (x7 : Int) (x31 : Bool) (x514000 : List Int) (x514001 : Int) : LimIs (fun k => spec_DrawPairChanges.j1 k x5 x6 x7 x31 x514000 x514001) (spec_DrawPairChanges.j1L x5 x6 x7 x31 x514000 x514001) := LimIs.of_mono (fun k r h => (spec_DrawPairChanges.mono_l k).2.1 x5 x6 x7 x31 x514000 x514001 r h)
noncomputable def spec_DrawPairChanges.j2L (x5 x6 : List (S29)) (x7 : Int) (x9 x11 : List (S29)) (x12 x56 : Bool) (x514000 : List Int) (x514001 : Int) : Option ((List (S29)) × (List (S29))) := Lim (fun k => spec_DrawPairChanges.j2 k x5 x6 x7 x9 x11 x12 x56 x514000 x514001)
theorem spec_DrawPairChanges.j2L_is (x5 x6 : List (S29)) (x7 : Int) (x9 x11 : List (S29)) (x12 x56 : Bool) (x514000 : List Int) (x514001 : Int) : LimIs (fun k => spec_DrawPairChanges.j2 k x5 x6 x7 x9 x11 x12 x56 x514000 x514001) (spec_DrawPairChanges.j2L x5 x6 x7 x9 x11 x12 x56 x514000 x514001) := LimIs.of_mono (fun k r h => (spec_DrawPairChanges.mono_l k).2.2 x5 x6 x7 x9 x11 x12 x56 x514000 x514001 r h)
noncomputable def spec_DrawPairChanges.fL (l0 : List Int) : Option ((List (S29)) × (List (S29))) := Lim (fun k => spec_DrawPairChanges.f k l0)
theorem spec_DrawPairChanges.fL_is (l0 : List Int) : LimIs (fun k => spec_DrawPairChanges.f k l0) (spec_DrawPairChanges.fL l0) := LimIs.of_mono (fun k r h => spec_DrawPairChanges.mono l0 k r h)
theorem spec_DrawPairChanges.l0L_eq (x5 x6 : List (S29)) (x7 : Int) (x514000 : List Int) (x514001 : Int) : spec_DrawPairChanges.l0L x5 x6 x7 x514000 x514001 = if x7 > 0 then ((spec_PairsValid.fL x6).bind fun t526 => (spec_DrawPairChanges.j1L x5 x6 x7 t526 x514000 x514001)) else (spec_DrawPairChanges.j1L x5 x6 x7 false x514000 x514001) := by
  refine LimIs.unique (spec_DrawPairChanges.l0L_is x5 x6 x7 x514000 x514001) (LimIs.step1 (by simp only [spec_DrawPairChanges.l0]) ?_)
  simp only [spec_DrawPairChanges.l0]
  repeat' with_reducible first | exact LimIs.const _ | exact spec_DrawPairChanges.j1L_is .. | exact spec_PairsValid.fL_is .. | refine LimIs.ite ?_ ?_ | refine LimIs.bind ?_ (fun _ => ?_)
theorem spec_DrawPairChanges.j1L_eq (x5 x6 : List (S29)) (x7 : Int) (x31 : Bool) (x514000 : List Int) (x514001 : Int) : spec_DrawPairChanges.j1L x5 x6 x7 x31 x514000 x514001 = if x31 = true then ((spec_l20Near.fL x514000 x514001 x6 0).bind fun bt527 => ((spec_PairDrop.fL x6 bt527.1).bind fun bt529 => ((spec_l20Value.fL x514000 bt527.2 0).bind fun bt533 => ((spec_PairPut.fL x6 bt527.1 bt533.1).bind fun bt535 => (if bt529.2 = true then ((spec_l20Rd_pick.fL x514000 bt533.2 2).bind fun bt539 => (spec_DrawPairChanges.j2L x5 x6 x7 bt529.1 bt535.1 bt535.2 (bt539.1 == 0) x514000 bt539.2)) else (spec_DrawPairChanges.j2L x5 x6 x7 bt529.1 bt535.1 bt535.2 false x514000 bt533.2)))))) else (some (x5, x6)) := by
  refine LimIs.unique (spec_DrawPairChanges.j1L_is x5 x6 x7 x31 x514000 x514001) (LimIs.step1 (by simp only [spec_DrawPairChanges.j1]) ?_)
  simp only [spec_DrawPairChanges.j1]
  repeat' with_reducible first | exact LimIs.const _ | exact spec_DrawPairChanges.j2L_is .. | exact spec_PairDrop.fL_is .. | exact spec_PairPut.fL_is .. | exact spec_l20Near.fL_is .. | exact spec_l20Rd_pick.fL_is .. | exact spec_l20Value.fL_is .. | refine LimIs.ite ?_ ?_ | refine LimIs.bind ?_ (fun _ => ?_)
theorem spec_DrawPairChanges.j2L_eq (x5 x6 : List (S29)) (x7 : Int) (x9 x11 : List (S29)) (x12 x56 : Bool) (x514000 : List Int) (x514001 : Int) : spec_DrawPairChanges.j2L x5 x6 x7 x9 x11 x12 x56 x514000 x514001 = if x56 = true then (spec_DrawPairChanges.l0L x5 x9 (wrap64 (x7 - 1)) x514000 x514001) else (if x12 = true then (spec_DrawPairChanges.l0L x5 x11 (wrap64 (x7 - 1)) x514000 x514001) else (spec_DrawPairChanges.l0L x5 x6 (wrap64 (x7 - 1)) x514000 x514001)) := by
  refine LimIs.unique (spec_DrawPairChanges.j2L_is x5 x6 x7 x9 x11 x12 x56 x514000 x514001) (LimIs.step1 (by simp only [spec_DrawPairChanges.j2]) ?_)
  simp only [spec_DrawPairChanges.j2]
  repeat' with_reducible first | exact LimIs.const _ | exact spec_DrawPairChanges.l0L_is .. | refine LimIs.ite ?_ ?_ | refine LimIs.bind ?_ (fun _ => ?_)
theorem spec_DrawPairChanges.fL_eq (l0 : List Int) : spec_DrawPairChanges.fL l0 = (spec_l20Open.f l0).bind fun bt511 => ((spec_l20Pairs.fL bt511.1 bt511.2 12).bind fun bt514 => ((spec_l20Rd_pick.fL bt511.1 bt514.2 4).bind fun bt518 => (if bt518.1 = 0 then ((spec_l20Pairs.fL bt511.1 bt518.2 12).bind fun bt520 => (some (bt514.1, bt520.1))) else ((spec_l20Rd_pick.fL bt511.1 bt518.2 3).bind fun bt524 => (spec_DrawPairChanges.l0L bt514.1 bt514.1 bt524.1 bt511.1 bt524.2))))) := by
  refine LimIs.unique (spec_DrawPairChanges.fL_is l0) ?_
  unfold spec_DrawPairChanges.f
  repeat' with_reducible first | exact LimIs.const _ | exact spec_DrawPairChanges.l0L_is .. | exact spec_l20Pairs.fL_is .. | exact spec_l20Rd_pick.fL_is .. | refine LimIs.ite ?_ ?_ | refine LimIs.bind ?_ (fun _ => ?_)
/-! ### spec_DrawDiffParts -/
noncomputable def spec_DrawDiffParts.fL (l0 : List Int) : Option ((List (S29)) × (List (S29)) × (List (S83))) := Lim (fun k => spec_DrawDiffParts.f k l0)
theorem spec_DrawDiffParts.fL_is (l0 : List Int) : LimIs (fun k => spec_DrawDiffParts.f k l0) (spec_DrawDiffParts.fL l0) := LimIs.of_mono (fun k r h => spec_DrawDiffParts.mono l0 k r h)
theorem spec_DrawDiffParts.fL_eq (l0 : List Int) : spec_DrawDiffParts.fL l0 = (spec_DrawPairChanges.fL l0).bind fun bt541 => ((spec_l20Open.f l0).bind fun bt547 => ((spec_l20Parts.fL bt547.1 bt547.2 12).bind fun bt550 => (some (bt541.1, bt541.2, bt550.1)))) := by
  refine LimIs.unique (spec_DrawDiffParts.fL_is l0) ?_
  unfold spec_DrawDiffParts.f
  repeat' with_reducible first | exact LimIs.const _ | exact spec_DrawPairChanges.fL_is .. | exact spec_l20Parts.fL_is .. | refine LimIs.ite ?_ ?_ | refine LimIs.bind ?_ (fun _ => ?_)
/-! ### laws_samePairs -/
noncomputable def laws_samePairs.l0L (x0 x1 : List (S29)) (x5 : Int) : Option (Bool) := Lim (fun k => laws_samePairs.l0 k x0 x1 x5)
theorem laws_samePairs.l0L_is (x0 x1 : List (S29)) (x5 : Int) : LimIs (fun k => laws_samePairs.l0 k x0 x1 x5) (laws_samePairs.l0L x0 x1 x5) := LimIs.of_mono (fun k r h => (laws_samePairs.mono_l k) x0 x1 x5 r h)
noncomputable def laws_samePairs.fL (l0 l1 : List (S29)) : Option (Bool) := Lim (fun k => laws_samePairs.f k l0 l1)
theorem laws_samePairs.fL_is (l0 l1 : List (S29)) : LimIs (fun k => laws_samePairs.f k l0 l1) (laws_samePairs.fL l0 l1) := LimIs.of_mono (fun k r h => laws_samePairs.mono l0 l1 k r h)
theorem laws_samePairs.l0L_eq (x0 x1 : List (S29)) (x5 : Int) : laws_samePairs.l0L x0 x1 x5 = if x5 < (x0.length : Int) then (if 0 ≤ x5 then (if x5 < (x1.length : Int) then (if (!((((rd_T29 x0 x5).f0).toList) == (((rd_T29 x1 x5).f0).toList)) || (!(((rd_T29 x0 x5).f1) == ((rd_T29 x1 x5).f1)))) = true then (some false) else (laws_samePairs.l0L x0 x1 (wrap64 (x5 + 1)))) else (none)) else (none)) else (some true) := by
  refine LimIs.unique (laws_samePairs.l0L_is x0 x1 x5) (LimIs.step1 (by simp only [laws_samePairs.l0]) ?_)
  simp only [laws_samePairs.l0]
  repeat' with_reducible first | exact LimIs.const _ | exact laws_samePairs.l0L_is .. | refine LimIs.ite ?_ ?_ | refine LimIs.bind ?_ (fun _ => ?_)
theorem laws_samePairs.fL_eq (l0 l1 : List (S29)) : laws_samePairs.fL l0 l1 = if (l0.length : Int) = (l1.length : Int) then (laws_samePairs.l0L l0 l1 0) else (some false) := by
  refine LimIs.unique (laws_samePairs.fL_is l0 l1) ?_
  unfold laws_samePairs.f
  repeat' with_reducible first | exact LimIs.const _ | exact laws_samePairs.l0L_is .. | refine LimIs.ite ?_ ?_ | refine LimIs.bind ?_ (fun _ => ?_)
/-! ### impl_PartitionFind -/
noncomputable def impl_PartitionFind.j0L (x0 : List (S83)) (x1 : ByteArray) (x14 : Bool) : Option (Int) := Lim (fun k => impl_PartitionFind.j0 k x0 x1 x14)
theorem impl_PartitionFind.j0L_is (x0 : List (S83)) (x1 : ByteArray) (x14 : Bool) : LimIs (fun k => impl_PartitionFind.j0 k x0 x1 x14) (impl_PartitionFind.j0L x0 x1 x14) := LimIs.of_mono (fun k r h => (impl_PartitionFind.mono_l k).1 x0 x1 x14 r h)
noncomputable def impl_PartitionFind.l0L (x1 : ByteArray) (x15 : List (S83)) (x16 x17 : Int) : Option (Int) := Lim (fun k => impl_PartitionFind.l0 k x1 x15 x16 x17)
theorem impl_PartitionFind.l0L_is (x1 : ByteArray) (x15 : List (S83)) (x16 x17 : Int) : LimIs (fun k => impl_PartitionFind.l0 k x1 x15 x16 x17) (impl_PartitionFind.l0L x1 x15 x16 x17) := LimIs.of_mono (fun k r h => (impl_PartitionFind.mono_l k).2 x1 x15 x16 x17 r h)
noncomputable def impl_PartitionFind.fL (l0 : List (S83)) (a1 : ByteArray) : Option (Int) := Lim (fun k => impl_PartitionFind.f k l0 a1)
theorem impl_PartitionFind.fL_is (l0 : List (S83)) (a1 : ByteArray) : LimIs (fun k => impl_PartitionFind.f k l0 a1) (impl_PartitionFind.fL l0 a1) := LimIs.of_mono (fun k r h => impl_PartitionFind.mono l0 a1 k r h)
theorem impl_PartitionFind.j0L_eq (x0 : List (S83)) (x1 : ByteArray) (x14 : Bool) : impl_PartitionFind.j0L x0 x1 x14 = if x14 = true then (some (-1)) else (impl_PartitionFind.l0L x1 x0 (x0.length : Int) 0) := by
  refine LimIs.unique (impl_PartitionFind.j0L_is x0 x1 x14) (LimIs.step1 (by simp only [impl_PartitionFind.j0]) ?_)
  simp only [impl_PartitionFind.j0]
  repeat' with_reducible first | exact LimIs.const _ | exact impl_PartitionFind.l0L_is .. | refine LimIs.ite ?_ ?_ | refine LimIs.bind ?_ (fun _ => ?_)
theorem impl_PartitionFind.l0L_eq (x1 : ByteArray) (x15 : List (S83)) (x16 x17 : Int) : impl_PartitionFind.l0L x1 x15 x16 x17 = if x17 < x16 then (if 0 ≤ x17 then (if x17 < (x15.length : Int) then ((impl_inside.f ((rd_T83 x15 x17).f0) ((rd_T83 x15 x17).f1) x1).bind fun t561 => (if t561 = true then (some x17) else (impl_PartitionFind.l0L x1 x15 x16 (wrap64 (x17 + 1))))) else (none)) else (none)) else (some (-1)) := by
  refine LimIs.unique (impl_PartitionFind.l0L_is x1 x15 x16 x17) (LimIs.step1 (by simp only [impl_PartitionFind.l0]) ?_)
  simp only [impl_PartitionFind.l0]
  repeat' with_reducible first | exact LimIs.const _ | exact impl_PartitionFind.l0L_is .. | refine LimIs.ite ?_ ?_ | refine LimIs.bind ?_ (fun _ => ?_)
theorem impl_PartitionFind.fL_eq (l0 : List (S83)) (a1 : ByteArray) : impl_PartitionFind.fL l0 a1 = (impl_PartitionValid.fL l0).bind fun t557 => (if t557 = true then ((impl_KeyValid.fL a1).bind fun t558 => (impl_PartitionFind.j0L l0 a1 (!t558))) else (impl_PartitionFind.j0L l0 a1 true)) := by
  refine LimIs.unique (impl_PartitionFind.fL_is l0 a1) ?_
  unfold impl_PartitionFind.f
  repeat' with_reducible first | exact LimIs.const _ | exact impl_KeyValid.fL_is .. | exact impl_PartitionFind.j0L_is .. | exact impl_PartitionValid.fL_is .. | refine LimIs.ite ?_ ?_ | refine LimIs.bind ?_ (fun _ => ?_)
/-! ### laws_FnDiffParts -/
noncomputable def laws_FnDiffParts.j0L (x0 : List Int) (x3 x4 : List (S29)) (x5 : List (S83)) (x6 : List Int) (x38 : Bool) : Option (Bool) := Lim (fun k => laws_FnDiffParts.j0 k x0 x3 x4 x5 x6 x38)
theorem laws_FnDiffParts.j0L_is (x0 : List Int) (x3 x4 : List (S29)) (x5 : List (S83)) (x6 : List Int) (x38 : Bool) : LimIs (fun k => laws_FnDiffParts.j0 k x0 x3 x4 x5 x6 x38) (laws_FnDiffParts.j0L x0 x3 x4 x5 x6 x38) := LimIs.of_mono (fun k r h => (laws_FnDiffParts.mono_l k).1 x0 x3 x4 x5 x6 x38 r h)
noncomputable def laws_FnDiffParts.l0L (x0 : List Int) (x3 x4 : List (S29)) (x5 : List (S83)) (x6 : List Int) (x7 : Int) : Option (Bool) := Lim (fun k => laws_FnDiffParts.l0 k x0 x3 x4 x5 x6 x7)
theorem laws_FnDiffParts.l0L_is (x0 : List Int) (x3 x4 : List (S29)) (x5 : List (S83)) (x6 : List Int) (x7 : Int) : LimIs (fun k => laws_FnDiffParts.l0 k x0 x3 x4 x5 x6 x7) (laws_FnDiffParts.l0L x0 x3 x4 x5 x6 x7) := LimIs.of_mono (fun k r h => (laws_FnDiffParts.mono_l k).2.1 x0 x3 x4 x5 x6 x7 r h)
noncomputable def laws_FnDiffParts.j2L (x0 : List Int) (x3 : List (S29)) (x5 : List (S83)) (x92 : Bool) : Option (Bool) := Lim (fun k => laws_FnDiffParts.j2 k x0 x3 x5 x92)
theorem laws_FnDiffParts.j2L_is (x0 : List Int) (x3 : List (S29)) (x5 : List (S83)) (x92 : Bool) : LimIs (fun k => laws_FnDiffParts.j2 k x0 x3 x5 x92) (laws_FnDiffParts.j2L x0 x3 x5 x92) := LimIs.of_mono (fun k r h => (laws_FnDiffParts.mono_l k).2.2 x0 x3 x5 x92 r h)
noncomputable def laws_FnDiffParts.fL (l0 : List Int) : Option (Bool) := Lim (fun k => laws_FnDiffParts.f k l0)
theorem laws_FnDiffParts.fL_is (l0 : List Int) : LimIs (fun k => laws_FnDiffParts.f k l0) (laws_FnDiffParts.fL l0) := LimIs.of_mono (fun k r h => laws_FnDiffParts.mono l0 k r h)
theorem laws_FnDiffParts.j0L_eq (x0 : List Int) (x3 x4 : List (S29)) (x5 : List (S83)) (x6 : List Int) (x38 : Bool) : laws_FnDiffParts.j0L x0 x3 x4 x5 x6 x38 = if x38 = true then (some false) else (laws_FnDiffParts.l0L x0 x3 x4 x5 x6 0) := by
  refine LimIs.unique (laws_FnDiffParts.j0L_is x0 x3 x4 x5 x6 x38) (LimIs.step1 (by simp only [laws_FnDiffParts.j0]) ?_)
  simp only [laws_FnDiffParts.j0]
  repeat' with_reducible first | exact LimIs.const _ | exact laws_FnDiffParts.l0L_is .. | refine LimIs.ite ?_ ?_ | refine LimIs.bind ?_ (fun _ => ?_)
theorem laws_FnDiffParts.l0L_eq (x0 : List Int) (x3 x4 : List (S29)) (x5 : List (S83)) (x6 : List Int) (x7 : Int) : laws_FnDiffParts.l0L x0 x3 x4 x5 x6 x7 = if x7 < (x6.length : Int) then (if 0 ≤ x7 then (if (rd x6 x7) < 0 then (some false) else (if (rd x6 x7) ≥ (x5.length : Int) then (some false) else (if 0 ≤ (rd x6 x7) then (if (rd x6 x7) < (x5.length : Int) then ((impl_PairsIn.fL x3 ((rd_T83 x5 (rd x6 x7)).f0) ((rd_T83 x5 (rd x6 x7)).f1)).bind fun t586 => ((impl_PairsIn.fL x4 ((rd_T83 x5 (rd x6 x7)).f0) ((rd_T83 x5 (rd x6 x7)).f1)).bind fun t591 => ((laws_samePairs.fL t586 t591).bind fun t594 => (if t594 = true then (some false) else (laws_FnDiffParts.l0L x0 x3 x4 x5 x6 (wrap64 (x7 + 1))))))) else (none)) else (none)))) else (none)) else ((impl_PairsValid.fL x3).bind fun t595 => (if t595 = true then ((impl_PartitionValid.fL x5).bind fun t596 => (if t596 = true then (laws_FnDiffParts.j2L x0 x3 x5 ((x3.length : Int) == 0)) else (laws_FnDiffParts.j2L x0 x3 x5 true))) else (laws_FnDiffParts.j2L x0 x3 x5 true))) := by
  refine LimIs.unique (laws_FnDiffParts.l0L_is x0 x3 x4 x5 x6 x7) (LimIs.step1 (by simp only [laws_FnDiffParts.l0]) ?_)
  simp only [laws_FnDiffParts.l0]
  repeat' with_reducible first | exact LimIs.const _ | exact impl_PairsIn.fL_is .. | exact impl_PairsValid.fL_is .. | exact impl_PartitionValid.fL_is .. | exact laws_FnDiffParts.j2L_is .. | exact laws_FnDiffParts.l0L_is .. | exact laws_samePairs.fL_is .. | refine LimIs.ite ?_ ?_ | refine LimIs.bind ?_ (fun _ => ?_)
theorem laws_FnDiffParts.j2L_eq (x0 : List Int) (x3 : List (S29)) (x5 : List (S83)) (x92 : Bool) : laws_FnDiffParts.j2L x0 x3 x5 x92 = if x92 = true then ((impl_DiffParts.fL x3 x3 x5).bind fun t597 => (if (t597.length : Int) = 0 then ((laws_alive.fL).bind fun t600 => (some t600)) else (some false))) else (if (x3.length : Int) = 0 then (none) else ((some (([] : List (S29)) : List (S29))).bind fun y601 => (if y601.length + x3.length < 5864062014805 then ((some (y601 ++ x3 : List (S29))).bind fun y604 => (if 0 ≤ ((x0.length : Int) % (x3.length : Int)) then (if ((x0.length : Int) % (x3.length : Int)) < (x3.length : Int) then (if ((x0.length : Int) % (x3.length : Int)) < (y604.length : Int) then ((impl_DiffParts.fL x3 (y604.set (((x0.length : Int) % (x3.length : Int)) : Int).toNat (⟨(rd_T29 y604 ((x0.length : Int) % (x3.length : Int))).f0, Int.tmod (wrap64 (((rd_T29 x3 ((x0.length : Int) % (x3.length : Int))).f1) + 1)) 1000⟩ : S29)) x5).bind fun t609 => ((impl_PartitionFind.fL x5 ((rd_T29 x3 ((x0.length : Int) % (x3.length : Int))).f0)).bind fun t613 => ((laws_sameInts.fL t609 (([t613] : List Int))).bind fun t617 => (some t617)))) else (none)) else (none)) else (none))) else (none)))) := by
  refine LimIs.unique (laws_FnDiffParts.j2L_is x0 x3 x5 x92) (LimIs.step1 (by simp only [laws_FnDiffParts.j2]) ?_)
  simp only [laws_FnDiffParts.j2]
  repeat' with_reducible first | exact LimIs.const _ | exact impl_DiffParts.fL_is .. | exact impl_PartitionFind.fL_is .. | exact laws_alive.fL_is .. | exact laws_sameInts.fL_is .. | refine LimIs.ite ?_ ?_ | refine LimIs.bind ?_ (fun _ => ?_)
theorem laws_FnDiffParts.fL_eq (l0 : List Int) : laws_FnDiffParts.fL l0 = if (l0.length : Int) > 1048576 then (some true) else ((spec_DrawDiffParts.fL l0).bind fun bt562 => ((impl_DiffParts.fL bt562.1 bt562.2.1 bt562.2.2).bind fun t571 => ((spec_DiffParts.fL bt562.1 bt562.2.1 bt562.2.2).bind fun t574 => ((laws_sameInts.fL t571 t574).bind fun t577 => (if t577 = true then ((impl_DiffParts.fL bt562.2.1 bt562.1 bt562.2.2).bind fun t578 => ((laws_sameInts.fL t571 t578).bind fun t581 => (laws_FnDiffParts.j0L l0 bt562.1 bt562.2.1 bt562.2.2 t571 (!t581)))) else (laws_FnDiffParts.j0L l0 bt562.1 bt562.2.1 bt562.2.2 t571 true)))))) := by
  refine LimIs.unique (laws_FnDiffParts.fL_is l0) ?_
  unfold laws_FnDiffParts.f
  repeat' with_reducible first | exact LimIs.const _ | exact impl_DiffParts.fL_is .. | exact laws_FnDiffParts.j0L_is .. | exact laws_sameInts.fL_is .. | exact spec_DiffParts.fL_is .. | exact spec_DrawDiffParts.fL_is .. | refine LimIs.ite ?_ ?_ | refine LimIs.bind ?_ (fun _ => ?_)
end Go.Proofs.Ytfeeifefmenlmaa.PFnDiffParts
