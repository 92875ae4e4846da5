/- The limits of the printed functions, and their equations. Written by lim.py out of the print. No condition. -/
import Derived.Test.YtfeeifefmenlmaaOFnExactRepliesRight
import Derived.Test.YtfeeifefmenlmaaLim
namespace Go.Proofs.Ytfeeifefmenlmaa.PFnExactRepliesRight
open Go.RowKit Go.Proofs.YtfeeifefmenlmaaW.PrintWords Go.Proofs.YtfeeifefmenlmaaW.PrintLast Go.Proofs.YtfeeifefmenlmaaW.PrintMore Go.Proofs.Ytfeeifefmenlmaa.Lim
set_option linter.unusedVariables false

/-! ### laws_eqIntS -/
noncomputable def laws_eqIntS.l0L (x0 : List Int) (x1 : List Int) (x5 : Int) : Option (Bool) := Lim (fun k => laws_eqIntS.l0 k x0 x1 x5)
theorem laws_eqIntS.l0L_is (x0 : List Int) (x1 : List Int) (x5 : Int) : LimIs (fun k => laws_eqIntS.l0 k x0 x1 x5) (laws_eqIntS.l0L x0 x1 x5) := LimIs.of_mono (fun k r h => (laws_eqIntS.mono_l k) x0 x1 x5 r h)
noncomputable def laws_eqIntS.fL (l0 : List Int) (l1 : List Int) : Option (Bool) := Lim (fun k => laws_eqIntS.f k l0 l1)
theorem laws_eqIntS.fL_is (l0 : List Int) (l1 : List Int) : LimIs (fun k => laws_eqIntS.f k l0 l1) (laws_eqIntS.fL l0 l1) := LimIs.of_mono (fun k r h => laws_eqIntS.mono l0 l1 k r h)
theorem laws_eqIntS.l0L_eq (x0 : List Int) (x1 : List Int) (x5 : Int) : laws_eqIntS.l0L x0 x1 x5 = if x5 < (x0.length : Int) then (if 0 ≤ x5 then (if x5 < (x1.length : Int) then (if (rd x0 x5) = (rd x1 x5) then (laws_eqIntS.l0L x0 x1 (wrap64 (x5 + 1))) else (some false)) else (none)) else (none)) else (some true) := by
  refine LimIs.unique (laws_eqIntS.l0L_is x0 x1 x5) (LimIs.step (f := fun k => if x5 < (x0.length : Int) then (if 0 ≤ x5 then (if x5 < (x1.length : Int) then (if (rd x0 x5) = (rd x1 x5) then (laws_eqIntS.l0 k x0 x1 (wrap64 (x5 + 1))) else (some false)) else (none)) else (none)) else (some true)) (by simp only [laws_eqIntS.l0]) (fun k => by simp only [laws_eqIntS.l0]) ?_)
  repeat' first
    | (with_reducible exact LimIs.const _)
    | (with_reducible exact laws_eqIntS.l0L_is _ _ _)
    | (with_reducible refine LimIs.ite ?_ ?_)
    | (with_reducible refine LimIs.bind ?_ (fun _ => ?_))
theorem laws_eqIntS.fL_eq (l0 : List Int) (l1 : List Int) : laws_eqIntS.fL l0 l1 = if (l0.length : Int) = (l1.length : Int) then (laws_eqIntS.l0L l0 l1 0) else (some false) := by
  refine LimIs.unique (laws_eqIntS.fL_is l0 l1) ?_
  unfold laws_eqIntS.f
  repeat' first
    | (with_reducible exact LimIs.const _)
    | (with_reducible exact laws_eqIntS.l0L_is _ _ _)
    | (with_reducible refine LimIs.ite ?_ ?_)
    | (with_reducible refine LimIs.bind ?_ (fun _ => ?_))
/-! ### laws_szResultS -/
noncomputable def laws_szResultS.l0L (x0 : List (S135)) (x1 : Int) (x5 : Int) : Option (Int) := Lim (fun k => laws_szResultS.l0 k x0 x1 x5)
theorem laws_szResultS.l0L_is (x0 : List (S135)) (x1 : Int) (x5 : Int) : LimIs (fun k => laws_szResultS.l0 k x0 x1 x5) (laws_szResultS.l0L x0 x1 x5) := LimIs.of_mono (fun k r h => (laws_szResultS.mono_l k) x0 x1 x5 r h)
noncomputable def laws_szResultS.fL (l0 : List (S135)) (a1 : Int) : Option (Int) := Lim (fun k => laws_szResultS.f k l0 a1)
theorem laws_szResultS.fL_is (l0 : List (S135)) (a1 : Int) : LimIs (fun k => laws_szResultS.f k l0 a1) (laws_szResultS.fL l0 a1) := LimIs.of_mono (fun k r h => laws_szResultS.mono l0 a1 k r h)
theorem laws_szResultS.l0L_eq (x0 : List (S135)) (x1 : Int) (x5 : Int) : laws_szResultS.l0L x0 x1 x5 = if x5 < (x0.length : Int) then (if 0 ≤ x5 then ((laws_szResult.f ((rd_T135 x0 x5).f0) ((rd_T135 x0 x5).f1) ((rd_T135 x0 x5).f2.f0) ((rd_T135 x0 x5).f2.f1) ((rd_T135 x0 x5).f2.f2) ((rd_T135 x0 x5).f2.f3) ((rd_T135 x0 x5).f3) ((rd_T135 x0 x5).f4) ((rd_T135 x0 x5).f5) x1).bind fun t107 => (if t107 < 0 then (some (-1)) else (laws_szResultS.l0L x0 t107 (wrap64 (x5 + 1))))) else (none)) else (some x1) := by
  refine LimIs.unique (laws_szResultS.l0L_is x0 x1 x5) (LimIs.step (f := fun k => if x5 < (x0.length : Int) then (if 0 ≤ x5 then ((laws_szResult.f ((rd_T135 x0 x5).f0) ((rd_T135 x0 x5).f1) ((rd_T135 x0 x5).f2.f0) ((rd_T135 x0 x5).f2.f1) ((rd_T135 x0 x5).f2.f2) ((rd_T135 x0 x5).f2.f3) ((rd_T135 x0 x5).f3) ((rd_T135 x0 x5).f4) ((rd_T135 x0 x5).f5) x1).bind fun t107 => (if t107 < 0 then (some (-1)) else (laws_szResultS.l0 k x0 t107 (wrap64 (x5 + 1))))) else (none)) else (some x1)) (by simp only [laws_szResultS.l0]) (fun k => by simp only [laws_szResultS.l0]) ?_)
  repeat' first
    | (with_reducible exact LimIs.const _)
    | (with_reducible exact laws_szResultS.l0L_is _ _ _)
    | (with_reducible refine LimIs.ite ?_ ?_)
    | (with_reducible refine LimIs.bind ?_ (fun _ => ?_))
theorem laws_szResultS.fL_eq (l0 : List (S135)) (a1 : Int) : laws_szResultS.fL l0 a1 = if (wrap64 (a1 - (l0.length : Int))) < 0 then (some (-1)) else (laws_szResultS.l0L l0 (wrap64 (a1 - (l0.length : Int))) 0) := by
  refine LimIs.unique (laws_szResultS.fL_is l0 a1) ?_
  unfold laws_szResultS.f
  repeat' first
    | (with_reducible exact LimIs.const _)
    | (with_reducible exact laws_szResultS.l0L_is _ _ _)
    | (with_reducible refine LimIs.ite ?_ ?_)
    | (with_reducible refine LimIs.bind ?_ (fun _ => ?_))
/-! ### spec_OrderValid -/
noncomputable def spec_OrderValid.j0L (x0 : Int) (x1 : List Int) (x14 : Bool) : Option (Bool) := Lim (fun k => spec_OrderValid.j0 k x0 x1 x14)
theorem spec_OrderValid.j0L_is (x0 : Int) (x1 : List Int) (x14 : Bool) : LimIs (fun k => spec_OrderValid.j0 k x0 x1 x14) (spec_OrderValid.j0L x0 x1 x14) := LimIs.of_mono (fun k r h => (spec_OrderValid.mono_l k).1 x0 x1 x14 r h)
noncomputable def spec_OrderValid.l0L (x0 : Int) (x1 : List Int) (x5 : Int) : Option (Bool) := Lim (fun k => spec_OrderValid.l0 k x0 x1 x5)
theorem spec_OrderValid.l0L_is (x0 : Int) (x1 : List Int) (x5 : Int) : LimIs (fun k => spec_OrderValid.l0 k x0 x1 x5) (spec_OrderValid.l0L x0 x1 x5) := LimIs.of_mono (fun k r h => (spec_OrderValid.mono_l k).2.1 x0 x1 x5 r h)
noncomputable def spec_OrderValid.l1L (x0 : Int) (x1 : List Int) (x5 : Int) (x6 : Int) : Option (Bool) := Lim (fun k => spec_OrderValid.l1 k x0 x1 x5 x6)
theorem spec_OrderValid.l1L_is (x0 : Int) (x1 : List Int) (x5 : Int) (x6 : Int) : LimIs (fun k => spec_OrderValid.l1 k x0 x1 x5 x6) (spec_OrderValid.l1L x0 x1 x5 x6) := LimIs.of_mono (fun k r h => (spec_OrderValid.mono_l k).2.2 x0 x1 x5 x6 r h)
noncomputable def spec_OrderValid.fL (a0 : Int) (l1 : List Int) : Option (Bool) := Lim (fun k => spec_OrderValid.f k a0 l1)
theorem spec_OrderValid.fL_is (a0 : Int) (l1 : List Int) : LimIs (fun k => spec_OrderValid.f k a0 l1) (spec_OrderValid.fL a0 l1) := LimIs.of_mono (fun k r h => spec_OrderValid.mono a0 l1 k r h)
theorem spec_OrderValid.j0L_eq (x0 : Int) (x1 : List Int) (x14 : Bool) : spec_OrderValid.j0L x0 x1 x14 = if x14 = true then (some false) else (spec_OrderValid.l0L x0 x1 0) := by
  refine LimIs.unique (spec_OrderValid.j0L_is x0 x1 x14) (LimIs.step (f := fun k => if x14 = true then (some false) else (spec_OrderValid.l0 k x0 x1 0)) (by simp only [spec_OrderValid.j0]) (fun k => by simp only [spec_OrderValid.j0]) ?_)
  repeat' first
    | (with_reducible exact LimIs.const _)
    | (with_reducible exact spec_OrderValid.l0L_is _ _ _)
    | (with_reducible refine LimIs.ite ?_ ?_)
    | (with_reducible refine LimIs.bind ?_ (fun _ => ?_))
theorem spec_OrderValid.l0L_eq (x0 : Int) (x1 : List Int) (x5 : Int) : spec_OrderValid.l0L x0 x1 x5 = if x5 < (x1.length : Int) then (if 0 ≤ x5 then ((spec_l1In.f (rd x1 x5) 0 (wrap64 (x0 - 1))).bind fun t109 => (if t109 = true then (spec_OrderValid.l1L x0 x1 x5 0) else (some false))) else (none)) else (some true) := by
  refine LimIs.unique (spec_OrderValid.l0L_is x0 x1 x5) (LimIs.step (f := fun k => if x5 < (x1.length : Int) then (if 0 ≤ x5 then ((spec_l1In.f (rd x1 x5) 0 (wrap64 (x0 - 1))).bind fun t109 => (if t109 = true then (spec_OrderValid.l1 k x0 x1 x5 0) else (some false))) else (none)) else (some true)) (by simp only [spec_OrderValid.l0]) (fun k => by simp only [spec_OrderValid.l0]) ?_)
  repeat' first
    | (with_reducible exact LimIs.const _)
    | (with_reducible exact spec_OrderValid.l1L_is _ _ _ _)
    | (with_reducible refine LimIs.ite ?_ ?_)
    | (with_reducible refine LimIs.bind ?_ (fun _ => ?_))
theorem spec_OrderValid.l1L_eq (x0 : Int) (x1 : List Int) (x5 : Int) (x6 : Int) : spec_OrderValid.l1L x0 x1 x5 x6 = if x6 < x5 then (if 0 ≤ x6 then (if x6 < (x1.length : Int) then (if 0 ≤ x5 then (if x5 < (x1.length : Int) then (if (rd x1 x6) = (rd x1 x5) then (some false) else (spec_OrderValid.l1L x0 x1 x5 (wrap64 (x6 + 1)))) else (none)) else (none)) else (none)) else (none)) else (spec_OrderValid.l0L x0 x1 (wrap64 (x5 + 1))) := by
  refine LimIs.unique (spec_OrderValid.l1L_is x0 x1 x5 x6) (LimIs.step (f := fun k => if x6 < x5 then (if 0 ≤ x6 then (if x6 < (x1.length : Int) then (if 0 ≤ x5 then (if x5 < (x1.length : Int) then (if (rd x1 x6) = (rd x1 x5) then (some false) else (spec_OrderValid.l1 k x0 x1 x5 (wrap64 (x6 + 1)))) else (none)) else (none)) else (none)) else (none)) else (spec_OrderValid.l0 k x0 x1 (wrap64 (x5 + 1)))) (by simp only [spec_OrderValid.l1]) (fun k => by simp only [spec_OrderValid.l1]) ?_)
  repeat' first
    | (with_reducible exact LimIs.const _)
    | (with_reducible exact spec_OrderValid.l0L_is _ _ _)
    | (with_reducible exact spec_OrderValid.l1L_is _ _ _ _)
    | (with_reducible refine LimIs.ite ?_ ?_)
    | (with_reducible refine LimIs.bind ?_ (fun _ => ?_))
theorem spec_OrderValid.fL_eq (a0 : Int) (l1 : List Int) : spec_OrderValid.fL a0 l1 = if a0 > 5 then (spec_OrderValid.j0L a0 l1 true) else (spec_OrderValid.j0L a0 l1 ((l1.length : Int) != a0)) := by
  refine LimIs.unique (spec_OrderValid.fL_is a0 l1) ?_
  unfold spec_OrderValid.f
  repeat' first
    | (with_reducible exact LimIs.const _)
    | (with_reducible exact spec_OrderValid.j0L_is _ _ _)
    | (with_reducible refine LimIs.ite ?_ ?_)
    | (with_reducible refine LimIs.bind ?_ (fun _ => ?_))
/-! ### spec_KeyValid -/
noncomputable def spec_KeyValid.l0L (x0 : ByteArray) (x3 : Int) : Option (Bool) := Lim (fun k => spec_KeyValid.l0 k x0 x3)
theorem spec_KeyValid.l0L_is (x0 : ByteArray) (x3 : Int) : LimIs (fun k => spec_KeyValid.l0 k x0 x3) (spec_KeyValid.l0L x0 x3) := LimIs.of_mono (fun k r h => (spec_KeyValid.mono_l k) x0 x3 r h)
noncomputable def spec_KeyValid.fL (a0 : ByteArray) : Option (Bool) := Lim (fun k => spec_KeyValid.f k a0)
theorem spec_KeyValid.fL_is (a0 : ByteArray) : LimIs (fun k => spec_KeyValid.f k a0) (spec_KeyValid.fL a0) := LimIs.of_mono (fun k r h => spec_KeyValid.mono a0 k r h)
theorem spec_KeyValid.l0L_eq (x0 : ByteArray) (x3 : Int) : spec_KeyValid.l0L x0 x3 = if x3 < (x0.size : Int) then (if 0 ≤ x3 then (if (bt x0 x3) < 97 then (some false) else (if (bt x0 x3) > 122 then (some false) else (spec_KeyValid.l0L x0 (wrap64 (x3 + 1))))) else (none)) else (some true) := by
  refine LimIs.unique (spec_KeyValid.l0L_is x0 x3) (LimIs.step (f := fun k => if x3 < (x0.size : Int) then (if 0 ≤ x3 then (if (bt x0 x3) < 97 then (some false) else (if (bt x0 x3) > 122 then (some false) else (spec_KeyValid.l0 k x0 (wrap64 (x3 + 1))))) else (none)) else (some true)) (by simp only [spec_KeyValid.l0]) (fun k => by simp only [spec_KeyValid.l0]) ?_)
  repeat' first
    | (with_reducible exact LimIs.const _)
    | (with_reducible exact spec_KeyValid.l0L_is _ _)
    | (with_reducible refine LimIs.ite ?_ ?_)
    | (with_reducible refine LimIs.bind ?_ (fun _ => ?_))
theorem spec_KeyValid.fL_eq (a0 : ByteArray) : spec_KeyValid.fL a0 = (spec_l1In.f (a0.size : Int) 1 4).bind fun t112 => (if t112 = true then (spec_KeyValid.l0L a0 0) else (some false)) := by
  refine LimIs.unique (spec_KeyValid.fL_is a0) ?_
  unfold spec_KeyValid.f
  repeat' first
    | (with_reducible exact LimIs.const _)
    | (with_reducible exact spec_KeyValid.l0L_is _ _)
    | (with_reducible refine LimIs.ite ?_ ?_)
    | (with_reducible refine LimIs.bind ?_ (fun _ => ?_))
/-! ### spec_CommandValid -/
noncomputable def spec_CommandValid.j0L (x16 : Bool) (x114000 : Int) (x114001 : ByteArray) (x114002 : Int) (x114003 : Int) : Option (Bool) := Lim (fun k => spec_CommandValid.j0 k x16 x114000 x114001 x114002 x114003)
theorem spec_CommandValid.j0L_is (x16 : Bool) (x114000 : Int) (x114001 : ByteArray) (x114002 : Int) (x114003 : Int) : LimIs (fun k => spec_CommandValid.j0 k x16 x114000 x114001 x114002 x114003) (spec_CommandValid.j0L x16 x114000 x114001 x114002 x114003) := LimIs.of_mono (fun k r h => (spec_CommandValid.mono_l k).1 x16 x114000 x114001 x114002 x114003 r h)
noncomputable def spec_CommandValid.j1L (x18 : Int) (x19 : Bool) (x114000 : Int) (x114001 : ByteArray) (x114002 : Int) (x114003 : Int) : Option (Bool) := Lim (fun k => spec_CommandValid.j1 k x18 x19 x114000 x114001 x114002 x114003)
theorem spec_CommandValid.j1L_is (x18 : Int) (x19 : Bool) (x114000 : Int) (x114001 : ByteArray) (x114002 : Int) (x114003 : Int) : LimIs (fun k => spec_CommandValid.j1 k x18 x19 x114000 x114001 x114002 x114003) (spec_CommandValid.j1L x18 x19 x114000 x114001 x114002 x114003) := LimIs.of_mono (fun k r h => (spec_CommandValid.mono_l k).2 x18 x19 x114000 x114001 x114002 x114003 r h)
noncomputable def spec_CommandValid.fL (a0_0 : Int) (a0_1 : ByteArray) (a0_2 : Int) (a0_3 : Int) : Option (Bool) := Lim (fun k => spec_CommandValid.f k a0_0 a0_1 a0_2 a0_3)
theorem spec_CommandValid.fL_is (a0_0 : Int) (a0_1 : ByteArray) (a0_2 : Int) (a0_3 : Int) : LimIs (fun k => spec_CommandValid.f k a0_0 a0_1 a0_2 a0_3) (spec_CommandValid.fL a0_0 a0_1 a0_2 a0_3) := LimIs.of_mono (fun k r h => spec_CommandValid.mono a0_0 a0_1 a0_2 a0_3 k r h)
theorem spec_CommandValid.j0L_eq (x16 : Bool) (x114000 : Int) (x114001 : ByteArray) (x114002 : Int) (x114003 : Int) : spec_CommandValid.j0L x16 x114000 x114001 x114002 x114003 = if x16 = true then (some false) else (if x114000 = 1 then (spec_CommandValid.j1L x114000 (x114000 == 1) x114000 x114001 x114002 x114003) else (if x114000 = 3 then (spec_CommandValid.j1L x114000 (x114000 == 3) x114000 x114001 x114002 x114003) else (spec_CommandValid.j1L x114000 (x114000 == 5) x114000 x114001 x114002 x114003))) := by
  refine LimIs.unique (spec_CommandValid.j0L_is x16 x114000 x114001 x114002 x114003) (LimIs.step (f := fun k => if x16 = true then (some false) else (if x114000 = 1 then (spec_CommandValid.j1 k x114000 (x114000 == 1) x114000 x114001 x114002 x114003) else (if x114000 = 3 then (spec_CommandValid.j1 k x114000 (x114000 == 3) x114000 x114001 x114002 x114003) else (spec_CommandValid.j1 k x114000 (x114000 == 5) x114000 x114001 x114002 x114003)))) (by simp only [spec_CommandValid.j0]) (fun k => by simp only [spec_CommandValid.j0]) ?_)
  repeat' first
    | (with_reducible exact LimIs.const _)
    | (with_reducible exact spec_CommandValid.j1L_is _ _ _ _ _ _)
    | (with_reducible refine LimIs.ite ?_ ?_)
    | (with_reducible refine LimIs.bind ?_ (fun _ => ?_))
theorem spec_CommandValid.j1L_eq (x18 : Int) (x19 : Bool) (x114000 : Int) (x114001 : ByteArray) (x114002 : Int) (x114003 : Int) : spec_CommandValid.j1L x18 x19 x114000 x114001 x114002 x114003 = if x19 = true then (if x114002 = 0 then (some (x114003 == 0)) else (some false)) else (if x18 = 2 then ((spec_l1In.f x114002 0 999).bind fun t115 => (if t115 = true then (some (x114003 == 0)) else (some false))) else (if x18 = 4 then ((spec_l1In.f x114002 0 999).bind fun t116 => (if t116 = true then ((spec_l1In.f x114003 (-1) 999).bind fun t117 => (some t117)) else (some false))) else (some false))) := by
  refine LimIs.unique (spec_CommandValid.j1L_is x18 x19 x114000 x114001 x114002 x114003) (LimIs.step (f := fun k => if x19 = true then (if x114002 = 0 then (some (x114003 == 0)) else (some false)) else (if x18 = 2 then ((spec_l1In.f x114002 0 999).bind fun t115 => (if t115 = true then (some (x114003 == 0)) else (some false))) else (if x18 = 4 then ((spec_l1In.f x114002 0 999).bind fun t116 => (if t116 = true then ((spec_l1In.f x114003 (-1) 999).bind fun t117 => (some t117)) else (some false))) else (some false)))) (by simp only [spec_CommandValid.j1]) (fun k => by simp only [spec_CommandValid.j1]) ?_)
  repeat' first
    | (with_reducible exact LimIs.const _)
    | (with_reducible refine LimIs.ite ?_ ?_)
    | (with_reducible refine LimIs.bind ?_ (fun _ => ?_))
theorem spec_CommandValid.fL_eq (a0_0 : Int) (a0_1 : ByteArray) (a0_2 : Int) (a0_3 : Int) : spec_CommandValid.fL a0_0 a0_1 a0_2 a0_3 = (spec_KeyValid.fL a0_1).bind fun t114 => (if t114 = true then (spec_CommandValid.j0L false a0_0 a0_1 a0_2 a0_3) else (if a0_0 = 5 then (spec_CommandValid.j0L (a0_1.toList != ([] : List UInt8)) a0_0 a0_1 a0_2 a0_3) else (spec_CommandValid.j0L true a0_0 a0_1 a0_2 a0_3))) := by
  refine LimIs.unique (spec_CommandValid.fL_is a0_0 a0_1 a0_2 a0_3) ?_
  unfold spec_CommandValid.f
  repeat' first
    | (with_reducible exact LimIs.const _)
    | (with_reducible exact spec_CommandValid.j0L_is _ _ _ _ _)
    | (with_reducible exact spec_KeyValid.fL_is _)
    | (with_reducible refine LimIs.ite ?_ ?_)
    | (with_reducible refine LimIs.bind ?_ (fun _ => ?_))
/-! ### spec_l25Wish -/
noncomputable def spec_l25Wish.fL (a0_0 : Int) (a0_1 : ByteArray) (a0_2 : Int) (a0_3 : Int) : Option (Bool) := Lim (fun k => spec_l25Wish.f k a0_0 a0_1 a0_2 a0_3)
theorem spec_l25Wish.fL_is (a0_0 : Int) (a0_1 : ByteArray) (a0_2 : Int) (a0_3 : Int) : LimIs (fun k => spec_l25Wish.f k a0_0 a0_1 a0_2 a0_3) (spec_l25Wish.fL a0_0 a0_1 a0_2 a0_3) := LimIs.of_mono (fun k r h => spec_l25Wish.mono a0_0 a0_1 a0_2 a0_3 k r h)
theorem spec_l25Wish.fL_eq (a0_0 : Int) (a0_1 : ByteArray) (a0_2 : Int) (a0_3 : Int) : spec_l25Wish.fL a0_0 a0_1 a0_2 a0_3 = (spec_CommandValid.fL a0_0 a0_1 a0_2 a0_3).bind fun t119 => (if t119 = true then (some (a0_0 != 5)) else (some false)) := by
  refine LimIs.unique (spec_l25Wish.fL_is a0_0 a0_1 a0_2 a0_3) ?_
  unfold spec_l25Wish.f
  repeat' first
    | (with_reducible exact LimIs.const _)
    | (with_reducible exact spec_CommandValid.fL_is _ _ _ _)
    | (with_reducible refine LimIs.ite ?_ ?_)
    | (with_reducible refine LimIs.bind ?_ (fun _ => ?_))
/-! ### spec_ResultValid -/
noncomputable def spec_ResultValid.fL (a0_0 : Int) (a0_1 : Int) (a0_2 : Int) (a0_3 : ByteArray) (a0_4 : Int) (a0_5 : Int) (a0_6 : Int) (a0_7 : Int) (a0_8 : Int) : Option (Bool) := Lim (fun k => spec_ResultValid.f k a0_0 a0_1 a0_2 a0_3 a0_4 a0_5 a0_6 a0_7 a0_8)
theorem spec_ResultValid.fL_is (a0_0 : Int) (a0_1 : Int) (a0_2 : Int) (a0_3 : ByteArray) (a0_4 : Int) (a0_5 : Int) (a0_6 : Int) (a0_7 : Int) (a0_8 : Int) : LimIs (fun k => spec_ResultValid.f k a0_0 a0_1 a0_2 a0_3 a0_4 a0_5 a0_6 a0_7 a0_8) (spec_ResultValid.fL a0_0 a0_1 a0_2 a0_3 a0_4 a0_5 a0_6 a0_7 a0_8) := LimIs.of_mono (fun k r h => spec_ResultValid.mono a0_0 a0_1 a0_2 a0_3 a0_4 a0_5 a0_6 a0_7 a0_8 k r h)
theorem spec_ResultValid.fL_eq (a0_0 : Int) (a0_1 : Int) (a0_2 : Int) (a0_3 : ByteArray) (a0_4 : Int) (a0_5 : Int) (a0_6 : Int) (a0_7 : Int) (a0_8 : Int) : spec_ResultValid.fL a0_0 a0_1 a0_2 a0_3 a0_4 a0_5 a0_6 a0_7 a0_8 = (spec_l1In.f a0_0 1 3).bind fun t121 => (if t121 = true then ((spec_l1In.f a0_1 1 999).bind fun t122 => (if t122 = true then ((spec_l25Wish.fL a0_2 a0_3 a0_4 a0_5).bind fun t123 => (if t123 = true then ((spec_l1In.f a0_6 (-4) 999).bind fun t124 => (if t124 = true then ((spec_l1In.f a0_8 0 200).bind fun t125 => (if t125 = true then ((spec_l1In.f a0_7 0 a0_8).bind fun t126 => (some t126)) else (some false))) else (some false))) else (some false))) else (some false))) else (some false)) := by
  refine LimIs.unique (spec_ResultValid.fL_is a0_0 a0_1 a0_2 a0_3 a0_4 a0_5 a0_6 a0_7 a0_8) ?_
  unfold spec_ResultValid.f
  repeat' first
    | (with_reducible exact LimIs.const _)
    | (with_reducible exact spec_l25Wish.fL_is _ _ _ _)
    | (with_reducible refine LimIs.ite ?_ ?_)
    | (with_reducible refine LimIs.bind ?_ (fun _ => ?_))
/-! ### spec_EntryValid -/
noncomputable def spec_EntryValid.fL (a0_0 : Int) (a0_1 : Int) (a0_2 : Int) (a0_3 : ByteArray) (a0_4 : Int) (a0_5 : Int) : Option (Bool) := Lim (fun k => spec_EntryValid.f k a0_0 a0_1 a0_2 a0_3 a0_4 a0_5)
theorem spec_EntryValid.fL_is (a0_0 : Int) (a0_1 : Int) (a0_2 : Int) (a0_3 : ByteArray) (a0_4 : Int) (a0_5 : Int) : LimIs (fun k => spec_EntryValid.f k a0_0 a0_1 a0_2 a0_3 a0_4 a0_5) (spec_EntryValid.fL a0_0 a0_1 a0_2 a0_3 a0_4 a0_5) := LimIs.of_mono (fun k r h => spec_EntryValid.mono a0_0 a0_1 a0_2 a0_3 a0_4 a0_5 k r h)
theorem spec_EntryValid.fL_eq (a0_0 : Int) (a0_1 : Int) (a0_2 : Int) (a0_3 : ByteArray) (a0_4 : Int) (a0_5 : Int) : spec_EntryValid.fL a0_0 a0_1 a0_2 a0_3 a0_4 a0_5 = (spec_l1In.f a0_0 0 3).bind fun t128 => (if t128 = true then ((spec_l1In.f a0_1 1 999).bind fun t129 => (if t129 = true then ((spec_CommandValid.fL a0_2 a0_3 a0_4 a0_5).bind fun t130 => (some t130)) else (some false))) else (some false)) := by
  refine LimIs.unique (spec_EntryValid.fL_is a0_0 a0_1 a0_2 a0_3 a0_4 a0_5) ?_
  unfold spec_EntryValid.f
  repeat' first
    | (with_reducible exact LimIs.const _)
    | (with_reducible exact spec_CommandValid.fL_is _ _ _ _)
    | (with_reducible refine LimIs.ite ?_ ?_)
    | (with_reducible refine LimIs.bind ?_ (fun _ => ?_))
/-! ### spec_PairsValid -/
noncomputable def spec_PairsValid.l0L (x0 : List (S29)) (x3 : Int) : Option (Bool) := Lim (fun k => spec_PairsValid.l0 k x0 x3)
theorem spec_PairsValid.l0L_is (x0 : List (S29)) (x3 : Int) : LimIs (fun k => spec_PairsValid.l0 k x0 x3) (spec_PairsValid.l0L x0 x3) := LimIs.of_mono (fun k r h => (spec_PairsValid.mono_l k) x0 x3 r h)
noncomputable def spec_PairsValid.fL (l0 : List (S29)) : Option (Bool) := Lim (fun k => spec_PairsValid.f k l0)
theorem spec_PairsValid.fL_is (l0 : List (S29)) : LimIs (fun k => spec_PairsValid.f k l0) (spec_PairsValid.fL l0) := LimIs.of_mono (fun k r h => spec_PairsValid.mono l0 k r h)
theorem spec_PairsValid.l0L_eq (x0 : List (S29)) (x3 : Int) : spec_PairsValid.l0L x0 x3 = if x3 < (x0.length : Int) then (if 0 ≤ x3 then ((spec_KeyValid.fL ((rd_T29 x0 x3).f0)).bind fun t132 => (if t132 = true then ((spec_l1In.f ((rd_T29 x0 x3).f1) 0 999).bind fun t134 => (if t134 = true then (if x3 > 0 then (if 0 ≤ (wrap64 (x3 - 1)) then (if (wrap64 (x3 - 1)) < (x0.length : Int) then (if ((Op.bytesLess (((rd_T29 x0 (wrap64 (x3 - 1))).f0).toList) (((rd_T29 x0 x3).f0).toList)) = true) then (spec_PairsValid.l0L x0 (wrap64 (x3 + 1))) else (some false)) else (none)) else (none)) else (spec_PairsValid.l0L x0 (wrap64 (x3 + 1)))) else (some false))) else (some false))) else (none)) else (some true) := by
  refine LimIs.unique (spec_PairsValid.l0L_is x0 x3) (LimIs.step (f := fun k => if x3 < (x0.length : Int) then (if 0 ≤ x3 then ((spec_KeyValid.f k ((rd_T29 x0 x3).f0)).bind fun t132 => (if t132 = true then ((spec_l1In.f ((rd_T29 x0 x3).f1) 0 999).bind fun t134 => (if t134 = true then (if x3 > 0 then (if 0 ≤ (wrap64 (x3 - 1)) then (if (wrap64 (x3 - 1)) < (x0.length : Int) then (if ((Op.bytesLess (((rd_T29 x0 (wrap64 (x3 - 1))).f0).toList) (((rd_T29 x0 x3).f0).toList)) = true) then (spec_PairsValid.l0 k x0 (wrap64 (x3 + 1))) else (some false)) else (none)) else (none)) else (spec_PairsValid.l0 k x0 (wrap64 (x3 + 1)))) else (some false))) else (some false))) else (none)) else (some true)) (by simp only [spec_PairsValid.l0]) (fun k => by simp only [spec_PairsValid.l0]) ?_)
  repeat' first
    | (with_reducible exact LimIs.const _)
    | (with_reducible exact spec_KeyValid.fL_is _)
    | (with_reducible exact spec_PairsValid.l0L_is _ _)
    | (with_reducible refine LimIs.ite ?_ ?_)
    | (with_reducible refine LimIs.bind ?_ (fun _ => ?_))
theorem spec_PairsValid.fL_eq (l0 : List (S29)) : spec_PairsValid.fL l0 = if (l0.length : Int) > 48 then (some false) else (spec_PairsValid.l0L l0 0) := by
  refine LimIs.unique (spec_PairsValid.fL_is l0) ?_
  unfold spec_PairsValid.f
  repeat' first
    | (with_reducible exact LimIs.const _)
    | (with_reducible exact spec_PairsValid.l0L_is _ _)
    | (with_reducible refine LimIs.ite ?_ ?_)
    | (with_reducible refine LimIs.bind ?_ (fun _ => ?_))
/-! ### spec_l4Place -/
noncomputable def spec_l4Place.l0L (x0 : List (S29)) (x1 : ByteArray) (x5 : Int) : Option (Int) := Lim (fun k => spec_l4Place.l0 k x0 x1 x5)
theorem spec_l4Place.l0L_is (x0 : List (S29)) (x1 : ByteArray) (x5 : Int) : LimIs (fun k => spec_l4Place.l0 k x0 x1 x5) (spec_l4Place.l0L x0 x1 x5) := LimIs.of_mono (fun k r h => (spec_l4Place.mono_l k) x0 x1 x5 r h)
noncomputable def spec_l4Place.fL (l0 : List (S29)) (a1 : ByteArray) : Option (Int) := Lim (fun k => spec_l4Place.f k l0 a1)
theorem spec_l4Place.fL_is (l0 : List (S29)) (a1 : ByteArray) : LimIs (fun k => spec_l4Place.f k l0 a1) (spec_l4Place.fL l0 a1) := LimIs.of_mono (fun k r h => spec_l4Place.mono l0 a1 k r h)
theorem spec_l4Place.l0L_eq (x0 : List (S29)) (x1 : ByteArray) (x5 : Int) : spec_l4Place.l0L x0 x1 x5 = if x5 < (x0.length : Int) then (if 0 ≤ x5 then (if (Op.bytesLess (((rd_T29 x0 x5).f0).toList) x1.toList) = true then (spec_l4Place.l0L x0 x1 (wrap64 (x5 + 1))) else (some x5)) else (none)) else (some x5) := by
  refine LimIs.unique (spec_l4Place.l0L_is x0 x1 x5) (LimIs.step (f := fun k => if x5 < (x0.length : Int) then (if 0 ≤ x5 then (if (Op.bytesLess (((rd_T29 x0 x5).f0).toList) x1.toList) = true then (spec_l4Place.l0 k x0 x1 (wrap64 (x5 + 1))) else (some x5)) else (none)) else (some x5)) (by simp only [spec_l4Place.l0]) (fun k => by simp only [spec_l4Place.l0]) ?_)
  repeat' first
    | (with_reducible exact LimIs.const _)
    | (with_reducible exact spec_l4Place.l0L_is _ _ _)
    | (with_reducible refine LimIs.ite ?_ ?_)
    | (with_reducible refine LimIs.bind ?_ (fun _ => ?_))
theorem spec_l4Place.fL_eq (l0 : List (S29)) (a1 : ByteArray) : spec_l4Place.fL l0 a1 = spec_l4Place.l0L l0 a1 0 := by
  refine LimIs.unique (spec_l4Place.fL_is l0 a1) ?_
  unfold spec_l4Place.f
  repeat' first
    | (with_reducible exact LimIs.const _)
    | (with_reducible exact spec_l4Place.l0L_is _ _ _)
    | (with_reducible refine LimIs.ite ?_ ?_)
    | (with_reducible refine LimIs.bind ?_ (fun _ => ?_))
/-! ### spec_PairGet -/
noncomputable def spec_PairGet.fL (l0 : List (S29)) (a1 : ByteArray) : Option (Int) := Lim (fun k => spec_PairGet.f k l0 a1)
theorem spec_PairGet.fL_is (l0 : List (S29)) (a1 : ByteArray) : LimIs (fun k => spec_PairGet.f k l0 a1) (spec_PairGet.fL l0 a1) := LimIs.of_mono (fun k r h => spec_PairGet.mono l0 a1 k r h)
theorem spec_PairGet.fL_eq (l0 : List (S29)) (a1 : ByteArray) : spec_PairGet.fL l0 a1 = (spec_l4Place.fL l0 a1).bind fun t138 => ((spec_PairsValid.fL l0).bind fun t139 => (if t139 = true then (if t138 = (l0.length : Int) then (some (-1)) else (if 0 ≤ t138 then (if t138 < (l0.length : Int) then (if ((rd_T29 l0 t138).f0).toList = a1.toList then (some ((rd_T29 l0 t138).f1)) else (some (-1))) else (none)) else (none))) else (some (-1)))) := by
  refine LimIs.unique (spec_PairGet.fL_is l0 a1) ?_
  unfold spec_PairGet.f
  repeat' first
    | (with_reducible exact LimIs.const _)
    | (with_reducible exact spec_PairsValid.fL_is _)
    | (with_reducible exact spec_l4Place.fL_is _ _)
    | (with_reducible refine LimIs.ite ?_ ?_)
    | (with_reducible refine LimIs.bind ?_ (fun _ => ?_))
/-! ### spec_PairDrop -/
noncomputable def spec_PairDrop.fL (l0 : List (S29)) (a1 : ByteArray) : Option ((List (S29)) × Bool) := Lim (fun k => spec_PairDrop.f k l0 a1)
theorem spec_PairDrop.fL_is (l0 : List (S29)) (a1 : ByteArray) : LimIs (fun k => spec_PairDrop.f k l0 a1) (spec_PairDrop.fL l0 a1) := LimIs.of_mono (fun k r h => spec_PairDrop.mono l0 a1 k r h)
theorem spec_PairDrop.fL_eq (l0 : List (S29)) (a1 : ByteArray) : spec_PairDrop.fL l0 a1 = (some (([] : List (S29)) : List (S29))).bind fun y142 => ((spec_PairsValid.fL l0).bind fun t145 => (if t145 = true then ((spec_l4Place.fL l0 a1).bind fun t146 => (if t146 = (l0.length : Int) then (if y142.length + l0.length < 5864062014805 then (some ((y142 ++ l0), false)) else (none)) else (if 0 ≤ t146 then (if t146 < (l0.length : Int) then (if ((rd_T29 l0 t146).f0).toList = a1.toList then (if t146 ≤ (l0.length : Int) then ((some (l0.take (t146 : Int).toNat : List (S29))).bind fun y151 => (if y142.length + y151.length < 5864062014805 then ((some (y142 ++ y151 : List (S29))).bind fun y155 => (if 0 ≤ (wrap64 (t146 + 1)) then (if (wrap64 (t146 + 1)) ≤ (l0.length : Int) then ((some (l0.drop ((wrap64 (t146 + 1)) : Int).toNat : List (S29))).bind fun y158 => (if y155.length + y158.length < 5864062014805 then (some ((y155 ++ y158), true)) else (none))) else (none)) else (none))) else (none))) else (none)) else (if y142.length + l0.length < 5864062014805 then (some ((y142 ++ l0), false)) else (none))) else (none)) else (none)))) else (some (y142, false)))) := by
  refine LimIs.unique (spec_PairDrop.fL_is l0 a1) ?_
  unfold spec_PairDrop.f
  repeat' first
    | (with_reducible exact LimIs.const _)
    | (with_reducible exact spec_PairsValid.fL_is _)
    | (with_reducible exact spec_l4Place.fL_is _ _)
    | (with_reducible refine LimIs.ite ?_ ?_)
    | (with_reducible refine LimIs.bind ?_ (fun _ => ?_))
/-! ### spec_PairPut -/
noncomputable def spec_PairPut.j0L (x0 : List (S29)) (x1 : ByteArray) (x2 : Int) (x8 : List (S29)) (x23 : Bool) : Option ((List (S29)) × Bool) := Lim (fun k => spec_PairPut.j0 k x0 x1 x2 x8 x23)
theorem spec_PairPut.j0L_is (x0 : List (S29)) (x1 : ByteArray) (x2 : Int) (x8 : List (S29)) (x23 : Bool) : LimIs (fun k => spec_PairPut.j0 k x0 x1 x2 x8 x23) (spec_PairPut.j0L x0 x1 x2 x8 x23) := LimIs.of_mono (fun k r h => (spec_PairPut.mono_l k).1 x0 x1 x2 x8 x23 r h)
noncomputable def spec_PairPut.j1L (x0 : List (S29)) (x1 : ByteArray) (x2 : Int) (x8 : List (S29)) (x9 : Int) (x40 : Bool) : Option ((List (S29)) × Bool) := Lim (fun k => spec_PairPut.j1 k x0 x1 x2 x8 x9 x40)
theorem spec_PairPut.j1L_is (x0 : List (S29)) (x1 : ByteArray) (x2 : Int) (x8 : List (S29)) (x9 : Int) (x40 : Bool) : LimIs (fun k => spec_PairPut.j1 k x0 x1 x2 x8 x9 x40) (spec_PairPut.j1L x0 x1 x2 x8 x9 x40) := LimIs.of_mono (fun k r h => (spec_PairPut.mono_l k).2 x0 x1 x2 x8 x9 x40 r h)
noncomputable def spec_PairPut.fL (l0 : List (S29)) (a1 : ByteArray) (a2 : Int) : Option ((List (S29)) × Bool) := Lim (fun k => spec_PairPut.f k l0 a1 a2)
theorem spec_PairPut.fL_is (l0 : List (S29)) (a1 : ByteArray) (a2 : Int) : LimIs (fun k => spec_PairPut.f k l0 a1 a2) (spec_PairPut.fL l0 a1 a2) := LimIs.of_mono (fun k r h => spec_PairPut.mono l0 a1 a2 k r h)
theorem spec_PairPut.j0L_eq (x0 : List (S29)) (x1 : ByteArray) (x2 : Int) (x8 : List (S29)) (x23 : Bool) : spec_PairPut.j0L x0 x1 x2 x8 x23 = if x23 = true then (some (x8, false)) else ((spec_l4Place.fL x0 x1).bind fun t174 => (if t174 < (x0.length : Int) then (if 0 ≤ t174 then (spec_PairPut.j1L x0 x1 x2 x8 t174 (((rd_T29 x0 t174).f0).toList == x1.toList)) else (none)) else (spec_PairPut.j1L x0 x1 x2 x8 t174 false))) := by
  refine LimIs.unique (spec_PairPut.j0L_is x0 x1 x2 x8 x23) (LimIs.step (f := fun k => if x23 = true then (some (x8, false)) else ((spec_l4Place.f k x0 x1).bind fun t174 => (if t174 < (x0.length : Int) then (if 0 ≤ t174 then (spec_PairPut.j1 k x0 x1 x2 x8 t174 (((rd_T29 x0 t174).f0).toList == x1.toList)) else (none)) else (spec_PairPut.j1 k x0 x1 x2 x8 t174 false)))) (by simp only [spec_PairPut.j0]) (fun k => by simp only [spec_PairPut.j0]) ?_)
  repeat' first
    | (with_reducible exact LimIs.const _)
    | (with_reducible exact spec_PairPut.j1L_is _ _ _ _ _ _)
    | (with_reducible exact spec_l4Place.fL_is _ _)
    | (with_reducible refine LimIs.ite ?_ ?_)
    | (with_reducible refine LimIs.bind ?_ (fun _ => ?_))
theorem spec_PairPut.j1L_eq (x0 : List (S29)) (x1 : ByteArray) (x2 : Int) (x8 : List (S29)) (x9 : Int) (x40 : Bool) : spec_PairPut.j1L x0 x1 x2 x8 x9 x40 = if x40 = true then (if x8.length + x0.length < 5864062014805 then ((some (x8 ++ x0 : List (S29))).bind fun y176 => (if 0 ≤ x9 then (if x9 < (y176.length : Int) then (some ((y176.set (x9 : Int).toNat (⟨(rd_T29 y176 x9).f0, x2⟩ : S29)), true)) else (none)) else (none))) else (none)) else (if (x0.length : Int) ≥ 48 then (if x8.length + x0.length < 5864062014805 then (some ((x8 ++ x0), false)) else (none)) else (if 0 ≤ x9 then (if x9 ≤ (x0.length : Int) then ((some (x0.take (x9 : Int).toNat : List (S29))).bind fun y183 => (if x8.length + y183.length < 5864062014805 then ((some (x8 ++ y183 : List (S29))).bind fun y187 => (if y187.length < 5864062014805 then ((some (y187 ++ [(⟨x1, x2⟩ : S29)] : List (S29))).bind fun y190 => ((some (x0.drop (x9 : Int).toNat : List (S29))).bind fun y193 => (if y190.length + y193.length < 5864062014805 then (some ((y190 ++ y193), true)) else (none)))) else (none))) else (none))) else (none)) else (none))) := by
  refine LimIs.unique (spec_PairPut.j1L_is x0 x1 x2 x8 x9 x40) (LimIs.step (f := fun k => if x40 = true then (if x8.length + x0.length < 5864062014805 then ((some (x8 ++ x0 : List (S29))).bind fun y176 => (if 0 ≤ x9 then (if x9 < (y176.length : Int) then (some ((y176.set (x9 : Int).toNat (⟨(rd_T29 y176 x9).f0, x2⟩ : S29)), true)) else (none)) else (none))) else (none)) else (if (x0.length : Int) ≥ 48 then (if x8.length + x0.length < 5864062014805 then (some ((x8 ++ x0), false)) else (none)) else (if 0 ≤ x9 then (if x9 ≤ (x0.length : Int) then ((some (x0.take (x9 : Int).toNat : List (S29))).bind fun y183 => (if x8.length + y183.length < 5864062014805 then ((some (x8 ++ y183 : List (S29))).bind fun y187 => (if y187.length < 5864062014805 then ((some (y187 ++ [(⟨x1, x2⟩ : S29)] : List (S29))).bind fun y190 => ((some (x0.drop (x9 : Int).toNat : List (S29))).bind fun y193 => (if y190.length + y193.length < 5864062014805 then (some ((y190 ++ y193), true)) else (none)))) else (none))) else (none))) else (none)) else (none)))) (by simp only [spec_PairPut.j1]) (fun k => by simp only [spec_PairPut.j1]) ?_)
  repeat' first
    | (with_reducible exact LimIs.const _)
    | (with_reducible refine LimIs.ite ?_ ?_)
    | (with_reducible refine LimIs.bind ?_ (fun _ => ?_))
theorem spec_PairPut.fL_eq (l0 : List (S29)) (a1 : ByteArray) (a2 : Int) : spec_PairPut.fL l0 a1 a2 = (some (([] : List (S29)) : List (S29))).bind fun y168 => ((spec_PairsValid.fL l0).bind fun t171 => (if t171 = true then ((spec_KeyValid.fL a1).bind fun t172 => (if t172 = true then ((spec_l1In.f a2 0 999).bind fun t173 => (spec_PairPut.j0L l0 a1 a2 y168 (!t173))) else (spec_PairPut.j0L l0 a1 a2 y168 true))) else (spec_PairPut.j0L l0 a1 a2 y168 true))) := by
  refine LimIs.unique (spec_PairPut.fL_is l0 a1 a2) ?_
  unfold spec_PairPut.f
  repeat' first
    | (with_reducible exact LimIs.const _)
    | (with_reducible exact spec_KeyValid.fL_is _)
    | (with_reducible exact spec_PairPut.j0L_is _ _ _ _ _)
    | (with_reducible exact spec_PairsValid.fL_is _)
    | (with_reducible refine LimIs.ite ?_ ?_)
    | (with_reducible refine LimIs.bind ?_ (fun _ => ?_))
/-! ### spec_l29one -/
noncomputable def spec_l29one.fL (l0 : List (S29)) (a1_0 : Int) (a1_1 : Int) (a1_2 : Int) (a1_3 : ByteArray) (a1_4 : Int) (a1_5 : Int) (a1_6 : Int) : Option ((List (S29)) × Bool) := Lim (fun k => spec_l29one.f k l0 a1_0 a1_1 a1_2 a1_3 a1_4 a1_5 a1_6)
theorem spec_l29one.fL_is (l0 : List (S29)) (a1_0 : Int) (a1_1 : Int) (a1_2 : Int) (a1_3 : ByteArray) (a1_4 : Int) (a1_5 : Int) (a1_6 : Int) : LimIs (fun k => spec_l29one.f k l0 a1_0 a1_1 a1_2 a1_3 a1_4 a1_5 a1_6) (spec_l29one.fL l0 a1_0 a1_1 a1_2 a1_3 a1_4 a1_5 a1_6) := LimIs.of_mono (fun k r h => spec_l29one.mono l0 a1_0 a1_1 a1_2 a1_3 a1_4 a1_5 a1_6 k r h)
theorem spec_l29one.fL_eq (l0 : List (S29)) (a1_0 : Int) (a1_1 : Int) (a1_2 : Int) (a1_3 : ByteArray) (a1_4 : Int) (a1_5 : Int) (a1_6 : Int) : spec_l29one.fL l0 a1_0 a1_1 a1_2 a1_3 a1_4 a1_5 a1_6 = (spec_PairGet.fL l0 a1_3).bind fun t201 => (if a1_6 = (-2) then (some (l0, true)) else (if a1_6 = t201 then (if a1_2 = 3 then ((spec_PairDrop.fL l0 a1_3).bind fun bt202 => (some (bt202.1, true))) else (if a1_2 = 4 then (if a1_5 = t201 then ((spec_PairPut.fL l0 a1_3 a1_4).bind fun bt206 => (some (bt206.1, bt206.2))) else (some (l0, true))) else (if a1_2 = 1 then (some (l0, true)) else ((spec_PairPut.fL l0 a1_3 a1_4).bind fun bt210 => (some (bt210.1, bt210.2)))))) else (some (l0, false)))) := by
  refine LimIs.unique (spec_l29one.fL_is l0 a1_0 a1_1 a1_2 a1_3 a1_4 a1_5 a1_6) ?_
  unfold spec_l29one.f
  repeat' first
    | (with_reducible exact LimIs.const _)
    | (with_reducible exact spec_PairDrop.fL_is _ _)
    | (with_reducible exact spec_PairGet.fL_is _ _)
    | (with_reducible exact spec_PairPut.fL_is _ _ _)
    | (with_reducible refine LimIs.ite ?_ ?_)
    | (with_reducible refine LimIs.bind ?_ (fun _ => ?_))
/-! ### spec_RunHistory -/
noncomputable def spec_RunHistory.l0L (x0 : List (S140)) (x4 : List (S29)) (x5 : Int) : Option ((List (S29)) × Bool) := Lim (fun k => spec_RunHistory.l0 k x0 x4 x5)
theorem spec_RunHistory.l0L_is (x0 : List (S140)) (x4 : List (S29)) (x5 : Int) : LimIs (fun k => spec_RunHistory.l0 k x0 x4 x5) (spec_RunHistory.l0L x0 x4 x5) := LimIs.of_mono (fun k r h => (spec_RunHistory.mono_l k).1 x0 x4 x5 r h)
noncomputable def spec_RunHistory.l1L (x0 : List (S140)) (x4 : List (S29)) (x6 : Int) : Option ((List (S29)) × Bool) := Lim (fun k => spec_RunHistory.l1 k x0 x4 x6)
theorem spec_RunHistory.l1L_is (x0 : List (S140)) (x4 : List (S29)) (x6 : Int) : LimIs (fun k => spec_RunHistory.l1 k x0 x4 x6) (spec_RunHistory.l1L x0 x4 x6) := LimIs.of_mono (fun k r h => (spec_RunHistory.mono_l k).2 x0 x4 x6 r h)
noncomputable def spec_RunHistory.fL (l0 : List (S140)) : Option ((List (S29)) × Bool) := Lim (fun k => spec_RunHistory.f k l0)
theorem spec_RunHistory.fL_is (l0 : List (S140)) : LimIs (fun k => spec_RunHistory.f k l0) (spec_RunHistory.fL l0) := LimIs.of_mono (fun k r h => spec_RunHistory.mono l0 k r h)
theorem spec_RunHistory.l0L_eq (x0 : List (S140)) (x4 : List (S29)) (x5 : Int) : spec_RunHistory.l0L x0 x4 x5 = if x5 < (x0.length : Int) then (if x5 ≥ 200 then (some ((([] : List (S29))), false)) else (if 0 ≤ x5 then ((spec_EntryValid.fL ((rd_T140 x0 x5).f0.f0) ((rd_T140 x0 x5).f0.f1) ((rd_T140 x0 x5).f0.f2.f0) ((rd_T140 x0 x5).f0.f2.f1) ((rd_T140 x0 x5).f0.f2.f2) ((rd_T140 x0 x5).f0.f2.f3)).bind fun t221 => (if t221 = true then (if ((rd_T140 x0 x5).f0.f2.f0) = 5 then (some ((([] : List (S29))), false)) else (spec_RunHistory.l0L x0 x4 (wrap64 (x5 + 1)))) else (some ((([] : List (S29))), false)))) else (none))) else (spec_RunHistory.l1L x0 x4 0) := by
  refine LimIs.unique (spec_RunHistory.l0L_is x0 x4 x5) (LimIs.step (f := fun k => if x5 < (x0.length : Int) then (if x5 ≥ 200 then (some ((([] : List (S29))), false)) else (if 0 ≤ x5 then ((spec_EntryValid.f k ((rd_T140 x0 x5).f0.f0) ((rd_T140 x0 x5).f0.f1) ((rd_T140 x0 x5).f0.f2.f0) ((rd_T140 x0 x5).f0.f2.f1) ((rd_T140 x0 x5).f0.f2.f2) ((rd_T140 x0 x5).f0.f2.f3)).bind fun t221 => (if t221 = true then (if ((rd_T140 x0 x5).f0.f2.f0) = 5 then (some ((([] : List (S29))), false)) else (spec_RunHistory.l0 k x0 x4 (wrap64 (x5 + 1)))) else (some ((([] : List (S29))), false)))) else (none))) else (spec_RunHistory.l1 k x0 x4 0)) (by simp only [spec_RunHistory.l0]) (fun k => by simp only [spec_RunHistory.l0]) ?_)
  repeat' first
    | (with_reducible exact LimIs.const _)
    | (with_reducible exact spec_EntryValid.fL_is _ _ _ _ _ _)
    | (with_reducible exact spec_RunHistory.l0L_is _ _ _)
    | (with_reducible exact spec_RunHistory.l1L_is _ _ _)
    | (with_reducible refine LimIs.ite ?_ ?_)
    | (with_reducible refine LimIs.bind ?_ (fun _ => ?_))
theorem spec_RunHistory.l1L_eq (x0 : List (S140)) (x4 : List (S29)) (x6 : Int) : spec_RunHistory.l1L x0 x4 x6 = if x6 < (x0.length : Int) then (if 0 ≤ x6 then ((spec_l29one.fL x4 ((rd_T140 x0 x6).f0.f0) ((rd_T140 x0 x6).f0.f1) ((rd_T140 x0 x6).f0.f2.f0) ((rd_T140 x0 x6).f0.f2.f1) ((rd_T140 x0 x6).f0.f2.f2) ((rd_T140 x0 x6).f0.f2.f3) ((rd_T140 x0 x6).f1)).bind fun bt230 => (if bt230.2 = true then (spec_RunHistory.l1L x0 bt230.1 (wrap64 (x6 + 1))) else (some ((([] : List (S29))), false)))) else (none)) else (some (x4, true)) := by
  refine LimIs.unique (spec_RunHistory.l1L_is x0 x4 x6) (LimIs.step (f := fun k => if x6 < (x0.length : Int) then (if 0 ≤ x6 then ((spec_l29one.f k x4 ((rd_T140 x0 x6).f0.f0) ((rd_T140 x0 x6).f0.f1) ((rd_T140 x0 x6).f0.f2.f0) ((rd_T140 x0 x6).f0.f2.f1) ((rd_T140 x0 x6).f0.f2.f2) ((rd_T140 x0 x6).f0.f2.f3) ((rd_T140 x0 x6).f1)).bind fun bt230 => (if bt230.2 = true then (spec_RunHistory.l1 k x0 bt230.1 (wrap64 (x6 + 1))) else (some ((([] : List (S29))), false)))) else (none)) else (some (x4, true))) (by simp only [spec_RunHistory.l1]) (fun k => by simp only [spec_RunHistory.l1]) ?_)
  repeat' first
    | (with_reducible exact LimIs.const _)
    | (with_reducible exact spec_RunHistory.l1L_is _ _ _)
    | (with_reducible exact spec_l29one.fL_is _ _ _ _ _ _ _ _)
    | (with_reducible refine LimIs.ite ?_ ?_)
    | (with_reducible refine LimIs.bind ?_ (fun _ => ?_))
theorem spec_RunHistory.fL_eq (l0 : List (S140)) : spec_RunHistory.fL l0 = spec_RunHistory.l0L l0 (([] : List (S29))) 0 := by
  refine LimIs.unique (spec_RunHistory.fL_is l0) ?_
  unfold spec_RunHistory.f
  repeat' first
    | (with_reducible exact LimIs.const _)
    | (with_reducible exact spec_RunHistory.l0L_is _ _ _)
    | (with_reducible refine LimIs.ite ?_ ?_)
    | (with_reducible refine LimIs.bind ?_ (fun _ => ?_))
/-! ### spec_RepliesRight -/
noncomputable def spec_RepliesRight.l0L (x0 : List (S42)) (x1 : List Int) (x5 : List (S140)) (x6 : Int) : Option (Bool) := Lim (fun k => spec_RepliesRight.l0 k x0 x1 x5 x6)
theorem spec_RepliesRight.l0L_is (x0 : List (S42)) (x1 : List Int) (x5 : List (S140)) (x6 : Int) : LimIs (fun k => spec_RepliesRight.l0 k x0 x1 x5 x6) (spec_RepliesRight.l0L x0 x1 x5 x6) := LimIs.of_mono (fun k r h => (spec_RepliesRight.mono_l k) x0 x1 x5 x6 r h)
noncomputable def spec_RepliesRight.fL (l0 : List (S42)) (l1 : List Int) : Option (Bool) := Lim (fun k => spec_RepliesRight.f k l0 l1)
theorem spec_RepliesRight.fL_is (l0 : List (S42)) (l1 : List Int) : LimIs (fun k => spec_RepliesRight.f k l0 l1) (spec_RepliesRight.fL l0 l1) := LimIs.of_mono (fun k r h => spec_RepliesRight.mono l0 l1 k r h)
theorem spec_RepliesRight.l0L_eq (x0 : List (S42)) (x1 : List Int) (x5 : List (S140)) (x6 : Int) : spec_RepliesRight.l0L x0 x1 x5 x6 = if x6 < (x1.length : Int) then (if 0 ≤ x6 then (if 0 ≤ (rd x1 x6) then (if (rd x1 x6) < (x0.length : Int) then ((spec_ResultValid.fL ((rd_T42 x0 (rd x1 x6)).f0) ((rd_T42 x0 (rd x1 x6)).f1) ((rd_T42 x0 (rd x1 x6)).f2.f0) ((rd_T42 x0 (rd x1 x6)).f2.f1) ((rd_T42 x0 (rd x1 x6)).f2.f2) ((rd_T42 x0 (rd x1 x6)).f2.f3) ((rd_T42 x0 (rd x1 x6)).f3) ((rd_T42 x0 (rd x1 x6)).f4) ((rd_T42 x0 (rd x1 x6)).f5)).bind fun t244 => (if t244 = true then (if x5.length < 2199023255552 then (spec_RepliesRight.l0L x0 x1 (x5 ++ [(⟨(⟨(rd_T42 x0 (rd x1 x6)).f0, (rd_T42 x0 (rd x1 x6)).f1, (⟨(rd_T42 x0 (rd x1 x6)).f2.f0, (rd_T42 x0 (rd x1 x6)).f2.f1, (rd_T42 x0 (rd x1 x6)).f2.f2, (rd_T42 x0 (rd x1 x6)).f2.f3⟩ : S40)⟩ : S138), (rd_T42 x0 (rd x1 x6)).f3⟩ : S140)]) (wrap64 (x6 + 1))) else (none)) else (some false))) else (none)) else (none)) else (none)) else ((spec_RunHistory.fL x5).bind fun bt248 => (some bt248.2)) := by
  refine LimIs.unique (spec_RepliesRight.l0L_is x0 x1 x5 x6) (LimIs.step (f := fun k => if x6 < (x1.length : Int) then (if 0 ≤ x6 then (if 0 ≤ (rd x1 x6) then (if (rd x1 x6) < (x0.length : Int) then ((spec_ResultValid.f k ((rd_T42 x0 (rd x1 x6)).f0) ((rd_T42 x0 (rd x1 x6)).f1) ((rd_T42 x0 (rd x1 x6)).f2.f0) ((rd_T42 x0 (rd x1 x6)).f2.f1) ((rd_T42 x0 (rd x1 x6)).f2.f2) ((rd_T42 x0 (rd x1 x6)).f2.f3) ((rd_T42 x0 (rd x1 x6)).f3) ((rd_T42 x0 (rd x1 x6)).f4) ((rd_T42 x0 (rd x1 x6)).f5)).bind fun t244 => (if t244 = true then (if x5.length < 2199023255552 then (spec_RepliesRight.l0 k x0 x1 (x5 ++ [(⟨(⟨(rd_T42 x0 (rd x1 x6)).f0, (rd_T42 x0 (rd x1 x6)).f1, (⟨(rd_T42 x0 (rd x1 x6)).f2.f0, (rd_T42 x0 (rd x1 x6)).f2.f1, (rd_T42 x0 (rd x1 x6)).f2.f2, (rd_T42 x0 (rd x1 x6)).f2.f3⟩ : S40)⟩ : S138), (rd_T42 x0 (rd x1 x6)).f3⟩ : S140)]) (wrap64 (x6 + 1))) else (none)) else (some false))) else (none)) else (none)) else (none)) else ((spec_RunHistory.f k x5).bind fun bt248 => (some bt248.2))) (by simp only [spec_RepliesRight.l0]) (fun k => by simp only [spec_RepliesRight.l0]) ?_)
  repeat' first
    | (with_reducible exact LimIs.const _)
    | (with_reducible exact spec_RepliesRight.l0L_is _ _ _ _)
    | (with_reducible exact spec_ResultValid.fL_is _ _ _ _ _ _ _ _ _)
    | (with_reducible exact spec_RunHistory.fL_is _)
    | (with_reducible refine LimIs.ite ?_ ?_)
    | (with_reducible refine LimIs.bind ?_ (fun _ => ?_))
theorem spec_RepliesRight.fL_eq (l0 : List (S42)) (l1 : List Int) : spec_RepliesRight.fL l0 l1 = (spec_OrderValid.fL (l0.length : Int) l1).bind fun t237 => (if t237 = true then (spec_RepliesRight.l0L l0 l1 (([] : List (S140))) 0) else (some false)) := by
  refine LimIs.unique (spec_RepliesRight.fL_is l0 l1) ?_
  unfold spec_RepliesRight.f
  repeat' first
    | (with_reducible exact LimIs.const _)
    | (with_reducible exact spec_OrderValid.fL_is _ _)
    | (with_reducible exact spec_RepliesRight.l0L_is _ _ _ _)
    | (with_reducible refine LimIs.ite ?_ ?_)
    | (with_reducible refine LimIs.bind ?_ (fun _ => ?_))
/-! ### laws_toResultS -/
noncomputable def laws_toResultS.l0L (x0 : List (S135)) (x3 : List (S42)) (x4 : Int) : Option ((List (S42))) := Lim (fun k => laws_toResultS.l0 k x0 x3 x4)
theorem laws_toResultS.l0L_is (x0 : List (S135)) (x3 : List (S42)) (x4 : Int) : LimIs (fun k => laws_toResultS.l0 k x0 x3 x4) (laws_toResultS.l0L x0 x3 x4) := LimIs.of_mono (fun k r h => (laws_toResultS.mono_l k) x0 x3 x4 r h)
noncomputable def laws_toResultS.fL (l0 : List (S135)) : Option ((List (S42))) := Lim (fun k => laws_toResultS.f k l0)
theorem laws_toResultS.fL_is (l0 : List (S135)) : LimIs (fun k => laws_toResultS.f k l0) (laws_toResultS.fL l0) := LimIs.of_mono (fun k r h => laws_toResultS.mono l0 k r h)
theorem laws_toResultS.l0L_eq (x0 : List (S135)) (x3 : List (S42)) (x4 : Int) : laws_toResultS.l0L x0 x3 x4 = if x4 < (x0.length : Int) then (if 0 ≤ x4 then ((laws_toResult.f ((rd_T135 x0 x4).f0) ((rd_T135 x0 x4).f1) ((rd_T135 x0 x4).f2.f0) ((rd_T135 x0 x4).f2.f1) ((rd_T135 x0 x4).f2.f2) ((rd_T135 x0 x4).f2.f3) ((rd_T135 x0 x4).f3) ((rd_T135 x0 x4).f4) ((rd_T135 x0 x4).f5)).bind fun bt266 => (if x4 < (x3.length : Int) then (laws_toResultS.l0L x0 (x3.set (x4 : Int).toNat (⟨bt266.1, bt266.2.1, (⟨bt266.2.2.1, bt266.2.2.2.1, bt266.2.2.2.2.1, bt266.2.2.2.2.2.1⟩ : S40), bt266.2.2.2.2.2.2.1, bt266.2.2.2.2.2.2.2.1, bt266.2.2.2.2.2.2.2.2⟩ : S42)) (wrap64 (x4 + 1))) else (none))) else (none)) else (some x3) := by
  refine LimIs.unique (laws_toResultS.l0L_is x0 x3 x4) (LimIs.step (f := fun k => if x4 < (x0.length : Int) then (if 0 ≤ x4 then ((laws_toResult.f ((rd_T135 x0 x4).f0) ((rd_T135 x0 x4).f1) ((rd_T135 x0 x4).f2.f0) ((rd_T135 x0 x4).f2.f1) ((rd_T135 x0 x4).f2.f2) ((rd_T135 x0 x4).f2.f3) ((rd_T135 x0 x4).f3) ((rd_T135 x0 x4).f4) ((rd_T135 x0 x4).f5)).bind fun bt266 => (if x4 < (x3.length : Int) then (laws_toResultS.l0 k x0 (x3.set (x4 : Int).toNat (⟨bt266.1, bt266.2.1, (⟨bt266.2.2.1, bt266.2.2.2.1, bt266.2.2.2.2.1, bt266.2.2.2.2.2.1⟩ : S40), bt266.2.2.2.2.2.2.1, bt266.2.2.2.2.2.2.2.1, bt266.2.2.2.2.2.2.2.2⟩ : S42)) (wrap64 (x4 + 1))) else (none))) else (none)) else (some x3)) (by simp only [laws_toResultS.l0]) (fun k => by simp only [laws_toResultS.l0]) ?_)
  repeat' first
    | (with_reducible exact LimIs.const _)
    | (with_reducible exact laws_toResultS.l0L_is _ _ _)
    | (with_reducible refine LimIs.ite ?_ ?_)
    | (with_reducible refine LimIs.bind ?_ (fun _ => ?_))
theorem laws_toResultS.fL_eq (l0 : List (S135)) : laws_toResultS.fL l0 = if 0 ≤ (l0.length : Int) then (if ((l0.length : Int) : Int).toNat ≤ 3518437208883 then (laws_toResultS.l0L l0 (List.replicate ((l0.length : Int) : Int).toNat z42) 0) else (none)) else (none) := by
  refine LimIs.unique (laws_toResultS.fL_is l0) ?_
  unfold laws_toResultS.f
  repeat' first
    | (with_reducible exact LimIs.const _)
    | (with_reducible exact laws_toResultS.l0L_is _ _ _)
    | (with_reducible refine LimIs.ite ?_ ?_)
    | (with_reducible refine LimIs.bind ?_ (fun _ => ?_))
/-! ### laws_toIntS -/
noncomputable def laws_toIntS.l0L (x0 : List Int) (x3 : List Int) (x4 : Int) : Option (List Int) := Lim (fun k => laws_toIntS.l0 k x0 x3 x4)
theorem laws_toIntS.l0L_is (x0 : List Int) (x3 : List Int) (x4 : Int) : LimIs (fun k => laws_toIntS.l0 k x0 x3 x4) (laws_toIntS.l0L x0 x3 x4) := LimIs.of_mono (fun k r h => (laws_toIntS.mono_l k) x0 x3 x4 r h)
noncomputable def laws_toIntS.fL (l0 : List Int) : Option (List Int) := Lim (fun k => laws_toIntS.f k l0)
theorem laws_toIntS.fL_is (l0 : List Int) : LimIs (fun k => laws_toIntS.f k l0) (laws_toIntS.fL l0) := LimIs.of_mono (fun k r h => laws_toIntS.mono l0 k r h)
theorem laws_toIntS.l0L_eq (x0 : List Int) (x3 : List Int) (x4 : Int) : laws_toIntS.l0L x0 x3 x4 = if x4 < (x0.length : Int) then (if 0 ≤ x4 then (if x4 < (x3.length : Int) then (laws_toIntS.l0L x0 (x3.set (x4 : Int).toNat (rd x0 x4)) (wrap64 (x4 + 1))) else (none)) else (none)) else (some x3) := by
  refine LimIs.unique (laws_toIntS.l0L_is x0 x3 x4) (LimIs.step (f := fun k => if x4 < (x0.length : Int) then (if 0 ≤ x4 then (if x4 < (x3.length : Int) then (laws_toIntS.l0 k x0 (x3.set (x4 : Int).toNat (rd x0 x4)) (wrap64 (x4 + 1))) else (none)) else (none)) else (some x3)) (by simp only [laws_toIntS.l0]) (fun k => by simp only [laws_toIntS.l0]) ?_)
  repeat' first
    | (with_reducible exact LimIs.const _)
    | (with_reducible exact laws_toIntS.l0L_is _ _ _)
    | (with_reducible refine LimIs.ite ?_ ?_)
    | (with_reducible refine LimIs.bind ?_ (fun _ => ?_))
theorem laws_toIntS.fL_eq (l0 : List Int) : laws_toIntS.fL l0 = if 0 ≤ (l0.length : Int) then (if ((l0.length : Int) : Int).toNat ≤ 35184372088832 then (laws_toIntS.l0L l0 (List.replicate ((l0.length : Int) : Int).toNat 0) 0) else (none)) else (none) := by
  refine LimIs.unique (laws_toIntS.fL_is l0) ?_
  unfold laws_toIntS.f
  repeat' first
    | (with_reducible exact LimIs.const _)
    | (with_reducible exact laws_toIntS.l0L_is _ _ _)
    | (with_reducible refine LimIs.ite ?_ ?_)
    | (with_reducible refine LimIs.bind ?_ (fun _ => ?_))
/-! ### slices_Index_int_int -/
noncomputable def slices_Index_int_int.l0L (x0 : List Int) (x1 : Int) (x7 : Int) (x8 : Int) : Option (Int) := Lim (fun k => slices_Index_int_int.l0 k x0 x1 x7 x8)
theorem slices_Index_int_int.l0L_is (x0 : List Int) (x1 : Int) (x7 : Int) (x8 : Int) : LimIs (fun k => slices_Index_int_int.l0 k x0 x1 x7 x8) (slices_Index_int_int.l0L x0 x1 x7 x8) := LimIs.of_mono (fun k r h => (slices_Index_int_int.mono_l k) x0 x1 x7 x8 r h)
noncomputable def slices_Index_int_int.fL (l0 : List Int) (a1 : Int) : Option (Int) := Lim (fun k => slices_Index_int_int.f k l0 a1)
theorem slices_Index_int_int.fL_is (l0 : List Int) (a1 : Int) : LimIs (fun k => slices_Index_int_int.f k l0 a1) (slices_Index_int_int.fL l0 a1) := LimIs.of_mono (fun k r h => slices_Index_int_int.mono l0 a1 k r h)
theorem slices_Index_int_int.l0L_eq (x0 : List Int) (x1 : Int) (x7 : Int) (x8 : Int) : slices_Index_int_int.l0L x0 x1 x7 x8 = if x8 < x7 then (if 0 ≤ x8 then (if x8 < (x0.length : Int) then (if x1 = (rd x0 x8) then (some x8) else (slices_Index_int_int.l0L x0 x1 x7 (wrap64 (x8 + 1)))) else (none)) else (none)) else (some (-1)) := by
  refine LimIs.unique (slices_Index_int_int.l0L_is x0 x1 x7 x8) (LimIs.step (f := fun k => if x8 < x7 then (if 0 ≤ x8 then (if x8 < (x0.length : Int) then (if x1 = (rd x0 x8) then (some x8) else (slices_Index_int_int.l0 k x0 x1 x7 (wrap64 (x8 + 1)))) else (none)) else (none)) else (some (-1))) (by simp only [slices_Index_int_int.l0]) (fun k => by simp only [slices_Index_int_int.l0]) ?_)
  repeat' first
    | (with_reducible exact LimIs.const _)
    | (with_reducible exact slices_Index_int_int.l0L_is _ _ _ _)
    | (with_reducible refine LimIs.ite ?_ ?_)
    | (with_reducible refine LimIs.bind ?_ (fun _ => ?_))
theorem slices_Index_int_int.fL_eq (l0 : List Int) (a1 : Int) : slices_Index_int_int.fL l0 a1 = slices_Index_int_int.l0L l0 a1 (l0.length : Int) 0 := by
  refine LimIs.unique (slices_Index_int_int.fL_is l0 a1) ?_
  unfold slices_Index_int_int.f
  repeat' first
    | (with_reducible exact LimIs.const _)
    | (with_reducible exact slices_Index_int_int.l0L_is _ _ _ _)
    | (with_reducible refine LimIs.ite ?_ ?_)
    | (with_reducible refine LimIs.bind ?_ (fun _ => ?_))
/-! ### slices_Contains_int_int -/
noncomputable def slices_Contains_int_int.fL (l0 : List Int) (a1 : Int) : Option (Bool) := Lim (fun k => slices_Contains_int_int.f k l0 a1)
theorem slices_Contains_int_int.fL_is (l0 : List Int) (a1 : Int) : LimIs (fun k => slices_Contains_int_int.f k l0 a1) (slices_Contains_int_int.fL l0 a1) := LimIs.of_mono (fun k r h => slices_Contains_int_int.mono l0 a1 k r h)
theorem slices_Contains_int_int.fL_eq (l0 : List Int) (a1 : Int) : slices_Contains_int_int.fL l0 a1 = (slices_Index_int_int.fL l0 a1).bind fun t282 => (some (decide (t282 ≥ 0))) := by
  refine LimIs.unique (slices_Contains_int_int.fL_is l0 a1) ?_
  unfold slices_Contains_int_int.f
  repeat' first
    | (with_reducible exact LimIs.const _)
    | (with_reducible exact slices_Index_int_int.fL_is _ _)
    | (with_reducible refine LimIs.ite ?_ ?_)
    | (with_reducible refine LimIs.bind ?_ (fun _ => ?_))
/-! ### impl_OrderValid -/
noncomputable def impl_OrderValid.j0L (x0 : Int) (x1 : List Int) (x15 : Bool) : Option (Bool) := Lim (fun k => impl_OrderValid.j0 k x0 x1 x15)
theorem impl_OrderValid.j0L_is (x0 : Int) (x1 : List Int) (x15 : Bool) : LimIs (fun k => impl_OrderValid.j0 k x0 x1 x15) (impl_OrderValid.j0L x0 x1 x15) := LimIs.of_mono (fun k r h => (impl_OrderValid.mono_l k).1 x0 x1 x15 r h)
noncomputable def impl_OrderValid.l0L (x0 : Int) (x1 : List Int) (x16 : List Int) (x17 : Int) (x18 : Int) : Option (Bool) := Lim (fun k => impl_OrderValid.l0 k x0 x1 x16 x17 x18)
theorem impl_OrderValid.l0L_is (x0 : Int) (x1 : List Int) (x16 : List Int) (x17 : Int) (x18 : Int) : LimIs (fun k => impl_OrderValid.l0 k x0 x1 x16 x17 x18) (impl_OrderValid.l0L x0 x1 x16 x17 x18) := LimIs.of_mono (fun k r h => (impl_OrderValid.mono_l k).2 x0 x1 x16 x17 x18 r h)
noncomputable def impl_OrderValid.fL (a0 : Int) (l1 : List Int) : Option (Bool) := Lim (fun k => impl_OrderValid.f k a0 l1)
theorem impl_OrderValid.fL_is (a0 : Int) (l1 : List Int) : LimIs (fun k => impl_OrderValid.f k a0 l1) (impl_OrderValid.fL a0 l1) := LimIs.of_mono (fun k r h => impl_OrderValid.mono a0 l1 k r h)
theorem impl_OrderValid.j0L_eq (x0 : Int) (x1 : List Int) (x15 : Bool) : impl_OrderValid.j0L x0 x1 x15 = if x15 = true then (some false) else (impl_OrderValid.l0L x0 x1 x1 (x1.length : Int) 0) := by
  refine LimIs.unique (impl_OrderValid.j0L_is x0 x1 x15) (LimIs.step (f := fun k => if x15 = true then (some false) else (impl_OrderValid.l0 k x0 x1 x1 (x1.length : Int) 0)) (by simp only [impl_OrderValid.j0]) (fun k => by simp only [impl_OrderValid.j0]) ?_)
  repeat' first
    | (with_reducible exact LimIs.const _)
    | (with_reducible exact impl_OrderValid.l0L_is _ _ _ _ _)
    | (with_reducible refine LimIs.ite ?_ ?_)
    | (with_reducible refine LimIs.bind ?_ (fun _ => ?_))
theorem impl_OrderValid.l0L_eq (x0 : Int) (x1 : List Int) (x16 : List Int) (x17 : Int) (x18 : Int) : impl_OrderValid.l0L x0 x1 x16 x17 x18 = if x18 < x17 then (if 0 ≤ x18 then (if x18 < (x16.length : Int) then (if (rd x16 x18) < 0 then (some false) else (if (rd x16 x18) ≥ x0 then (some false) else (if x18 ≤ (x1.length : Int) then ((slices_Contains_int_int.fL (x1.take (x18 : Int).toNat) (rd x16 x18)).bind fun t288 => (if t288 = true then (some false) else (impl_OrderValid.l0L x0 x1 x16 x17 (wrap64 (x18 + 1))))) else (none)))) else (none)) else (none)) else (some true) := by
  refine LimIs.unique (impl_OrderValid.l0L_is x0 x1 x16 x17 x18) (LimIs.step (f := fun k => if x18 < x17 then (if 0 ≤ x18 then (if x18 < (x16.length : Int) then (if (rd x16 x18) < 0 then (some false) else (if (rd x16 x18) ≥ x0 then (some false) else (if x18 ≤ (x1.length : Int) then ((slices_Contains_int_int.f k (x1.take (x18 : Int).toNat) (rd x16 x18)).bind fun t288 => (if t288 = true then (some false) else (impl_OrderValid.l0 k x0 x1 x16 x17 (wrap64 (x18 + 1))))) else (none)))) else (none)) else (none)) else (some true)) (by simp only [impl_OrderValid.l0]) (fun k => by simp only [impl_OrderValid.l0]) ?_)
  repeat' first
    | (with_reducible exact LimIs.const _)
    | (with_reducible exact impl_OrderValid.l0L_is _ _ _ _ _)
    | (with_reducible exact slices_Contains_int_int.fL_is _ _)
    | (with_reducible refine LimIs.ite ?_ ?_)
    | (with_reducible refine LimIs.bind ?_ (fun _ => ?_))
theorem impl_OrderValid.fL_eq (a0 : Int) (l1 : List Int) : impl_OrderValid.fL a0 l1 = if (l1.length : Int) > 5 then (impl_OrderValid.j0L a0 l1 true) else (impl_OrderValid.j0L a0 l1 ((l1.length : Int) != a0)) := by
  refine LimIs.unique (impl_OrderValid.fL_is a0 l1) ?_
  unfold impl_OrderValid.f
  repeat' first
    | (with_reducible exact LimIs.const _)
    | (with_reducible exact impl_OrderValid.j0L_is _ _ _)
    | (with_reducible refine LimIs.ite ?_ ?_)
    | (with_reducible refine LimIs.bind ?_ (fun _ => ?_))
/-! ### impl_lettersOnly -/
noncomputable def impl_lettersOnly.fL (a0 : ByteArray) : Option (Bool) := Lim (fun k => impl_lettersOnly.f k a0)
theorem impl_lettersOnly.fL_is (a0 : ByteArray) : LimIs (fun k => impl_lettersOnly.f k a0) (impl_lettersOnly.fL a0) := LimIs.of_mono (fun k r h => impl_lettersOnly.mono a0 k r h)
theorem impl_lettersOnly.fL_eq (a0 : ByteArray) : impl_lettersOnly.fL a0 = if a0.toList = ([] : List UInt8) then (some true) else (if 0 < (a0.size : Int) then (if (bt a0 0) ≥ 97 then (if (bt a0 0) ≤ 122 then (if 1 ≤ (a0.size : Int) then ((impl_lettersOnly.fL (a0.extract 1 a0.size)).bind fun t289 => (some t289)) else (none)) else (some false)) else (some false)) else (none)) := by
  refine LimIs.unique (impl_lettersOnly.fL_is a0) (LimIs.step (f := fun k => if a0.toList = ([] : List UInt8) then (some true) else (if 0 < (a0.size : Int) then (if (bt a0 0) ≥ 97 then (if (bt a0 0) ≤ 122 then (if 1 ≤ (a0.size : Int) then ((impl_lettersOnly.f k (a0.extract 1 a0.size)).bind fun t289 => (some t289)) else (none)) else (some false)) else (some false)) else (none))) (by simp only [impl_lettersOnly.f]) (fun k => by simp only [impl_lettersOnly.f]) ?_)
  repeat' first
    | (with_reducible exact LimIs.const _)
    | (with_reducible exact impl_lettersOnly.fL_is _)
    | (with_reducible refine LimIs.ite ?_ ?_)
    | (with_reducible refine LimIs.bind ?_ (fun _ => ?_))
/-! ### impl_KeyValid -/
noncomputable def impl_KeyValid.fL (a0 : ByteArray) : Option (Bool) := Lim (fun k => impl_KeyValid.f k a0)
theorem impl_KeyValid.fL_is (a0 : ByteArray) : LimIs (fun k => impl_KeyValid.f k a0) (impl_KeyValid.fL a0) := LimIs.of_mono (fun k r h => impl_KeyValid.mono a0 k r h)
theorem impl_KeyValid.fL_eq (a0 : ByteArray) : impl_KeyValid.fL a0 = if (a0.size : Int) < 1 then (some false) else (if (a0.size : Int) > 4 then (some false) else ((impl_lettersOnly.fL a0).bind fun t290 => (some t290))) := by
  refine LimIs.unique (impl_KeyValid.fL_is a0) ?_
  unfold impl_KeyValid.f
  repeat' first
    | (with_reducible exact LimIs.const _)
    | (with_reducible exact impl_lettersOnly.fL_is _)
    | (with_reducible refine LimIs.ite ?_ ?_)
    | (with_reducible refine LimIs.bind ?_ (fun _ => ?_))
/-! ### impl_CommandValid -/
noncomputable def impl_CommandValid.j0L (x10 : Bool) (x292000 : Int) (x292001 : ByteArray) (x292002 : Int) (x292003 : Int) : Option (Bool) := Lim (fun k => impl_CommandValid.j0 k x10 x292000 x292001 x292002 x292003)
theorem impl_CommandValid.j0L_is (x10 : Bool) (x292000 : Int) (x292001 : ByteArray) (x292002 : Int) (x292003 : Int) : LimIs (fun k => impl_CommandValid.j0 k x10 x292000 x292001 x292002 x292003) (impl_CommandValid.j0L x10 x292000 x292001 x292002 x292003) := LimIs.of_mono (fun k r h => (impl_CommandValid.mono_l k).1 x10 x292000 x292001 x292002 x292003 r h)
noncomputable def impl_CommandValid.j1L (x24 : Bool) (x292000 : Int) (x292001 : ByteArray) (x292002 : Int) (x292003 : Int) : Option (Bool) := Lim (fun k => impl_CommandValid.j1 k x24 x292000 x292001 x292002 x292003)
theorem impl_CommandValid.j1L_is (x24 : Bool) (x292000 : Int) (x292001 : ByteArray) (x292002 : Int) (x292003 : Int) : LimIs (fun k => impl_CommandValid.j1 k x24 x292000 x292001 x292002 x292003) (impl_CommandValid.j1L x24 x292000 x292001 x292002 x292003) := LimIs.of_mono (fun k r h => (impl_CommandValid.mono_l k).2 x24 x292000 x292001 x292002 x292003 r h)
noncomputable def impl_CommandValid.fL (a0_0 : Int) (a0_1 : ByteArray) (a0_2 : Int) (a0_3 : Int) : Option (Bool) := Lim (fun k => impl_CommandValid.f k a0_0 a0_1 a0_2 a0_3)
theorem impl_CommandValid.fL_is (a0_0 : Int) (a0_1 : ByteArray) (a0_2 : Int) (a0_3 : Int) : LimIs (fun k => impl_CommandValid.f k a0_0 a0_1 a0_2 a0_3) (impl_CommandValid.fL a0_0 a0_1 a0_2 a0_3) := LimIs.of_mono (fun k r h => impl_CommandValid.mono a0_0 a0_1 a0_2 a0_3 k r h)
theorem impl_CommandValid.j0L_eq (x10 : Bool) (x292000 : Int) (x292001 : ByteArray) (x292002 : Int) (x292003 : Int) : impl_CommandValid.j0L x10 x292000 x292001 x292002 x292003 = if x10 = true then (some false) else ((impl_KeyValid.fL x292001).bind fun t292 => (if t292 = true then (impl_CommandValid.j1L false x292000 x292001 x292002 x292003) else (if x292000 = 5 then (impl_CommandValid.j1L (x292001.toList != ([] : List UInt8)) x292000 x292001 x292002 x292003) else (impl_CommandValid.j1L true x292000 x292001 x292002 x292003)))) := by
  refine LimIs.unique (impl_CommandValid.j0L_is x10 x292000 x292001 x292002 x292003) (LimIs.step (f := fun k => if x10 = true then (some false) else ((impl_KeyValid.f k x292001).bind fun t292 => (if t292 = true then (impl_CommandValid.j1 k false x292000 x292001 x292002 x292003) else (if x292000 = 5 then (impl_CommandValid.j1 k (x292001.toList != ([] : List UInt8)) x292000 x292001 x292002 x292003) else (impl_CommandValid.j1 k true x292000 x292001 x292002 x292003))))) (by simp only [impl_CommandValid.j0]) (fun k => by simp only [impl_CommandValid.j0]) ?_)
  repeat' first
    | (with_reducible exact LimIs.const _)
    | (with_reducible exact impl_CommandValid.j1L_is _ _ _ _ _)
    | (with_reducible exact impl_KeyValid.fL_is _)
    | (with_reducible refine LimIs.ite ?_ ?_)
    | (with_reducible refine LimIs.bind ?_ (fun _ => ?_))
theorem impl_CommandValid.j1L_eq (x24 : Bool) (x292000 : Int) (x292001 : ByteArray) (x292002 : Int) (x292003 : Int) : impl_CommandValid.j1L x24 x292000 x292001 x292002 x292003 = if x24 = true then (some false) else (if x292000 = 2 then ((impl_valueValid.f x292002).bind fun t293 => (if t293 = true then (some (x292003 == 0)) else (some false))) else (if x292000 = 4 then ((impl_valueValid.f x292002).bind fun t294 => (if t294 = true then (if x292003 = (-1) then (some true) else ((impl_valueValid.f x292003).bind fun t295 => (some t295))) else (some false))) else (if x292002 = 0 then (some (x292003 == 0)) else (some false)))) := by
  refine LimIs.unique (impl_CommandValid.j1L_is x24 x292000 x292001 x292002 x292003) (LimIs.step (f := fun k => if x24 = true then (some false) else (if x292000 = 2 then ((impl_valueValid.f x292002).bind fun t293 => (if t293 = true then (some (x292003 == 0)) else (some false))) else (if x292000 = 4 then ((impl_valueValid.f x292002).bind fun t294 => (if t294 = true then (if x292003 = (-1) then (some true) else ((impl_valueValid.f x292003).bind fun t295 => (some t295))) else (some false))) else (if x292002 = 0 then (some (x292003 == 0)) else (some false))))) (by simp only [impl_CommandValid.j1]) (fun k => by simp only [impl_CommandValid.j1]) ?_)
  repeat' first
    | (with_reducible exact LimIs.const _)
    | (with_reducible refine LimIs.ite ?_ ?_)
    | (with_reducible refine LimIs.bind ?_ (fun _ => ?_))
theorem impl_CommandValid.fL_eq (a0_0 : Int) (a0_1 : ByteArray) (a0_2 : Int) (a0_3 : Int) : impl_CommandValid.fL a0_0 a0_1 a0_2 a0_3 = if a0_0 < 1 then (impl_CommandValid.j0L true a0_0 a0_1 a0_2 a0_3) else (impl_CommandValid.j0L (decide (a0_0 > 5)) a0_0 a0_1 a0_2 a0_3) := by
  refine LimIs.unique (impl_CommandValid.fL_is a0_0 a0_1 a0_2 a0_3) ?_
  unfold impl_CommandValid.f
  repeat' first
    | (with_reducible exact LimIs.const _)
    | (with_reducible exact impl_CommandValid.j0L_is _ _ _ _ _)
    | (with_reducible refine LimIs.ite ?_ ?_)
    | (with_reducible refine LimIs.bind ?_ (fun _ => ?_))
/-! ### impl_wishValid -/
noncomputable def impl_wishValid.fL (a0_0 : Int) (a0_1 : ByteArray) (a0_2 : Int) (a0_3 : Int) : Option (Bool) := Lim (fun k => impl_wishValid.f k a0_0 a0_1 a0_2 a0_3)
theorem impl_wishValid.fL_is (a0_0 : Int) (a0_1 : ByteArray) (a0_2 : Int) (a0_3 : Int) : LimIs (fun k => impl_wishValid.f k a0_0 a0_1 a0_2 a0_3) (impl_wishValid.fL a0_0 a0_1 a0_2 a0_3) := LimIs.of_mono (fun k r h => impl_wishValid.mono a0_0 a0_1 a0_2 a0_3 k r h)
theorem impl_wishValid.fL_eq (a0_0 : Int) (a0_1 : ByteArray) (a0_2 : Int) (a0_3 : Int) : impl_wishValid.fL a0_0 a0_1 a0_2 a0_3 = (impl_CommandValid.fL a0_0 a0_1 a0_2 a0_3).bind fun t297 => (if t297 = true then (some (a0_0 != 5)) else (some false)) := by
  refine LimIs.unique (impl_wishValid.fL_is a0_0 a0_1 a0_2 a0_3) ?_
  unfold impl_wishValid.f
  repeat' first
    | (with_reducible exact LimIs.const _)
    | (with_reducible exact impl_CommandValid.fL_is _ _ _ _)
    | (with_reducible refine LimIs.ite ?_ ?_)
    | (with_reducible refine LimIs.bind ?_ (fun _ => ?_))
/-! ### impl_ResultValid -/
noncomputable def impl_ResultValid.fL (a0_0 : Int) (a0_1 : Int) (a0_2 : Int) (a0_3 : ByteArray) (a0_4 : Int) (a0_5 : Int) (a0_6 : Int) (a0_7 : Int) (a0_8 : Int) : Option (Bool) := Lim (fun k => impl_ResultValid.f k a0_0 a0_1 a0_2 a0_3 a0_4 a0_5 a0_6 a0_7 a0_8)
theorem impl_ResultValid.fL_is (a0_0 : Int) (a0_1 : Int) (a0_2 : Int) (a0_3 : ByteArray) (a0_4 : Int) (a0_5 : Int) (a0_6 : Int) (a0_7 : Int) (a0_8 : Int) : LimIs (fun k => impl_ResultValid.f k a0_0 a0_1 a0_2 a0_3 a0_4 a0_5 a0_6 a0_7 a0_8) (impl_ResultValid.fL a0_0 a0_1 a0_2 a0_3 a0_4 a0_5 a0_6 a0_7 a0_8) := LimIs.of_mono (fun k r h => impl_ResultValid.mono a0_0 a0_1 a0_2 a0_3 a0_4 a0_5 a0_6 a0_7 a0_8 k r h)
theorem impl_ResultValid.fL_eq (a0_0 : Int) (a0_1 : Int) (a0_2 : Int) (a0_3 : ByteArray) (a0_4 : Int) (a0_5 : Int) (a0_6 : Int) (a0_7 : Int) (a0_8 : Int) : impl_ResultValid.fL a0_0 a0_1 a0_2 a0_3 a0_4 a0_5 a0_6 a0_7 a0_8 = (impl_clientNumber.f a0_0).bind fun t299 => (if t299 = true then ((impl_seqValid.f a0_1).bind fun t300 => (if t300 = true then ((impl_wishValid.fL a0_2 a0_3 a0_4 a0_5).bind fun t301 => (if t301 = true then ((impl_replyValid.f a0_6).bind fun t302 => (if t302 = true then ((impl_timeValid.f a0_8).bind fun t303 => (if t303 = true then (if a0_7 ≥ 0 then (some (decide (a0_7 ≤ a0_8))) else (some false)) else (some false))) else (some false))) else (some false))) else (some false))) else (some false)) := by
  refine LimIs.unique (impl_ResultValid.fL_is a0_0 a0_1 a0_2 a0_3 a0_4 a0_5 a0_6 a0_7 a0_8) ?_
  unfold impl_ResultValid.f
  repeat' first
    | (with_reducible exact LimIs.const _)
    | (with_reducible exact impl_wishValid.fL_is _ _ _ _)
    | (with_reducible refine LimIs.ite ?_ ?_)
    | (with_reducible refine LimIs.bind ?_ (fun _ => ?_))
/-! ### impl_resultsValid -/
noncomputable def impl_resultsValid.l0L (x8 : List (S42)) (x9 : Int) (x10 : Int) : Option (Bool) := Lim (fun k => impl_resultsValid.l0 k x8 x9 x10)
theorem impl_resultsValid.l0L_is (x8 : List (S42)) (x9 : Int) (x10 : Int) : LimIs (fun k => impl_resultsValid.l0 k x8 x9 x10) (impl_resultsValid.l0L x8 x9 x10) := LimIs.of_mono (fun k r h => (impl_resultsValid.mono_l k) x8 x9 x10 r h)
noncomputable def impl_resultsValid.fL (l0 : List (S42)) : Option (Bool) := Lim (fun k => impl_resultsValid.f k l0)
theorem impl_resultsValid.fL_is (l0 : List (S42)) : LimIs (fun k => impl_resultsValid.f k l0) (impl_resultsValid.fL l0) := LimIs.of_mono (fun k r h => impl_resultsValid.mono l0 k r h)
theorem impl_resultsValid.l0L_eq (x8 : List (S42)) (x9 : Int) (x10 : Int) : impl_resultsValid.l0L x8 x9 x10 = if x10 < x9 then (if 0 ≤ x10 then (if x10 < (x8.length : Int) then ((impl_ResultValid.fL ((rd_T42 x8 x10).f0) ((rd_T42 x8 x10).f1) ((rd_T42 x8 x10).f2.f0) ((rd_T42 x8 x10).f2.f1) ((rd_T42 x8 x10).f2.f2) ((rd_T42 x8 x10).f2.f3) ((rd_T42 x8 x10).f3) ((rd_T42 x8 x10).f4) ((rd_T42 x8 x10).f5)).bind fun t306 => (if t306 = true then (impl_resultsValid.l0L x8 x9 (wrap64 (x10 + 1))) else (some false))) else (none)) else (none)) else (some true) := by
  refine LimIs.unique (impl_resultsValid.l0L_is x8 x9 x10) (LimIs.step (f := fun k => if x10 < x9 then (if 0 ≤ x10 then (if x10 < (x8.length : Int) then ((impl_ResultValid.f k ((rd_T42 x8 x10).f0) ((rd_T42 x8 x10).f1) ((rd_T42 x8 x10).f2.f0) ((rd_T42 x8 x10).f2.f1) ((rd_T42 x8 x10).f2.f2) ((rd_T42 x8 x10).f2.f3) ((rd_T42 x8 x10).f3) ((rd_T42 x8 x10).f4) ((rd_T42 x8 x10).f5)).bind fun t306 => (if t306 = true then (impl_resultsValid.l0 k x8 x9 (wrap64 (x10 + 1))) else (some false))) else (none)) else (none)) else (some true)) (by simp only [impl_resultsValid.l0]) (fun k => by simp only [impl_resultsValid.l0]) ?_)
  repeat' first
    | (with_reducible exact LimIs.const _)
    | (with_reducible exact impl_ResultValid.fL_is _ _ _ _ _ _ _ _ _)
    | (with_reducible exact impl_resultsValid.l0L_is _ _ _)
    | (with_reducible refine LimIs.ite ?_ ?_)
    | (with_reducible refine LimIs.bind ?_ (fun _ => ?_))
theorem impl_resultsValid.fL_eq (l0 : List (S42)) : impl_resultsValid.fL l0 = if (l0.length : Int) > 5 then (some false) else (impl_resultsValid.l0L l0 (l0.length : Int) 0) := by
  refine LimIs.unique (impl_resultsValid.fL_is l0) ?_
  unfold impl_resultsValid.f
  repeat' first
    | (with_reducible exact LimIs.const _)
    | (with_reducible exact impl_resultsValid.l0L_is _ _ _)
    | (with_reducible refine LimIs.ite ?_ ?_)
    | (with_reducible refine LimIs.bind ?_ (fun _ => ?_))
/-! ### impl_EntryValid -/
noncomputable def impl_EntryValid.fL (a0_0 : Int) (a0_1 : Int) (a0_2 : Int) (a0_3 : ByteArray) (a0_4 : Int) (a0_5 : Int) : Option (Bool) := Lim (fun k => impl_EntryValid.f k a0_0 a0_1 a0_2 a0_3 a0_4 a0_5)
theorem impl_EntryValid.fL_is (a0_0 : Int) (a0_1 : Int) (a0_2 : Int) (a0_3 : ByteArray) (a0_4 : Int) (a0_5 : Int) : LimIs (fun k => impl_EntryValid.f k a0_0 a0_1 a0_2 a0_3 a0_4 a0_5) (impl_EntryValid.fL a0_0 a0_1 a0_2 a0_3 a0_4 a0_5) := LimIs.of_mono (fun k r h => impl_EntryValid.mono a0_0 a0_1 a0_2 a0_3 a0_4 a0_5 k r h)
theorem impl_EntryValid.fL_eq (a0_0 : Int) (a0_1 : Int) (a0_2 : Int) (a0_3 : ByteArray) (a0_4 : Int) (a0_5 : Int) : impl_EntryValid.fL a0_0 a0_1 a0_2 a0_3 a0_4 a0_5 = if a0_0 ≥ 0 then (if a0_0 < 4 then ((impl_seqValid.f a0_1).bind fun t308 => (if t308 = true then ((impl_CommandValid.fL a0_2 a0_3 a0_4 a0_5).bind fun t309 => (some t309)) else (some false))) else (some false)) else (some false) := by
  refine LimIs.unique (impl_EntryValid.fL_is a0_0 a0_1 a0_2 a0_3 a0_4 a0_5) ?_
  unfold impl_EntryValid.f
  repeat' first
    | (with_reducible exact LimIs.const _)
    | (with_reducible exact impl_CommandValid.fL_is _ _ _ _)
    | (with_reducible refine LimIs.ite ?_ ?_)
    | (with_reducible refine LimIs.bind ?_ (fun _ => ?_))
/-! ### impl_PairsValid -/
noncomputable def impl_PairsValid.l0L (x0 : List (S29)) (x8 : List (S29)) (x9 : Int) (x10 : Int) : Option (Bool) := Lim (fun k => impl_PairsValid.l0 k x0 x8 x9 x10)
theorem impl_PairsValid.l0L_is (x0 : List (S29)) (x8 : List (S29)) (x9 : Int) (x10 : Int) : LimIs (fun k => impl_PairsValid.l0 k x0 x8 x9 x10) (impl_PairsValid.l0L x0 x8 x9 x10) := LimIs.of_mono (fun k r h => (impl_PairsValid.mono_l k).1 x0 x8 x9 x10 r h)
noncomputable def impl_PairsValid.j1L (x0 : List (S29)) (x3 : Int) (x8 : List (S29)) (x9 : Int) (x10 : Int) (x24 : Bool) (x312000 : ByteArray) (x312001 : Int) : Option (Bool) := Lim (fun k => impl_PairsValid.j1 k x0 x3 x8 x9 x10 x24 x312000 x312001)
theorem impl_PairsValid.j1L_is (x0 : List (S29)) (x3 : Int) (x8 : List (S29)) (x9 : Int) (x10 : Int) (x24 : Bool) (x312000 : ByteArray) (x312001 : Int) : LimIs (fun k => impl_PairsValid.j1 k x0 x3 x8 x9 x10 x24 x312000 x312001) (impl_PairsValid.j1L x0 x3 x8 x9 x10 x24 x312000 x312001) := LimIs.of_mono (fun k r h => (impl_PairsValid.mono_l k).2 x0 x3 x8 x9 x10 x24 x312000 x312001 r h)
noncomputable def impl_PairsValid.fL (l0 : List (S29)) : Option (Bool) := Lim (fun k => impl_PairsValid.f k l0)
theorem impl_PairsValid.fL_is (l0 : List (S29)) : LimIs (fun k => impl_PairsValid.f k l0) (impl_PairsValid.fL l0) := LimIs.of_mono (fun k r h => impl_PairsValid.mono l0 k r h)
theorem impl_PairsValid.l0L_eq (x0 : List (S29)) (x8 : List (S29)) (x9 : Int) (x10 : Int) : impl_PairsValid.l0L x0 x8 x9 x10 = if x10 < x9 then (if 0 ≤ x10 then (if x10 < (x8.length : Int) then ((impl_KeyValid.fL ((rd_T29 x8 x10).f0)).bind fun t312 => (if t312 = true then ((impl_valueValid.f ((rd_T29 x8 x10).f1)).bind fun t313 => (impl_PairsValid.j1L x0 x10 x8 x9 x10 (!t313) ((rd_T29 x8 x10).f0) ((rd_T29 x8 x10).f1))) else (impl_PairsValid.j1L x0 x10 x8 x9 x10 true ((rd_T29 x8 x10).f0) ((rd_T29 x8 x10).f1)))) else (none)) else (none)) else (some true) := by
  refine LimIs.unique (impl_PairsValid.l0L_is x0 x8 x9 x10) (LimIs.step (f := fun k => if x10 < x9 then (if 0 ≤ x10 then (if x10 < (x8.length : Int) then ((impl_KeyValid.f k ((rd_T29 x8 x10).f0)).bind fun t312 => (if t312 = true then ((impl_valueValid.f ((rd_T29 x8 x10).f1)).bind fun t313 => (impl_PairsValid.j1 k x0 x10 x8 x9 x10 (!t313) ((rd_T29 x8 x10).f0) ((rd_T29 x8 x10).f1))) else (impl_PairsValid.j1 k x0 x10 x8 x9 x10 true ((rd_T29 x8 x10).f0) ((rd_T29 x8 x10).f1)))) else (none)) else (none)) else (some true)) (by simp only [impl_PairsValid.l0]) (fun k => by simp only [impl_PairsValid.l0]) ?_)
  repeat' first
    | (with_reducible exact LimIs.const _)
    | (with_reducible exact impl_KeyValid.fL_is _)
    | (with_reducible exact impl_PairsValid.j1L_is _ _ _ _ _ _ _ _)
    | (with_reducible refine LimIs.ite ?_ ?_)
    | (with_reducible refine LimIs.bind ?_ (fun _ => ?_))
theorem impl_PairsValid.j1L_eq (x0 : List (S29)) (x3 : Int) (x8 : List (S29)) (x9 : Int) (x10 : Int) (x24 : Bool) (x312000 : ByteArray) (x312001 : Int) : impl_PairsValid.j1L x0 x3 x8 x9 x10 x24 x312000 x312001 = if x24 = true then (some false) else (if x3 > 0 then (if 0 ≤ (wrap64 (x3 - 1)) then (if (wrap64 (x3 - 1)) < (x0.length : Int) then (if ((Op.bytesLess (((rd_T29 x0 (wrap64 (x3 - 1))).f0).toList) x312000.toList) = true) then (impl_PairsValid.l0L x0 x8 x9 (wrap64 (x10 + 1))) else (some false)) else (none)) else (none)) else (impl_PairsValid.l0L x0 x8 x9 (wrap64 (x10 + 1)))) := by
  refine LimIs.unique (impl_PairsValid.j1L_is x0 x3 x8 x9 x10 x24 x312000 x312001) (LimIs.step (f := fun k => if x24 = true then (some false) else (if x3 > 0 then (if 0 ≤ (wrap64 (x3 - 1)) then (if (wrap64 (x3 - 1)) < (x0.length : Int) then (if ((Op.bytesLess (((rd_T29 x0 (wrap64 (x3 - 1))).f0).toList) x312000.toList) = true) then (impl_PairsValid.l0 k x0 x8 x9 (wrap64 (x10 + 1))) else (some false)) else (none)) else (none)) else (impl_PairsValid.l0 k x0 x8 x9 (wrap64 (x10 + 1))))) (by simp only [impl_PairsValid.j1]) (fun k => by simp only [impl_PairsValid.j1]) ?_)
  repeat' first
    | (with_reducible exact LimIs.const _)
    | (with_reducible exact impl_PairsValid.l0L_is _ _ _ _)
    | (with_reducible refine LimIs.ite ?_ ?_)
    | (with_reducible refine LimIs.bind ?_ (fun _ => ?_))
theorem impl_PairsValid.fL_eq (l0 : List (S29)) : impl_PairsValid.fL l0 = if (l0.length : Int) > 48 then (some false) else (impl_PairsValid.l0L l0 l0 (l0.length : Int) 0) := by
  refine LimIs.unique (impl_PairsValid.fL_is l0) ?_
  unfold impl_PairsValid.f
  repeat' first
    | (with_reducible exact LimIs.const _)
    | (with_reducible exact impl_PairsValid.l0L_is _ _ _ _)
    | (with_reducible refine LimIs.ite ?_ ?_)
    | (with_reducible refine LimIs.bind ?_ (fun _ => ?_))
/-! ### impl_Pair_string -/
noncomputable def impl_Pair_string.l0L (x0 : List (S29)) (x1 : ByteArray) (x8 : Int) (x9 : Int) (x10 : Int) : Option (Int × Bool) := Lim (fun k => impl_Pair_string.l0 k x0 x1 x8 x9 x10)
theorem impl_Pair_string.l0L_is (x0 : List (S29)) (x1 : ByteArray) (x8 : Int) (x9 : Int) (x10 : Int) : LimIs (fun k => impl_Pair_string.l0 k x0 x1 x8 x9 x10) (impl_Pair_string.l0L x0 x1 x8 x9 x10) := LimIs.of_mono (fun k r h => (impl_Pair_string.mono_l k) x0 x1 x8 x9 x10 r h)
noncomputable def impl_Pair_string.fL (l0 : List (S29)) (a1 : ByteArray) (a2 : Unit) : Option (Int × Bool) := Lim (fun k => impl_Pair_string.f k l0 a1 a2)
theorem impl_Pair_string.fL_is (l0 : List (S29)) (a1 : ByteArray) (a2 : Unit) : LimIs (fun k => impl_Pair_string.f k l0 a1 a2) (impl_Pair_string.fL l0 a1 a2) := LimIs.of_mono (fun k r h => impl_Pair_string.mono l0 a1 a2 k r h)
theorem impl_Pair_string.l0L_eq (x0 : List (S29)) (x1 : ByteArray) (x8 : Int) (x9 : Int) (x10 : Int) : impl_Pair_string.l0L x0 x1 x8 x9 x10 = if x9 < x10 then (if 0 ≤ (wrap64 ((IntKind.u64.wrap (wrap64 (x9 + x10))) / 2)) then (if (wrap64 ((IntKind.u64.wrap (wrap64 (x9 + x10))) / 2)) < (x0.length : Int) then ((impl_pairPlace_1.f ((rd_T29 x0 (wrap64 ((IntKind.u64.wrap (wrap64 (x9 + x10))) / 2))).f0) ((rd_T29 x0 (wrap64 ((IntKind.u64.wrap (wrap64 (x9 + x10))) / 2))).f1) x1).bind fun t320 => (if t320 < 0 then (impl_Pair_string.l0L x0 x1 x8 (wrap64 ((wrap64 ((IntKind.u64.wrap (wrap64 (x9 + x10))) / 2)) + 1)) x10) else (impl_Pair_string.l0L x0 x1 x8 x9 (wrap64 ((IntKind.u64.wrap (wrap64 (x9 + x10))) / 2))))) else (none)) else (none)) else (if x9 < x8 then (if 0 ≤ x9 then (if x9 < (x0.length : Int) then ((impl_pairPlace_1.f ((rd_T29 x0 x9).f0) ((rd_T29 x0 x9).f1) x1).bind fun t322 => (some (x9, (t322 == 0)))) else (none)) else (none)) else (some (x9, false))) := by
  refine LimIs.unique (impl_Pair_string.l0L_is x0 x1 x8 x9 x10) (LimIs.step (f := fun k => if x9 < x10 then (if 0 ≤ (wrap64 ((IntKind.u64.wrap (wrap64 (x9 + x10))) / 2)) then (if (wrap64 ((IntKind.u64.wrap (wrap64 (x9 + x10))) / 2)) < (x0.length : Int) then ((impl_pairPlace_1.f ((rd_T29 x0 (wrap64 ((IntKind.u64.wrap (wrap64 (x9 + x10))) / 2))).f0) ((rd_T29 x0 (wrap64 ((IntKind.u64.wrap (wrap64 (x9 + x10))) / 2))).f1) x1).bind fun t320 => (if t320 < 0 then (impl_Pair_string.l0 k x0 x1 x8 (wrap64 ((wrap64 ((IntKind.u64.wrap (wrap64 (x9 + x10))) / 2)) + 1)) x10) else (impl_Pair_string.l0 k x0 x1 x8 x9 (wrap64 ((IntKind.u64.wrap (wrap64 (x9 + x10))) / 2))))) else (none)) else (none)) else (if x9 < x8 then (if 0 ≤ x9 then (if x9 < (x0.length : Int) then ((impl_pairPlace_1.f ((rd_T29 x0 x9).f0) ((rd_T29 x0 x9).f1) x1).bind fun t322 => (some (x9, (t322 == 0)))) else (none)) else (none)) else (some (x9, false)))) (by simp only [impl_Pair_string.l0]) (fun k => by simp only [impl_Pair_string.l0]) ?_)
  repeat' first
    | (with_reducible exact LimIs.const _)
    | (with_reducible exact impl_Pair_string.l0L_is _ _ _ _ _)
    | (with_reducible refine LimIs.ite ?_ ?_)
    | (with_reducible refine LimIs.bind ?_ (fun _ => ?_))
theorem impl_Pair_string.fL_eq (l0 : List (S29)) (a1 : ByteArray) (a2 : Unit) : impl_Pair_string.fL l0 a1 a2 = impl_Pair_string.l0L l0 a1 (l0.length : Int) 0 (l0.length : Int) := by
  refine LimIs.unique (impl_Pair_string.fL_is l0 a1 a2) ?_
  unfold impl_Pair_string.f
  repeat' first
    | (with_reducible exact LimIs.const _)
    | (with_reducible exact impl_Pair_string.l0L_is _ _ _ _ _)
    | (with_reducible refine LimIs.ite ?_ ?_)
    | (with_reducible refine LimIs.bind ?_ (fun _ => ?_))
/-! ### impl_pairPlace -/
noncomputable def impl_pairPlace.fL (l0 : List (S29)) (a1 : ByteArray) : Option (Int × Bool) := Lim (fun k => impl_pairPlace.f k l0 a1)
theorem impl_pairPlace.fL_is (l0 : List (S29)) (a1 : ByteArray) : LimIs (fun k => impl_pairPlace.f k l0 a1) (impl_pairPlace.fL l0 a1) := LimIs.of_mono (fun k r h => impl_pairPlace.mono l0 a1 k r h)
theorem impl_pairPlace.fL_eq (l0 : List (S29)) (a1 : ByteArray) : impl_pairPlace.fL l0 a1 = (impl_Pair_string.fL l0 a1 ()).bind fun bt323 => (some (bt323.1, bt323.2)) := by
  refine LimIs.unique (impl_pairPlace.fL_is l0 a1) ?_
  unfold impl_pairPlace.f
  repeat' first
    | (with_reducible exact LimIs.const _)
    | (with_reducible exact impl_Pair_string.fL_is _ _ _)
    | (with_reducible refine LimIs.ite ?_ ?_)
    | (with_reducible refine LimIs.bind ?_ (fun _ => ?_))
/-! ### impl_PairGet -/
noncomputable def impl_PairGet.fL (l0 : List (S29)) (a1 : ByteArray) : Option (Int) := Lim (fun k => impl_PairGet.f k l0 a1)
theorem impl_PairGet.fL_is (l0 : List (S29)) (a1 : ByteArray) : LimIs (fun k => impl_PairGet.f k l0 a1) (impl_PairGet.fL l0 a1) := LimIs.of_mono (fun k r h => impl_PairGet.mono l0 a1 k r h)
theorem impl_PairGet.fL_eq (l0 : List (S29)) (a1 : ByteArray) : impl_PairGet.fL l0 a1 = (impl_PairsValid.fL l0).bind fun t325 => (if t325 = true then ((impl_pairPlace.fL l0 a1).bind fun bt326 => (if bt326.2 = true then (if 0 ≤ bt326.1 then (if bt326.1 < (l0.length : Int) then (some ((rd_T29 l0 bt326.1).f1)) else (none)) else (none)) else (some (-1)))) else (some (-1))) := by
  refine LimIs.unique (impl_PairGet.fL_is l0 a1) ?_
  unfold impl_PairGet.f
  repeat' first
    | (with_reducible exact LimIs.const _)
    | (with_reducible exact impl_PairsValid.fL_is _)
    | (with_reducible exact impl_pairPlace.fL_is _ _)
    | (with_reducible refine LimIs.ite ?_ ?_)
    | (with_reducible refine LimIs.bind ?_ (fun _ => ?_))
/-! ### impl_PairDrop -/
noncomputable def impl_PairDrop.fL (l0 : List (S29)) (a1 : ByteArray) : Option ((List (S29)) × Bool) := Lim (fun k => impl_PairDrop.f k l0 a1)
theorem impl_PairDrop.fL_is (l0 : List (S29)) (a1 : ByteArray) : LimIs (fun k => impl_PairDrop.f k l0 a1) (impl_PairDrop.fL l0 a1) := LimIs.of_mono (fun k r h => impl_PairDrop.mono l0 a1 k r h)
theorem impl_PairDrop.fL_eq (l0 : List (S29)) (a1 : ByteArray) : impl_PairDrop.fL l0 a1 = (impl_PairsValid.fL l0).bind fun t352 => (if t352 = true then ((impl_pairPlace.fL l0 a1).bind fun bt353 => (if bt353.2 = true then ((impl_Pair_137.f l0 bt353.1 1 ([] : List (S29))).bind fun t355 => (some (t355, true))) else ((impl_Pair_96.f l0).bind fun t358 => (some (t358, false))))) else (some (([] : List (S29)), false))) := by
  refine LimIs.unique (impl_PairDrop.fL_is l0 a1) ?_
  unfold impl_PairDrop.f
  repeat' first
    | (with_reducible exact LimIs.const _)
    | (with_reducible exact impl_PairsValid.fL_is _)
    | (with_reducible exact impl_pairPlace.fL_is _ _)
    | (with_reducible refine LimIs.ite ?_ ?_)
    | (with_reducible refine LimIs.bind ?_ (fun _ => ?_))
/-! ### impl_PairPut -/
noncomputable def impl_PairPut.j0L (x0 : List (S29)) (x1 : ByteArray) (x2 : Int) (x22 : Bool) : Option ((List (S29)) × Bool) := Lim (fun k => impl_PairPut.j0 k x0 x1 x2 x22)
theorem impl_PairPut.j0L_is (x0 : List (S29)) (x1 : ByteArray) (x2 : Int) (x22 : Bool) : LimIs (fun k => impl_PairPut.j0 k x0 x1 x2 x22) (impl_PairPut.j0L x0 x1 x2 x22) := LimIs.of_mono (fun k r h => (impl_PairPut.mono_l k) x0 x1 x2 x22 r h)
noncomputable def impl_PairPut.fL (l0 : List (S29)) (a1 : ByteArray) (a2 : Int) : Option ((List (S29)) × Bool) := Lim (fun k => impl_PairPut.f k l0 a1 a2)
theorem impl_PairPut.fL_is (l0 : List (S29)) (a1 : ByteArray) (a2 : Int) : LimIs (fun k => impl_PairPut.f k l0 a1 a2) (impl_PairPut.fL l0 a1 a2) := LimIs.of_mono (fun k r h => impl_PairPut.mono l0 a1 a2 k r h)
theorem impl_PairPut.j0L_eq (x0 : List (S29)) (x1 : ByteArray) (x2 : Int) (x22 : Bool) : impl_PairPut.j0L x0 x1 x2 x22 = if x22 = true then (some (([] : List (S29)), false)) else ((impl_pairPlace.fL x0 x1).bind fun bt364 => (if bt364.2 = true then ((impl_Pair_137.f x0 bt364.1 1 (([(⟨x1, x2⟩ : S29)] : List (S29)))).bind fun t369 => (some (t369, true))) else (if (x0.length : Int) ≥ 48 then ((impl_Pair_96.f x0).bind fun t372 => (some (t372, false))) else ((impl_Pair_137.f x0 bt364.1 0 (([(⟨x1, x2⟩ : S29)] : List (S29)))).bind fun t378 => (some (t378, true)))))) := by
  refine LimIs.unique (impl_PairPut.j0L_is x0 x1 x2 x22) (LimIs.step (f := fun k => if x22 = true then (some (([] : List (S29)), false)) else ((impl_pairPlace.f k x0 x1).bind fun bt364 => (if bt364.2 = true then ((impl_Pair_137.f x0 bt364.1 1 (([(⟨x1, x2⟩ : S29)] : List (S29)))).bind fun t369 => (some (t369, true))) else (if (x0.length : Int) ≥ 48 then ((impl_Pair_96.f x0).bind fun t372 => (some (t372, false))) else ((impl_Pair_137.f x0 bt364.1 0 (([(⟨x1, x2⟩ : S29)] : List (S29)))).bind fun t378 => (some (t378, true))))))) (by simp only [impl_PairPut.j0]) (fun k => by simp only [impl_PairPut.j0]) ?_)
  repeat' first
    | (with_reducible exact LimIs.const _)
    | (with_reducible exact impl_pairPlace.fL_is _ _)
    | (with_reducible refine LimIs.ite ?_ ?_)
    | (with_reducible refine LimIs.bind ?_ (fun _ => ?_))
theorem impl_PairPut.fL_eq (l0 : List (S29)) (a1 : ByteArray) (a2 : Int) : impl_PairPut.fL l0 a1 a2 = (impl_PairsValid.fL l0).bind fun t361 => (if t361 = true then ((impl_KeyValid.fL a1).bind fun t362 => (if t362 = true then ((impl_valueValid.f a2).bind fun t363 => (impl_PairPut.j0L l0 a1 a2 (!t363))) else (impl_PairPut.j0L l0 a1 a2 true))) else (impl_PairPut.j0L l0 a1 a2 true)) := by
  refine LimIs.unique (impl_PairPut.fL_is l0 a1 a2) ?_
  unfold impl_PairPut.f
  repeat' first
    | (with_reducible exact LimIs.const _)
    | (with_reducible exact impl_KeyValid.fL_is _)
    | (with_reducible exact impl_PairPut.j0L_is _ _ _ _)
    | (with_reducible exact impl_PairsValid.fL_is _)
    | (with_reducible refine LimIs.ite ?_ ?_)
    | (with_reducible refine LimIs.bind ?_ (fun _ => ?_))
/-! ### impl_mapAfter -/
noncomputable def impl_mapAfter.fL (l0 : List (S29)) (a1_0 : Int) (a1_1 : ByteArray) (a1_2 : Int) (a1_3 : Int) (a2 : Int) : Option ((List (S29)) × Bool) := Lim (fun k => impl_mapAfter.f k l0 a1_0 a1_1 a1_2 a1_3 a2)
theorem impl_mapAfter.fL_is (l0 : List (S29)) (a1_0 : Int) (a1_1 : ByteArray) (a1_2 : Int) (a1_3 : Int) (a2 : Int) : LimIs (fun k => impl_mapAfter.f k l0 a1_0 a1_1 a1_2 a1_3 a2) (impl_mapAfter.fL l0 a1_0 a1_1 a1_2 a1_3 a2) := LimIs.of_mono (fun k r h => impl_mapAfter.mono l0 a1_0 a1_1 a1_2 a1_3 a2 k r h)
theorem impl_mapAfter.fL_eq (l0 : List (S29)) (a1_0 : Int) (a1_1 : ByteArray) (a1_2 : Int) (a1_3 : Int) (a2 : Int) : impl_mapAfter.fL l0 a1_0 a1_1 a1_2 a1_3 a2 = (impl_PairGet.fL l0 a1_1).bind fun t382 => (if a2 = t382 then (if a1_0 = 3 then ((impl_PairDrop.fL l0 a1_1).bind fun bt383 => (some (bt383.1, true))) else (if a1_0 = 2 then ((impl_PairPut.fL l0 a1_1 a1_2).bind fun bt387 => (some (bt387.1, bt387.2))) else (if a1_0 = 4 then (if a1_3 = t382 then ((impl_PairPut.fL l0 a1_1 a1_2).bind fun bt391 => (some (bt391.1, bt391.2))) else (some (l0, true))) else (some (l0, true))))) else (some (([] : List (S29)), false))) := by
  refine LimIs.unique (impl_mapAfter.fL_is l0 a1_0 a1_1 a1_2 a1_3 a2) ?_
  unfold impl_mapAfter.f
  repeat' first
    | (with_reducible exact LimIs.const _)
    | (with_reducible exact impl_PairDrop.fL_is _ _)
    | (with_reducible exact impl_PairGet.fL_is _ _)
    | (with_reducible exact impl_PairPut.fL_is _ _ _)
    | (with_reducible refine LimIs.ite ?_ ?_)
    | (with_reducible refine LimIs.bind ?_ (fun _ => ?_))
/-! ### impl_RunHistory -/
noncomputable def impl_RunHistory.l0L (x4 : List (S29)) (x11 : List (S140)) (x12 : Int) (x13 : Int) : Option ((List (S29)) × Bool) := Lim (fun k => impl_RunHistory.l0 k x4 x11 x12 x13)
theorem impl_RunHistory.l0L_is (x4 : List (S29)) (x11 : List (S140)) (x12 : Int) (x13 : Int) : LimIs (fun k => impl_RunHistory.l0 k x4 x11 x12 x13) (impl_RunHistory.l0L x4 x11 x12 x13) := LimIs.of_mono (fun k r h => (impl_RunHistory.mono_l k).1 x4 x11 x12 x13 r h)
noncomputable def impl_RunHistory.j1L (x4 : List (S29)) (x11 : List (S140)) (x12 : Int) (x13 : Int) (x27 : Bool) (x397000 : Int) (x397001 : Int) (x397002 : Int) (x397003 : ByteArray) (x397004 : Int) (x397005 : Int) (x397006 : Int) : Option ((List (S29)) × Bool) := Lim (fun k => impl_RunHistory.j1 k x4 x11 x12 x13 x27 x397000 x397001 x397002 x397003 x397004 x397005 x397006)
theorem impl_RunHistory.j1L_is (x4 : List (S29)) (x11 : List (S140)) (x12 : Int) (x13 : Int) (x27 : Bool) (x397000 : Int) (x397001 : Int) (x397002 : Int) (x397003 : ByteArray) (x397004 : Int) (x397005 : Int) (x397006 : Int) : LimIs (fun k => impl_RunHistory.j1 k x4 x11 x12 x13 x27 x397000 x397001 x397002 x397003 x397004 x397005 x397006) (impl_RunHistory.j1L x4 x11 x12 x13 x27 x397000 x397001 x397002 x397003 x397004 x397005 x397006) := LimIs.of_mono (fun k r h => (impl_RunHistory.mono_l k).2 x4 x11 x12 x13 x27 x397000 x397001 x397002 x397003 x397004 x397005 x397006 r h)
noncomputable def impl_RunHistory.fL (l0 : List (S140)) : Option ((List (S29)) × Bool) := Lim (fun k => impl_RunHistory.f k l0)
theorem impl_RunHistory.fL_is (l0 : List (S140)) : LimIs (fun k => impl_RunHistory.f k l0) (impl_RunHistory.fL l0) := LimIs.of_mono (fun k r h => impl_RunHistory.mono l0 k r h)
theorem impl_RunHistory.l0L_eq (x4 : List (S29)) (x11 : List (S140)) (x12 : Int) (x13 : Int) : impl_RunHistory.l0L x4 x11 x12 x13 = if x13 < x12 then (if 0 ≤ x13 then (if x13 < (x11.length : Int) then ((impl_EntryValid.fL ((rd_T140 x11 x13).f0.f0) ((rd_T140 x11 x13).f0.f1) ((rd_T140 x11 x13).f0.f2.f0) ((rd_T140 x11 x13).f0.f2.f1) ((rd_T140 x11 x13).f0.f2.f2) ((rd_T140 x11 x13).f0.f2.f3)).bind fun t397 => (if t397 = true then (impl_RunHistory.j1L x4 x11 x12 x13 (((rd_T140 x11 x13).f0.f2.f0) == 5) ((rd_T140 x11 x13).f0.f0) ((rd_T140 x11 x13).f0.f1) ((rd_T140 x11 x13).f0.f2.f0) ((rd_T140 x11 x13).f0.f2.f1) ((rd_T140 x11 x13).f0.f2.f2) ((rd_T140 x11 x13).f0.f2.f3) ((rd_T140 x11 x13).f1)) else (impl_RunHistory.j1L x4 x11 x12 x13 true ((rd_T140 x11 x13).f0.f0) ((rd_T140 x11 x13).f0.f1) ((rd_T140 x11 x13).f0.f2.f0) ((rd_T140 x11 x13).f0.f2.f1) ((rd_T140 x11 x13).f0.f2.f2) ((rd_T140 x11 x13).f0.f2.f3) ((rd_T140 x11 x13).f1)))) else (none)) else (none)) else (some (x4, true)) := by
  refine LimIs.unique (impl_RunHistory.l0L_is x4 x11 x12 x13) (LimIs.step (f := fun k => if x13 < x12 then (if 0 ≤ x13 then (if x13 < (x11.length : Int) then ((impl_EntryValid.f k ((rd_T140 x11 x13).f0.f0) ((rd_T140 x11 x13).f0.f1) ((rd_T140 x11 x13).f0.f2.f0) ((rd_T140 x11 x13).f0.f2.f1) ((rd_T140 x11 x13).f0.f2.f2) ((rd_T140 x11 x13).f0.f2.f3)).bind fun t397 => (if t397 = true then (impl_RunHistory.j1 k x4 x11 x12 x13 (((rd_T140 x11 x13).f0.f2.f0) == 5) ((rd_T140 x11 x13).f0.f0) ((rd_T140 x11 x13).f0.f1) ((rd_T140 x11 x13).f0.f2.f0) ((rd_T140 x11 x13).f0.f2.f1) ((rd_T140 x11 x13).f0.f2.f2) ((rd_T140 x11 x13).f0.f2.f3) ((rd_T140 x11 x13).f1)) else (impl_RunHistory.j1 k x4 x11 x12 x13 true ((rd_T140 x11 x13).f0.f0) ((rd_T140 x11 x13).f0.f1) ((rd_T140 x11 x13).f0.f2.f0) ((rd_T140 x11 x13).f0.f2.f1) ((rd_T140 x11 x13).f0.f2.f2) ((rd_T140 x11 x13).f0.f2.f3) ((rd_T140 x11 x13).f1)))) else (none)) else (none)) else (some (x4, true))) (by simp only [impl_RunHistory.l0]) (fun k => by simp only [impl_RunHistory.l0]) ?_)
  repeat' first
    | (with_reducible exact LimIs.const _)
    | (with_reducible exact impl_EntryValid.fL_is _ _ _ _ _ _)
    | (with_reducible exact impl_RunHistory.j1L_is _ _ _ _ _ _ _ _ _ _ _ _)
    | (with_reducible refine LimIs.ite ?_ ?_)
    | (with_reducible refine LimIs.bind ?_ (fun _ => ?_))
theorem impl_RunHistory.j1L_eq (x4 : List (S29)) (x11 : List (S140)) (x12 : Int) (x13 : Int) (x27 : Bool) (x397000 : Int) (x397001 : Int) (x397002 : Int) (x397003 : ByteArray) (x397004 : Int) (x397005 : Int) (x397006 : Int) : impl_RunHistory.j1L x4 x11 x12 x13 x27 x397000 x397001 x397002 x397003 x397004 x397005 x397006 = if x27 = true then (some (([] : List (S29)), false)) else (if x397006 = (-2) then (impl_RunHistory.l0L x4 x11 x12 (wrap64 (x13 + 1))) else ((impl_mapAfter.fL x4 x397002 x397003 x397004 x397005 x397006).bind fun bt398 => (if bt398.2 = true then (impl_RunHistory.l0L bt398.1 x11 x12 (wrap64 (x13 + 1))) else (some (([] : List (S29)), false))))) := by
  refine LimIs.unique (impl_RunHistory.j1L_is x4 x11 x12 x13 x27 x397000 x397001 x397002 x397003 x397004 x397005 x397006) (LimIs.step (f := fun k => if x27 = true then (some (([] : List (S29)), false)) else (if x397006 = (-2) then (impl_RunHistory.l0 k x4 x11 x12 (wrap64 (x13 + 1))) else ((impl_mapAfter.f k x4 x397002 x397003 x397004 x397005 x397006).bind fun bt398 => (if bt398.2 = true then (impl_RunHistory.l0 k bt398.1 x11 x12 (wrap64 (x13 + 1))) else (some (([] : List (S29)), false)))))) (by simp only [impl_RunHistory.j1]) (fun k => by simp only [impl_RunHistory.j1]) ?_)
  repeat' first
    | (with_reducible exact LimIs.const _)
    | (with_reducible exact impl_RunHistory.l0L_is _ _ _ _)
    | (with_reducible exact impl_mapAfter.fL_is _ _ _ _ _ _)
    | (with_reducible refine LimIs.ite ?_ ?_)
    | (with_reducible refine LimIs.bind ?_ (fun _ => ?_))
theorem impl_RunHistory.fL_eq (l0 : List (S140)) : impl_RunHistory.fL l0 = if (l0.length : Int) > 200 then (some (([] : List (S29)), false)) else (impl_RunHistory.l0L ([] : List (S29)) l0 (l0.length : Int) 0) := by
  refine LimIs.unique (impl_RunHistory.fL_is l0) ?_
  unfold impl_RunHistory.f
  repeat' first
    | (with_reducible exact LimIs.const _)
    | (with_reducible exact impl_RunHistory.l0L_is _ _ _ _)
    | (with_reducible refine LimIs.ite ?_ ?_)
    | (with_reducible refine LimIs.bind ?_ (fun _ => ?_))
/-! ### impl_RepliesRight -/
noncomputable def impl_RepliesRight.j0L (x0 : List (S42)) (x1 : List Int) (x20 : Bool) : Option (Bool) := Lim (fun k => impl_RepliesRight.j0 k x0 x1 x20)
theorem impl_RepliesRight.j0L_is (x0 : List (S42)) (x1 : List Int) (x20 : Bool) : LimIs (fun k => impl_RepliesRight.j0 k x0 x1 x20) (impl_RepliesRight.j0L x0 x1 x20) := LimIs.of_mono (fun k r h => (impl_RepliesRight.mono_l k).1 x0 x1 x20 r h)
noncomputable def impl_RepliesRight.l0L (x0 : List (S42)) (x5 : List (S140)) (x21 : List Int) (x22 : Int) (x23 : Int) : Option (Bool) := Lim (fun k => impl_RepliesRight.l0 k x0 x5 x21 x22 x23)
theorem impl_RepliesRight.l0L_is (x0 : List (S42)) (x5 : List (S140)) (x21 : List Int) (x22 : Int) (x23 : Int) : LimIs (fun k => impl_RepliesRight.l0 k x0 x5 x21 x22 x23) (impl_RepliesRight.l0L x0 x5 x21 x22 x23) := LimIs.of_mono (fun k r h => (impl_RepliesRight.mono_l k).2 x0 x5 x21 x22 x23 r h)
noncomputable def impl_RepliesRight.fL (l0 : List (S42)) (l1 : List Int) : Option (Bool) := Lim (fun k => impl_RepliesRight.f k l0 l1)
theorem impl_RepliesRight.fL_is (l0 : List (S42)) (l1 : List Int) : LimIs (fun k => impl_RepliesRight.f k l0 l1) (impl_RepliesRight.fL l0 l1) := LimIs.of_mono (fun k r h => impl_RepliesRight.mono l0 l1 k r h)
theorem impl_RepliesRight.j0L_eq (x0 : List (S42)) (x1 : List Int) (x20 : Bool) : impl_RepliesRight.j0L x0 x1 x20 = if x20 = true then (some false) else (impl_RepliesRight.l0L x0 ([] : List (S140)) x1 (x1.length : Int) 0) := by
  refine LimIs.unique (impl_RepliesRight.j0L_is x0 x1 x20) (LimIs.step (f := fun k => if x20 = true then (some false) else (impl_RepliesRight.l0 k x0 ([] : List (S140)) x1 (x1.length : Int) 0)) (by simp only [impl_RepliesRight.j0]) (fun k => by simp only [impl_RepliesRight.j0]) ?_)
  repeat' first
    | (with_reducible exact LimIs.const _)
    | (with_reducible exact impl_RepliesRight.l0L_is _ _ _ _ _)
    | (with_reducible refine LimIs.ite ?_ ?_)
    | (with_reducible refine LimIs.bind ?_ (fun _ => ?_))
theorem impl_RepliesRight.l0L_eq (x0 : List (S42)) (x5 : List (S140)) (x21 : List Int) (x22 : Int) (x23 : Int) : impl_RepliesRight.l0L x0 x5 x21 x22 x23 = if x23 < x22 then (if 0 ≤ x23 then (if x23 < (x21.length : Int) then (if 0 ≤ (rd x21 x23) then (if (rd x21 x23) < (x0.length : Int) then (if x5.length < 2199023255552 then (impl_RepliesRight.l0L x0 (x5 ++ [(⟨(⟨(rd_T42 x0 (rd x21 x23)).f0, (rd_T42 x0 (rd x21 x23)).f1, (⟨(rd_T42 x0 (rd x21 x23)).f2.f0, (rd_T42 x0 (rd x21 x23)).f2.f1, (rd_T42 x0 (rd x21 x23)).f2.f2, (rd_T42 x0 (rd x21 x23)).f2.f3⟩ : S40)⟩ : S138), (rd_T42 x0 (rd x21 x23)).f3⟩ : S140)]) x21 x22 (wrap64 (x23 + 1))) else (none)) else (none)) else (none)) else (none)) else (none)) else ((impl_RunHistory.fL x5).bind fun bt410 => (some bt410.2)) := by
  refine LimIs.unique (impl_RepliesRight.l0L_is x0 x5 x21 x22 x23) (LimIs.step (f := fun k => if x23 < x22 then (if 0 ≤ x23 then (if x23 < (x21.length : Int) then (if 0 ≤ (rd x21 x23) then (if (rd x21 x23) < (x0.length : Int) then (if x5.length < 2199023255552 then (impl_RepliesRight.l0 k x0 (x5 ++ [(⟨(⟨(rd_T42 x0 (rd x21 x23)).f0, (rd_T42 x0 (rd x21 x23)).f1, (⟨(rd_T42 x0 (rd x21 x23)).f2.f0, (rd_T42 x0 (rd x21 x23)).f2.f1, (rd_T42 x0 (rd x21 x23)).f2.f2, (rd_T42 x0 (rd x21 x23)).f2.f3⟩ : S40)⟩ : S138), (rd_T42 x0 (rd x21 x23)).f3⟩ : S140)]) x21 x22 (wrap64 (x23 + 1))) else (none)) else (none)) else (none)) else (none)) else (none)) else ((impl_RunHistory.f k x5).bind fun bt410 => (some bt410.2))) (by simp only [impl_RepliesRight.l0]) (fun k => by simp only [impl_RepliesRight.l0]) ?_)
  repeat' first
    | (with_reducible exact LimIs.const _)
    | (with_reducible exact impl_RepliesRight.l0L_is _ _ _ _ _)
    | (with_reducible exact impl_RunHistory.fL_is _)
    | (with_reducible refine LimIs.ite ?_ ?_)
    | (with_reducible refine LimIs.bind ?_ (fun _ => ?_))
theorem impl_RepliesRight.fL_eq (l0 : List (S42)) (l1 : List Int) : impl_RepliesRight.fL l0 l1 = (impl_resultsValid.fL l0).bind fun t402 => (if t402 = true then ((impl_OrderValid.fL (l0.length : Int) l1).bind fun t403 => (impl_RepliesRight.j0L l0 l1 (!t403))) else (impl_RepliesRight.j0L l0 l1 true)) := by
  refine LimIs.unique (impl_RepliesRight.fL_is l0 l1) ?_
  unfold impl_RepliesRight.f
  repeat' first
    | (with_reducible exact LimIs.const _)
    | (with_reducible exact impl_OrderValid.fL_is _ _)
    | (with_reducible exact impl_RepliesRight.j0L_is _ _ _)
    | (with_reducible exact impl_resultsValid.fL_is _)
    | (with_reducible refine LimIs.ite ?_ ?_)
    | (with_reducible refine LimIs.bind ?_ (fun _ => ?_))
/-! ### laws_eqResultS -/
noncomputable def laws_eqResultS.l0L (x0 : List (S42)) (x1 : List (S42)) (x5 : Int) : Option (Bool) := Lim (fun k => laws_eqResultS.l0 k x0 x1 x5)
theorem laws_eqResultS.l0L_is (x0 : List (S42)) (x1 : List (S42)) (x5 : Int) : LimIs (fun k => laws_eqResultS.l0 k x0 x1 x5) (laws_eqResultS.l0L x0 x1 x5) := LimIs.of_mono (fun k r h => (laws_eqResultS.mono_l k) x0 x1 x5 r h)
noncomputable def laws_eqResultS.fL (l0 : List (S42)) (l1 : List (S42)) : Option (Bool) := Lim (fun k => laws_eqResultS.f k l0 l1)
theorem laws_eqResultS.fL_is (l0 : List (S42)) (l1 : List (S42)) : LimIs (fun k => laws_eqResultS.f k l0 l1) (laws_eqResultS.fL l0 l1) := LimIs.of_mono (fun k r h => laws_eqResultS.mono l0 l1 k r h)
theorem laws_eqResultS.l0L_eq (x0 : List (S42)) (x1 : List (S42)) (x5 : Int) : laws_eqResultS.l0L x0 x1 x5 = if x5 < (x0.length : Int) then (if 0 ≤ x5 then (if x5 < (x1.length : Int) then ((laws_eqResult.f ((rd_T42 x0 x5).f0) ((rd_T42 x0 x5).f1) ((rd_T42 x0 x5).f2.f0) ((rd_T42 x0 x5).f2.f1) ((rd_T42 x0 x5).f2.f2) ((rd_T42 x0 x5).f2.f3) ((rd_T42 x0 x5).f3) ((rd_T42 x0 x5).f4) ((rd_T42 x0 x5).f5) ((rd_T42 x1 x5).f0) ((rd_T42 x1 x5).f1) ((rd_T42 x1 x5).f2.f0) ((rd_T42 x1 x5).f2.f1) ((rd_T42 x1 x5).f2.f2) ((rd_T42 x1 x5).f2.f3) ((rd_T42 x1 x5).f3) ((rd_T42 x1 x5).f4) ((rd_T42 x1 x5).f5)).bind fun t421 => (if t421 = true then (laws_eqResultS.l0L x0 x1 (wrap64 (x5 + 1))) else (some false))) else (none)) else (none)) else (some true) := by
  refine LimIs.unique (laws_eqResultS.l0L_is x0 x1 x5) (LimIs.step (f := fun k => if x5 < (x0.length : Int) then (if 0 ≤ x5 then (if x5 < (x1.length : Int) then ((laws_eqResult.f ((rd_T42 x0 x5).f0) ((rd_T42 x0 x5).f1) ((rd_T42 x0 x5).f2.f0) ((rd_T42 x0 x5).f2.f1) ((rd_T42 x0 x5).f2.f2) ((rd_T42 x0 x5).f2.f3) ((rd_T42 x0 x5).f3) ((rd_T42 x0 x5).f4) ((rd_T42 x0 x5).f5) ((rd_T42 x1 x5).f0) ((rd_T42 x1 x5).f1) ((rd_T42 x1 x5).f2.f0) ((rd_T42 x1 x5).f2.f1) ((rd_T42 x1 x5).f2.f2) ((rd_T42 x1 x5).f2.f3) ((rd_T42 x1 x5).f3) ((rd_T42 x1 x5).f4) ((rd_T42 x1 x5).f5)).bind fun t421 => (if t421 = true then (laws_eqResultS.l0 k x0 x1 (wrap64 (x5 + 1))) else (some false))) else (none)) else (none)) else (some true)) (by simp only [laws_eqResultS.l0]) (fun k => by simp only [laws_eqResultS.l0]) ?_)
  repeat' first
    | (with_reducible exact LimIs.const _)
    | (with_reducible exact laws_eqResultS.l0L_is _ _ _)
    | (with_reducible refine LimIs.ite ?_ ?_)
    | (with_reducible refine LimIs.bind ?_ (fun _ => ?_))
theorem laws_eqResultS.fL_eq (l0 : List (S42)) (l1 : List (S42)) : laws_eqResultS.fL l0 l1 = if (l0.length : Int) = (l1.length : Int) then (laws_eqResultS.l0L l0 l1 0) else (some false) := by
  refine LimIs.unique (laws_eqResultS.fL_is l0 l1) ?_
  unfold laws_eqResultS.f
  repeat' first
    | (with_reducible exact LimIs.const _)
    | (with_reducible exact laws_eqResultS.l0L_is _ _ _)
    | (with_reducible refine LimIs.ite ?_ ?_)
    | (with_reducible refine LimIs.bind ?_ (fun _ => ?_))
/-! ### laws_FnExactRepliesRight -/
noncomputable def laws_FnExactRepliesRight.fL (l0 : List (S135)) (l1 : List Int) : Option (Bool) := Lim (fun k => laws_FnExactRepliesRight.f k l0 l1)
theorem laws_FnExactRepliesRight.fL_is (l0 : List (S135)) (l1 : List Int) : LimIs (fun k => laws_FnExactRepliesRight.f k l0 l1) (laws_FnExactRepliesRight.fL l0 l1) := LimIs.of_mono (fun k r h => laws_FnExactRepliesRight.mono l0 l1 k r h)
theorem laws_FnExactRepliesRight.fL_eq (l0 : List (S135)) (l1 : List Int) : laws_FnExactRepliesRight.fL l0 l1 = if (l1.length : Int) > 1048576 then (some true) else ((laws_szResultS.fL l0 1048576).bind fun t422 => (if t422 < 0 then (some true) else ((laws_toResultS.fL l0).bind fun t423 => ((laws_toIntS.fL l1).bind fun t426 => ((spec_RepliesRight.fL t423 t426).bind fun t429 => ((laws_toResultS.fL l0).bind fun t430 => ((laws_toIntS.fL l1).bind fun t433 => ((impl_RepliesRight.fL t430 t433).bind fun t436 => (if (t436 != t429) = true then (some false) else ((laws_toResultS.fL l0).bind fun t437 => ((laws_eqResultS.fL t430 t437).bind fun t440 => (if t440 = true then ((laws_toIntS.fL l1).bind fun t441 => ((laws_eqIntS.fL t433 t441).bind fun t444 => (if t444 = true then (some true) else (some false)))) else (some false))))))))))))) := by
  refine LimIs.unique (laws_FnExactRepliesRight.fL_is l0 l1) ?_
  unfold laws_FnExactRepliesRight.f
  repeat' first
    | (with_reducible exact LimIs.const _)
    | (with_reducible exact impl_RepliesRight.fL_is _ _)
    | (with_reducible exact laws_eqIntS.fL_is _ _)
    | (with_reducible exact laws_eqResultS.fL_is _ _)
    | (with_reducible exact laws_szResultS.fL_is _ _)
    | (with_reducible exact laws_toIntS.fL_is _)
    | (with_reducible exact laws_toResultS.fL_is _)
    | (with_reducible exact spec_RepliesRight.fL_is _ _)
    | (with_reducible refine LimIs.ite ?_ ?_)
    | (with_reducible refine LimIs.bind ?_ (fun _ => ?_))
end Go.Proofs.Ytfeeifefmenlmaa.PFnExactRepliesRight
