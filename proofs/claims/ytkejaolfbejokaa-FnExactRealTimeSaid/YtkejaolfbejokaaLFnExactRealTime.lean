/- The limits of the printed functions, and their equations. Written by lim.py out of the print. No condition. -/
import Derived.Test.YtkejaolfbejokaaOFnExactRealTime
import Derived.Test.YtkejaolfbejokaaLim
namespace Go.Proofs.Ytkejaolfbejokaa.PFnExactRealTime
open Go.RowKit Go.Proofs.YtkejaolfbejokaaW.PrintWords Go.Proofs.YtkejaolfbejokaaW.PrintLast Go.Proofs.YtkejaolfbejokaaW.PrintMore Go.Proofs.Ytkejaolfbejokaa.Lim
set_option linter.unusedVariables false

/-! ### laws_szResultS -/
noncomputable def laws_szResultS.l0L (x0 : List (S118)) (x1 : Int) (x5 : Int) : Option (Int) := Lim (fun k => laws_szResultS.l0 k x0 x1 x5)
theorem laws_szResultS.l0L_is (x0 : List (S118)) (x1 : Int) (x5 : Int) : LimIs (fun k => laws_szResultS.l0 k x0 x1 x5) (laws_szResultS.l0L x0 x1 x5) := LimIs.of_mono (fun k r h => (laws_szResultS.mono_l k) x0 x1 x5 r h)
noncomputable def laws_szResultS.fL (l0 : List (S118)) (a1 : Int) : Option (Int) := Lim (fun k => laws_szResultS.f k l0 a1)
theorem laws_szResultS.fL_is (l0 : List (S118)) (a1 : Int) : LimIs (fun k => laws_szResultS.f k l0 a1) (laws_szResultS.fL l0 a1) := LimIs.of_mono (fun k r h => laws_szResultS.mono l0 a1 k r h)
theorem laws_szResultS.l0L_eq (x0 : List (S118)) (x1 : Int) (x5 : Int) : laws_szResultS.l0L x0 x1 x5 = if x5 < (x0.length : Int) then (if 0 ≤ x5 then ((laws_szResult.f ((rd_T118 x0 x5).f0) ((rd_T118 x0 x5).f1) ((rd_T118 x0 x5).f2.f0) ((rd_T118 x0 x5).f2.f1) ((rd_T118 x0 x5).f2.f2) ((rd_T118 x0 x5).f2.f3) ((rd_T118 x0 x5).f3) ((rd_T118 x0 x5).f4) ((rd_T118 x0 x5).f5) x1).bind fun t105 => (if t105 < 0 then (some (-1)) else (laws_szResultS.l0L x0 t105 (wrap64 (x5 + 1))))) else (none)) else (some x1) := by
  refine LimIs.unique (laws_szResultS.l0L_is x0 x1 x5) (LimIs.step (f := fun k => if x5 < (x0.length : Int) then (if 0 ≤ x5 then ((laws_szResult.f ((rd_T118 x0 x5).f0) ((rd_T118 x0 x5).f1) ((rd_T118 x0 x5).f2.f0) ((rd_T118 x0 x5).f2.f1) ((rd_T118 x0 x5).f2.f2) ((rd_T118 x0 x5).f2.f3) ((rd_T118 x0 x5).f3) ((rd_T118 x0 x5).f4) ((rd_T118 x0 x5).f5) x1).bind fun t105 => (if t105 < 0 then (some (-1)) else (laws_szResultS.l0 k x0 t105 (wrap64 (x5 + 1))))) else (none)) else (some x1)) (by simp only [laws_szResultS.l0]) (fun k => by simp only [laws_szResultS.l0]) ?_)
  repeat' first
    | (with_reducible exact LimIs.const _)
    | (with_reducible exact laws_szResultS.l0L_is _ _ _)
    | (with_reducible refine LimIs.ite ?_ ?_)
    | (with_reducible refine LimIs.bind ?_ (fun _ => ?_))
theorem laws_szResultS.fL_eq (l0 : List (S118)) (a1 : Int) : laws_szResultS.fL l0 a1 = if (wrap64 (a1 - (l0.length : Int))) < 0 then (some (-1)) else (laws_szResultS.l0L l0 (wrap64 (a1 - (l0.length : Int))) 0) := by
  refine LimIs.unique (laws_szResultS.fL_is l0 a1) ?_
  unfold laws_szResultS.f
  repeat' first
    | (with_reducible exact LimIs.const _)
    | (with_reducible exact laws_szResultS.l0L_is _ _ _)
    | (with_reducible refine LimIs.ite ?_ ?_)
    | (with_reducible refine LimIs.bind ?_ (fun _ => ?_))
/-! ### spec_OrderValid -/
noncomputable def spec_OrderValid.j0L (x0 : Int) (x1 : List Int) (x14 : Bool) : Option (Bool) := Lim (fun k => spec_OrderValid.j0 k x0 x1 x14)
theorem spec_OrderValid.j0L_is (x0 : Int) (x1 : List Int) (x14 : Bool) : LimIs (fun k => spec_OrderValid.j0 k x0 x1 x14) (spec_OrderValid.j0L x0 x1 x14) := LimIs.of_mono (fun k r h => (spec_OrderValid.mono_l k).1 x0 x1 x14 r h)
noncomputable def spec_OrderValid.l0L (x0 : Int) (x1 : List Int) (x5 : Int) : Option (Bool) := Lim (fun k => spec_OrderValid.l0 k x0 x1 x5)
theorem spec_OrderValid.l0L_is (x0 : Int) (x1 : List Int) (x5 : Int) : LimIs (fun k => spec_OrderValid.l0 k x0 x1 x5) (spec_OrderValid.l0L x0 x1 x5) := LimIs.of_mono (fun k r h => (spec_OrderValid.mono_l k).2.1 x0 x1 x5 r h)
noncomputable def spec_OrderValid.l1L (x0 : Int) (x1 : List Int) (x5 : Int) (x6 : Int) : Option (Bool) := Lim (fun k => spec_OrderValid.l1 k x0 x1 x5 x6)
theorem spec_OrderValid.l1L_is (x0 : Int) (x1 : List Int) (x5 : Int) (x6 : Int) : LimIs (fun k => spec_OrderValid.l1 k x0 x1 x5 x6) (spec_OrderValid.l1L x0 x1 x5 x6) := LimIs.of_mono (fun k r h => (spec_OrderValid.mono_l k).2.2 x0 x1 x5 x6 r h)
noncomputable def spec_OrderValid.fL (a0 : Int) (l1 : List Int) : Option (Bool) := Lim (fun k => spec_OrderValid.f k a0 l1)
theorem spec_OrderValid.fL_is (a0 : Int) (l1 : List Int) : LimIs (fun k => spec_OrderValid.f k a0 l1) (spec_OrderValid.fL a0 l1) := LimIs.of_mono (fun k r h => spec_OrderValid.mono a0 l1 k r h)
theorem spec_OrderValid.j0L_eq (x0 : Int) (x1 : List Int) (x14 : Bool) : spec_OrderValid.j0L x0 x1 x14 = if x14 = true then (some false) else (spec_OrderValid.l0L x0 x1 0) := by
  refine LimIs.unique (spec_OrderValid.j0L_is x0 x1 x14) (LimIs.step (f := fun k => if x14 = true then (some false) else (spec_OrderValid.l0 k x0 x1 0)) (by simp only [spec_OrderValid.j0]) (fun k => by simp only [spec_OrderValid.j0]) ?_)
  repeat' first
    | (with_reducible exact LimIs.const _)
    | (with_reducible exact spec_OrderValid.l0L_is _ _ _)
    | (with_reducible refine LimIs.ite ?_ ?_)
    | (with_reducible refine LimIs.bind ?_ (fun _ => ?_))
theorem spec_OrderValid.l0L_eq (x0 : Int) (x1 : List Int) (x5 : Int) : spec_OrderValid.l0L x0 x1 x5 = if x5 < (x1.length : Int) then (if 0 ≤ x5 then ((spec_l1In.f (rd x1 x5) 0 (wrap64 (x0 - 1))).bind fun t107 => (if t107 = true then (spec_OrderValid.l1L x0 x1 x5 0) else (some false))) else (none)) else (some true) := by
  refine LimIs.unique (spec_OrderValid.l0L_is x0 x1 x5) (LimIs.step (f := fun k => if x5 < (x1.length : Int) then (if 0 ≤ x5 then ((spec_l1In.f (rd x1 x5) 0 (wrap64 (x0 - 1))).bind fun t107 => (if t107 = true then (spec_OrderValid.l1 k x0 x1 x5 0) else (some false))) else (none)) else (some true)) (by simp only [spec_OrderValid.l0]) (fun k => by simp only [spec_OrderValid.l0]) ?_)
  repeat' first
    | (with_reducible exact LimIs.const _)
    | (with_reducible exact spec_OrderValid.l1L_is _ _ _ _)
    | (with_reducible refine LimIs.ite ?_ ?_)
    | (with_reducible refine LimIs.bind ?_ (fun _ => ?_))
theorem spec_OrderValid.l1L_eq (x0 : Int) (x1 : List Int) (x5 : Int) (x6 : Int) : spec_OrderValid.l1L x0 x1 x5 x6 = if x6 < x5 then (if 0 ≤ x6 then (if x6 < (x1.length : Int) then (if 0 ≤ x5 then (if x5 < (x1.length : Int) then (if (rd x1 x6) = (rd x1 x5) then (some false) else (spec_OrderValid.l1L x0 x1 x5 (wrap64 (x6 + 1)))) else (none)) else (none)) else (none)) else (none)) else (spec_OrderValid.l0L x0 x1 (wrap64 (x5 + 1))) := by
  refine LimIs.unique (spec_OrderValid.l1L_is x0 x1 x5 x6) (LimIs.step (f := fun k => if x6 < x5 then (if 0 ≤ x6 then (if x6 < (x1.length : Int) then (if 0 ≤ x5 then (if x5 < (x1.length : Int) then (if (rd x1 x6) = (rd x1 x5) then (some false) else (spec_OrderValid.l1 k x0 x1 x5 (wrap64 (x6 + 1)))) else (none)) else (none)) else (none)) else (none)) else (spec_OrderValid.l0 k x0 x1 (wrap64 (x5 + 1)))) (by simp only [spec_OrderValid.l1]) (fun k => by simp only [spec_OrderValid.l1]) ?_)
  repeat' first
    | (with_reducible exact LimIs.const _)
    | (with_reducible exact spec_OrderValid.l0L_is _ _ _)
    | (with_reducible exact spec_OrderValid.l1L_is _ _ _ _)
    | (with_reducible refine LimIs.ite ?_ ?_)
    | (with_reducible refine LimIs.bind ?_ (fun _ => ?_))
theorem spec_OrderValid.fL_eq (a0 : Int) (l1 : List Int) : spec_OrderValid.fL a0 l1 = if a0 > 5 then (spec_OrderValid.j0L a0 l1 true) else (spec_OrderValid.j0L a0 l1 ((l1.length : Int) != a0)) := by
  refine LimIs.unique (spec_OrderValid.fL_is a0 l1) ?_
  unfold spec_OrderValid.f
  repeat' first
    | (with_reducible exact LimIs.const _)
    | (with_reducible exact spec_OrderValid.j0L_is _ _ _)
    | (with_reducible refine LimIs.ite ?_ ?_)
    | (with_reducible refine LimIs.bind ?_ (fun _ => ?_))
/-! ### spec_KeyValid -/
noncomputable def spec_KeyValid.l0L (x0 : ByteArray) (x3 : Int) : Option (Bool) := Lim (fun k => spec_KeyValid.l0 k x0 x3)
theorem spec_KeyValid.l0L_is (x0 : ByteArray) (x3 : Int) : LimIs (fun k => spec_KeyValid.l0 k x0 x3) (spec_KeyValid.l0L x0 x3) := LimIs.of_mono (fun k r h => (spec_KeyValid.mono_l k) x0 x3 r h)
noncomputable def spec_KeyValid.fL (a0 : ByteArray) : Option (Bool) := Lim (fun k => spec_KeyValid.f k a0)
theorem spec_KeyValid.fL_is (a0 : ByteArray) : LimIs (fun k => spec_KeyValid.f k a0) (spec_KeyValid.fL a0) := LimIs.of_mono (fun k r h => spec_KeyValid.mono a0 k r h)
theorem spec_KeyValid.l0L_eq (x0 : ByteArray) (x3 : Int) : spec_KeyValid.l0L x0 x3 = if x3 < (x0.size : Int) then (if 0 ≤ x3 then (if (bt x0 x3) < 97 then (some false) else (if (bt x0 x3) > 122 then (some false) else (spec_KeyValid.l0L x0 (wrap64 (x3 + 1))))) else (none)) else (some true) := by
  refine LimIs.unique (spec_KeyValid.l0L_is x0 x3) (LimIs.step (f := fun k => if x3 < (x0.size : Int) then (if 0 ≤ x3 then (if (bt x0 x3) < 97 then (some false) else (if (bt x0 x3) > 122 then (some false) else (spec_KeyValid.l0 k x0 (wrap64 (x3 + 1))))) else (none)) else (some true)) (by simp only [spec_KeyValid.l0]) (fun k => by simp only [spec_KeyValid.l0]) ?_)
  repeat' first
    | (with_reducible exact LimIs.const _)
    | (with_reducible exact spec_KeyValid.l0L_is _ _)
    | (with_reducible refine LimIs.ite ?_ ?_)
    | (with_reducible refine LimIs.bind ?_ (fun _ => ?_))
theorem spec_KeyValid.fL_eq (a0 : ByteArray) : spec_KeyValid.fL a0 = (spec_l1In.f (a0.size : Int) 1 4).bind fun t110 => (if t110 = true then (spec_KeyValid.l0L a0 0) else (some false)) := by
  refine LimIs.unique (spec_KeyValid.fL_is a0) ?_
  unfold spec_KeyValid.f
  repeat' first
    | (with_reducible exact LimIs.const _)
    | (with_reducible exact spec_KeyValid.l0L_is _ _)
    | (with_reducible refine LimIs.ite ?_ ?_)
    | (with_reducible refine LimIs.bind ?_ (fun _ => ?_))
/-! ### spec_CommandValid -/
noncomputable def spec_CommandValid.j0L (x16 : Bool) (x112000 : Int) (x112001 : ByteArray) (x112002 : Int) (x112003 : Int) : Option (Bool) := Lim (fun k => spec_CommandValid.j0 k x16 x112000 x112001 x112002 x112003)
theorem spec_CommandValid.j0L_is (x16 : Bool) (x112000 : Int) (x112001 : ByteArray) (x112002 : Int) (x112003 : Int) : LimIs (fun k => spec_CommandValid.j0 k x16 x112000 x112001 x112002 x112003) (spec_CommandValid.j0L x16 x112000 x112001 x112002 x112003) := LimIs.of_mono (fun k r h => (spec_CommandValid.mono_l k).1 x16 x112000 x112001 x112002 x112003 r h)
noncomputable def spec_CommandValid.j1L (x18 : Int) (x19 : Bool) (x112000 : Int) (x112001 : ByteArray) (x112002 : Int) (x112003 : Int) : Option (Bool) := Lim (fun k => spec_CommandValid.j1 k x18 x19 x112000 x112001 x112002 x112003)
theorem spec_CommandValid.j1L_is (x18 : Int) (x19 : Bool) (x112000 : Int) (x112001 : ByteArray) (x112002 : Int) (x112003 : Int) : LimIs (fun k => spec_CommandValid.j1 k x18 x19 x112000 x112001 x112002 x112003) (spec_CommandValid.j1L x18 x19 x112000 x112001 x112002 x112003) := LimIs.of_mono (fun k r h => (spec_CommandValid.mono_l k).2 x18 x19 x112000 x112001 x112002 x112003 r h)
noncomputable def spec_CommandValid.fL (a0_0 : Int) (a0_1 : ByteArray) (a0_2 : Int) (a0_3 : Int) : Option (Bool) := Lim (fun k => spec_CommandValid.f k a0_0 a0_1 a0_2 a0_3)
theorem spec_CommandValid.fL_is (a0_0 : Int) (a0_1 : ByteArray) (a0_2 : Int) (a0_3 : Int) : LimIs (fun k => spec_CommandValid.f k a0_0 a0_1 a0_2 a0_3) (spec_CommandValid.fL a0_0 a0_1 a0_2 a0_3) := LimIs.of_mono (fun k r h => spec_CommandValid.mono a0_0 a0_1 a0_2 a0_3 k r h)
theorem spec_CommandValid.j0L_eq (x16 : Bool) (x112000 : Int) (x112001 : ByteArray) (x112002 : Int) (x112003 : Int) : spec_CommandValid.j0L x16 x112000 x112001 x112002 x112003 = if x16 = true then (some false) else (if x112000 = 1 then (spec_CommandValid.j1L x112000 (x112000 == 1) x112000 x112001 x112002 x112003) else (if x112000 = 3 then (spec_CommandValid.j1L x112000 (x112000 == 3) x112000 x112001 x112002 x112003) else (spec_CommandValid.j1L x112000 (x112000 == 5) x112000 x112001 x112002 x112003))) := by
  refine LimIs.unique (spec_CommandValid.j0L_is x16 x112000 x112001 x112002 x112003) (LimIs.step (f := fun k => if x16 = true then (some false) else (if x112000 = 1 then (spec_CommandValid.j1 k x112000 (x112000 == 1) x112000 x112001 x112002 x112003) else (if x112000 = 3 then (spec_CommandValid.j1 k x112000 (x112000 == 3) x112000 x112001 x112002 x112003) else (spec_CommandValid.j1 k x112000 (x112000 == 5) x112000 x112001 x112002 x112003)))) (by simp only [spec_CommandValid.j0]) (fun k => by simp only [spec_CommandValid.j0]) ?_)
  repeat' first
    | (with_reducible exact LimIs.const _)
    | (with_reducible exact spec_CommandValid.j1L_is _ _ _ _ _ _)
    | (with_reducible refine LimIs.ite ?_ ?_)
    | (with_reducible refine LimIs.bind ?_ (fun _ => ?_))
theorem spec_CommandValid.j1L_eq (x18 : Int) (x19 : Bool) (x112000 : Int) (x112001 : ByteArray) (x112002 : Int) (x112003 : Int) : spec_CommandValid.j1L x18 x19 x112000 x112001 x112002 x112003 = if x19 = true then (if x112002 = 0 then (some (x112003 == 0)) else (some false)) else (if x18 = 2 then ((spec_l1In.f x112002 0 999).bind fun t113 => (if t113 = true then (some (x112003 == 0)) else (some false))) else (if x18 = 4 then ((spec_l1In.f x112002 0 999).bind fun t114 => (if t114 = true then ((spec_l1In.f x112003 (-1) 999).bind fun t115 => (some t115)) else (some false))) else (some false))) := by
  refine LimIs.unique (spec_CommandValid.j1L_is x18 x19 x112000 x112001 x112002 x112003) (LimIs.step (f := fun k => if x19 = true then (if x112002 = 0 then (some (x112003 == 0)) else (some false)) else (if x18 = 2 then ((spec_l1In.f x112002 0 999).bind fun t113 => (if t113 = true then (some (x112003 == 0)) else (some false))) else (if x18 = 4 then ((spec_l1In.f x112002 0 999).bind fun t114 => (if t114 = true then ((spec_l1In.f x112003 (-1) 999).bind fun t115 => (some t115)) else (some false))) else (some false)))) (by simp only [spec_CommandValid.j1]) (fun k => by simp only [spec_CommandValid.j1]) ?_)
  repeat' first
    | (with_reducible exact LimIs.const _)
    | (with_reducible refine LimIs.ite ?_ ?_)
    | (with_reducible refine LimIs.bind ?_ (fun _ => ?_))
theorem spec_CommandValid.fL_eq (a0_0 : Int) (a0_1 : ByteArray) (a0_2 : Int) (a0_3 : Int) : spec_CommandValid.fL a0_0 a0_1 a0_2 a0_3 = (spec_KeyValid.fL a0_1).bind fun t112 => (if t112 = true then (spec_CommandValid.j0L false a0_0 a0_1 a0_2 a0_3) else (if a0_0 = 5 then (spec_CommandValid.j0L (a0_1.toList != ([] : List UInt8)) a0_0 a0_1 a0_2 a0_3) else (spec_CommandValid.j0L true a0_0 a0_1 a0_2 a0_3))) := by
  refine LimIs.unique (spec_CommandValid.fL_is a0_0 a0_1 a0_2 a0_3) ?_
  unfold spec_CommandValid.f
  repeat' first
    | (with_reducible exact LimIs.const _)
    | (with_reducible exact spec_CommandValid.j0L_is _ _ _ _ _)
    | (with_reducible exact spec_KeyValid.fL_is _)
    | (with_reducible refine LimIs.ite ?_ ?_)
    | (with_reducible refine LimIs.bind ?_ (fun _ => ?_))
/-! ### spec_l25Wish -/
noncomputable def spec_l25Wish.fL (a0_0 : Int) (a0_1 : ByteArray) (a0_2 : Int) (a0_3 : Int) : Option (Bool) := Lim (fun k => spec_l25Wish.f k a0_0 a0_1 a0_2 a0_3)
theorem spec_l25Wish.fL_is (a0_0 : Int) (a0_1 : ByteArray) (a0_2 : Int) (a0_3 : Int) : LimIs (fun k => spec_l25Wish.f k a0_0 a0_1 a0_2 a0_3) (spec_l25Wish.fL a0_0 a0_1 a0_2 a0_3) := LimIs.of_mono (fun k r h => spec_l25Wish.mono a0_0 a0_1 a0_2 a0_3 k r h)
theorem spec_l25Wish.fL_eq (a0_0 : Int) (a0_1 : ByteArray) (a0_2 : Int) (a0_3 : Int) : spec_l25Wish.fL a0_0 a0_1 a0_2 a0_3 = (spec_CommandValid.fL a0_0 a0_1 a0_2 a0_3).bind fun t117 => (if t117 = true then (some (a0_0 != 5)) else (some false)) := by
  refine LimIs.unique (spec_l25Wish.fL_is a0_0 a0_1 a0_2 a0_3) ?_
  unfold spec_l25Wish.f
  repeat' first
    | (with_reducible exact LimIs.const _)
    | (with_reducible exact spec_CommandValid.fL_is _ _ _ _)
    | (with_reducible refine LimIs.ite ?_ ?_)
    | (with_reducible refine LimIs.bind ?_ (fun _ => ?_))
/-! ### spec_ResultValid -/
noncomputable def spec_ResultValid.fL (a0_0 : Int) (a0_1 : Int) (a0_2 : Int) (a0_3 : ByteArray) (a0_4 : Int) (a0_5 : Int) (a0_6 : Int) (a0_7 : Int) (a0_8 : Int) : Option (Bool) := Lim (fun k => spec_ResultValid.f k a0_0 a0_1 a0_2 a0_3 a0_4 a0_5 a0_6 a0_7 a0_8)
theorem spec_ResultValid.fL_is (a0_0 : Int) (a0_1 : Int) (a0_2 : Int) (a0_3 : ByteArray) (a0_4 : Int) (a0_5 : Int) (a0_6 : Int) (a0_7 : Int) (a0_8 : Int) : LimIs (fun k => spec_ResultValid.f k a0_0 a0_1 a0_2 a0_3 a0_4 a0_5 a0_6 a0_7 a0_8) (spec_ResultValid.fL a0_0 a0_1 a0_2 a0_3 a0_4 a0_5 a0_6 a0_7 a0_8) := LimIs.of_mono (fun k r h => spec_ResultValid.mono a0_0 a0_1 a0_2 a0_3 a0_4 a0_5 a0_6 a0_7 a0_8 k r h)
theorem spec_ResultValid.fL_eq (a0_0 : Int) (a0_1 : Int) (a0_2 : Int) (a0_3 : ByteArray) (a0_4 : Int) (a0_5 : Int) (a0_6 : Int) (a0_7 : Int) (a0_8 : Int) : spec_ResultValid.fL a0_0 a0_1 a0_2 a0_3 a0_4 a0_5 a0_6 a0_7 a0_8 = (spec_l1In.f a0_0 1 3).bind fun t119 => (if t119 = true then ((spec_l1In.f a0_1 1 999).bind fun t120 => (if t120 = true then ((spec_l25Wish.fL a0_2 a0_3 a0_4 a0_5).bind fun t121 => (if t121 = true then ((spec_l1In.f a0_6 (-4) 999).bind fun t122 => (if t122 = true then ((spec_l1In.f a0_8 0 200).bind fun t123 => (if t123 = true then ((spec_l1In.f a0_7 0 a0_8).bind fun t124 => (some t124)) else (some false))) else (some false))) else (some false))) else (some false))) else (some false)) := by
  refine LimIs.unique (spec_ResultValid.fL_is a0_0 a0_1 a0_2 a0_3 a0_4 a0_5 a0_6 a0_7 a0_8) ?_
  unfold spec_ResultValid.f
  repeat' first
    | (with_reducible exact LimIs.const _)
    | (with_reducible exact spec_l25Wish.fL_is _ _ _ _)
    | (with_reducible refine LimIs.ite ?_ ?_)
    | (with_reducible refine LimIs.bind ?_ (fun _ => ?_))
/-! ### spec_RealTime -/
noncomputable def spec_RealTime.l0L (x0 : List (S77)) (x1 : List Int) (x5 : Int) : Option (Bool) := Lim (fun k => spec_RealTime.l0 k x0 x1 x5)
theorem spec_RealTime.l0L_is (x0 : List (S77)) (x1 : List Int) (x5 : Int) : LimIs (fun k => spec_RealTime.l0 k x0 x1 x5) (spec_RealTime.l0L x0 x1 x5) := LimIs.of_mono (fun k r h => (spec_RealTime.mono_l k).1 x0 x1 x5 r h)
noncomputable def spec_RealTime.l1L (x0 : List (S77)) (x1 : List Int) (x5 : Int) (x7 : Int) (x129000 : Int) (x129001 : Int) (x129002 : Int) (x129003 : ByteArray) (x129004 : Int) (x129005 : Int) (x129006 : Int) (x129007 : Int) (x129008 : Int) : Option (Bool) := Lim (fun k => spec_RealTime.l1 k x0 x1 x5 x7 x129000 x129001 x129002 x129003 x129004 x129005 x129006 x129007 x129008)
theorem spec_RealTime.l1L_is (x0 : List (S77)) (x1 : List Int) (x5 : Int) (x7 : Int) (x129000 : Int) (x129001 : Int) (x129002 : Int) (x129003 : ByteArray) (x129004 : Int) (x129005 : Int) (x129006 : Int) (x129007 : Int) (x129008 : Int) : LimIs (fun k => spec_RealTime.l1 k x0 x1 x5 x7 x129000 x129001 x129002 x129003 x129004 x129005 x129006 x129007 x129008) (spec_RealTime.l1L x0 x1 x5 x7 x129000 x129001 x129002 x129003 x129004 x129005 x129006 x129007 x129008) := LimIs.of_mono (fun k r h => (spec_RealTime.mono_l k).2 x0 x1 x5 x7 x129000 x129001 x129002 x129003 x129004 x129005 x129006 x129007 x129008 r h)
noncomputable def spec_RealTime.fL (l0 : List (S77)) (l1 : List Int) : Option (Bool) := Lim (fun k => spec_RealTime.f k l0 l1)
theorem spec_RealTime.fL_is (l0 : List (S77)) (l1 : List Int) : LimIs (fun k => spec_RealTime.f k l0 l1) (spec_RealTime.fL l0 l1) := LimIs.of_mono (fun k r h => spec_RealTime.mono l0 l1 k r h)
theorem spec_RealTime.l0L_eq (x0 : List (S77)) (x1 : List Int) (x5 : Int) : spec_RealTime.l0L x0 x1 x5 = if x5 < (x1.length : Int) then (if 0 ≤ x5 then (if 0 ≤ (rd x1 x5) then (if (rd x1 x5) < (x0.length : Int) then ((spec_ResultValid.fL ((rd_T77 x0 (rd x1 x5)).f0) ((rd_T77 x0 (rd x1 x5)).f1) ((rd_T77 x0 (rd x1 x5)).f2.f0) ((rd_T77 x0 (rd x1 x5)).f2.f1) ((rd_T77 x0 (rd x1 x5)).f2.f2) ((rd_T77 x0 (rd x1 x5)).f2.f3) ((rd_T77 x0 (rd x1 x5)).f3) ((rd_T77 x0 (rd x1 x5)).f4) ((rd_T77 x0 (rd x1 x5)).f5)).bind fun t129 => (if t129 = true then (spec_RealTime.l1L x0 x1 x5 (wrap64 (x5 + 1)) ((rd_T77 x0 (rd x1 x5)).f0) ((rd_T77 x0 (rd x1 x5)).f1) ((rd_T77 x0 (rd x1 x5)).f2.f0) ((rd_T77 x0 (rd x1 x5)).f2.f1) ((rd_T77 x0 (rd x1 x5)).f2.f2) ((rd_T77 x0 (rd x1 x5)).f2.f3) ((rd_T77 x0 (rd x1 x5)).f3) ((rd_T77 x0 (rd x1 x5)).f4) ((rd_T77 x0 (rd x1 x5)).f5)) else (some false))) else (none)) else (none)) else (none)) else (some true) := by
  refine LimIs.unique (spec_RealTime.l0L_is x0 x1 x5) (LimIs.step (f := fun k => if x5 < (x1.length : Int) then (if 0 ≤ x5 then (if 0 ≤ (rd x1 x5) then (if (rd x1 x5) < (x0.length : Int) then ((spec_ResultValid.f k ((rd_T77 x0 (rd x1 x5)).f0) ((rd_T77 x0 (rd x1 x5)).f1) ((rd_T77 x0 (rd x1 x5)).f2.f0) ((rd_T77 x0 (rd x1 x5)).f2.f1) ((rd_T77 x0 (rd x1 x5)).f2.f2) ((rd_T77 x0 (rd x1 x5)).f2.f3) ((rd_T77 x0 (rd x1 x5)).f3) ((rd_T77 x0 (rd x1 x5)).f4) ((rd_T77 x0 (rd x1 x5)).f5)).bind fun t129 => (if t129 = true then (spec_RealTime.l1 k x0 x1 x5 (wrap64 (x5 + 1)) ((rd_T77 x0 (rd x1 x5)).f0) ((rd_T77 x0 (rd x1 x5)).f1) ((rd_T77 x0 (rd x1 x5)).f2.f0) ((rd_T77 x0 (rd x1 x5)).f2.f1) ((rd_T77 x0 (rd x1 x5)).f2.f2) ((rd_T77 x0 (rd x1 x5)).f2.f3) ((rd_T77 x0 (rd x1 x5)).f3) ((rd_T77 x0 (rd x1 x5)).f4) ((rd_T77 x0 (rd x1 x5)).f5)) else (some false))) else (none)) else (none)) else (none)) else (some true)) (by simp only [spec_RealTime.l0]) (fun k => by simp only [spec_RealTime.l0]) ?_)
  repeat' first
    | (with_reducible exact LimIs.const _)
    | (with_reducible exact spec_RealTime.l1L_is _ _ _ _ _ _ _ _ _ _ _ _ _)
    | (with_reducible exact spec_ResultValid.fL_is _ _ _ _ _ _ _ _ _)
    | (with_reducible refine LimIs.ite ?_ ?_)
    | (with_reducible refine LimIs.bind ?_ (fun _ => ?_))
theorem spec_RealTime.l1L_eq (x0 : List (S77)) (x1 : List Int) (x5 : Int) (x7 : Int) (x129000 : Int) (x129001 : Int) (x129002 : Int) (x129003 : ByteArray) (x129004 : Int) (x129005 : Int) (x129006 : Int) (x129007 : Int) (x129008 : Int) : spec_RealTime.l1L x0 x1 x5 x7 x129000 x129001 x129002 x129003 x129004 x129005 x129006 x129007 x129008 = if x7 < (x1.length : Int) then (if 0 ≤ x7 then (if 0 ≤ (rd x1 x7) then (if (rd x1 x7) < (x0.length : Int) then (if ((rd_T77 x0 (rd x1 x7)).f5) < x129007 then (some false) else (spec_RealTime.l1L x0 x1 x5 (wrap64 (x7 + 1)) x129000 x129001 x129002 x129003 x129004 x129005 x129006 x129007 x129008)) else (none)) else (none)) else (none)) else (spec_RealTime.l0L x0 x1 (wrap64 (x5 + 1))) := by
  refine LimIs.unique (spec_RealTime.l1L_is x0 x1 x5 x7 x129000 x129001 x129002 x129003 x129004 x129005 x129006 x129007 x129008) (LimIs.step (f := fun k => if x7 < (x1.length : Int) then (if 0 ≤ x7 then (if 0 ≤ (rd x1 x7) then (if (rd x1 x7) < (x0.length : Int) then (if ((rd_T77 x0 (rd x1 x7)).f5) < x129007 then (some false) else (spec_RealTime.l1 k x0 x1 x5 (wrap64 (x7 + 1)) x129000 x129001 x129002 x129003 x129004 x129005 x129006 x129007 x129008)) else (none)) else (none)) else (none)) else (spec_RealTime.l0 k x0 x1 (wrap64 (x5 + 1)))) (by simp only [spec_RealTime.l1]) (fun k => by simp only [spec_RealTime.l1]) ?_)
  repeat' first
    | (with_reducible exact LimIs.const _)
    | (with_reducible exact spec_RealTime.l0L_is _ _ _)
    | (with_reducible exact spec_RealTime.l1L_is _ _ _ _ _ _ _ _ _ _ _ _ _)
    | (with_reducible refine LimIs.ite ?_ ?_)
    | (with_reducible refine LimIs.bind ?_ (fun _ => ?_))
theorem spec_RealTime.fL_eq (l0 : List (S77)) (l1 : List Int) : spec_RealTime.fL l0 l1 = (spec_OrderValid.fL (l0.length : Int) l1).bind fun t125 => (if t125 = true then (spec_RealTime.l0L l0 l1 0) else (some false)) := by
  refine LimIs.unique (spec_RealTime.fL_is l0 l1) ?_
  unfold spec_RealTime.f
  repeat' first
    | (with_reducible exact LimIs.const _)
    | (with_reducible exact spec_OrderValid.fL_is _ _)
    | (with_reducible exact spec_RealTime.l0L_is _ _ _)
    | (with_reducible refine LimIs.ite ?_ ?_)
    | (with_reducible refine LimIs.bind ?_ (fun _ => ?_))
/-! ### laws_toResultS -/
noncomputable def laws_toResultS.l0L (x0 : List (S118)) (x3 : List (S77)) (x4 : Int) : Option ((List (S77))) := Lim (fun k => laws_toResultS.l0 k x0 x3 x4)
theorem laws_toResultS.l0L_is (x0 : List (S118)) (x3 : List (S77)) (x4 : Int) : LimIs (fun k => laws_toResultS.l0 k x0 x3 x4) (laws_toResultS.l0L x0 x3 x4) := LimIs.of_mono (fun k r h => (laws_toResultS.mono_l k) x0 x3 x4 r h)
noncomputable def laws_toResultS.fL (l0 : List (S118)) : Option ((List (S77))) := Lim (fun k => laws_toResultS.f k l0)
theorem laws_toResultS.fL_is (l0 : List (S118)) : LimIs (fun k => laws_toResultS.f k l0) (laws_toResultS.fL l0) := LimIs.of_mono (fun k r h => laws_toResultS.mono l0 k r h)
theorem laws_toResultS.l0L_eq (x0 : List (S118)) (x3 : List (S77)) (x4 : Int) : laws_toResultS.l0L x0 x3 x4 = if x4 < (x0.length : Int) then (if 0 ≤ x4 then ((laws_toResult.f ((rd_T118 x0 x4).f0) ((rd_T118 x0 x4).f1) ((rd_T118 x0 x4).f2.f0) ((rd_T118 x0 x4).f2.f1) ((rd_T118 x0 x4).f2.f2) ((rd_T118 x0 x4).f2.f3) ((rd_T118 x0 x4).f3) ((rd_T118 x0 x4).f4) ((rd_T118 x0 x4).f5)).bind fun bt146 => (if x4 < (x3.length : Int) then (laws_toResultS.l0L x0 (x3.set (x4 : Int).toNat (⟨bt146.1, bt146.2.1, (⟨bt146.2.2.1, bt146.2.2.2.1, bt146.2.2.2.2.1, bt146.2.2.2.2.2.1⟩ : S75), bt146.2.2.2.2.2.2.1, bt146.2.2.2.2.2.2.2.1, bt146.2.2.2.2.2.2.2.2⟩ : S77)) (wrap64 (x4 + 1))) else (none))) else (none)) else (some x3) := by
  refine LimIs.unique (laws_toResultS.l0L_is x0 x3 x4) (LimIs.step (f := fun k => if x4 < (x0.length : Int) then (if 0 ≤ x4 then ((laws_toResult.f ((rd_T118 x0 x4).f0) ((rd_T118 x0 x4).f1) ((rd_T118 x0 x4).f2.f0) ((rd_T118 x0 x4).f2.f1) ((rd_T118 x0 x4).f2.f2) ((rd_T118 x0 x4).f2.f3) ((rd_T118 x0 x4).f3) ((rd_T118 x0 x4).f4) ((rd_T118 x0 x4).f5)).bind fun bt146 => (if x4 < (x3.length : Int) then (laws_toResultS.l0 k x0 (x3.set (x4 : Int).toNat (⟨bt146.1, bt146.2.1, (⟨bt146.2.2.1, bt146.2.2.2.1, bt146.2.2.2.2.1, bt146.2.2.2.2.2.1⟩ : S75), bt146.2.2.2.2.2.2.1, bt146.2.2.2.2.2.2.2.1, bt146.2.2.2.2.2.2.2.2⟩ : S77)) (wrap64 (x4 + 1))) else (none))) else (none)) else (some x3)) (by simp only [laws_toResultS.l0]) (fun k => by simp only [laws_toResultS.l0]) ?_)
  repeat' first
    | (with_reducible exact LimIs.const _)
    | (with_reducible exact laws_toResultS.l0L_is _ _ _)
    | (with_reducible refine LimIs.ite ?_ ?_)
    | (with_reducible refine LimIs.bind ?_ (fun _ => ?_))
theorem laws_toResultS.fL_eq (l0 : List (S118)) : laws_toResultS.fL l0 = if 0 ≤ (l0.length : Int) then (if ((l0.length : Int) : Int).toNat ≤ 3518437208883 then (laws_toResultS.l0L l0 (List.replicate ((l0.length : Int) : Int).toNat z77) 0) else (none)) else (none) := by
  refine LimIs.unique (laws_toResultS.fL_is l0) ?_
  unfold laws_toResultS.f
  repeat' first
    | (with_reducible exact LimIs.const _)
    | (with_reducible exact laws_toResultS.l0L_is _ _ _)
    | (with_reducible refine LimIs.ite ?_ ?_)
    | (with_reducible refine LimIs.bind ?_ (fun _ => ?_))
/-! ### laws_toIntS -/
noncomputable def laws_toIntS.l0L (x0 : List Int) (x3 : List Int) (x4 : Int) : Option (List Int) := Lim (fun k => laws_toIntS.l0 k x0 x3 x4)
theorem laws_toIntS.l0L_is (x0 : List Int) (x3 : List Int) (x4 : Int) : LimIs (fun k => laws_toIntS.l0 k x0 x3 x4) (laws_toIntS.l0L x0 x3 x4) := LimIs.of_mono (fun k r h => (laws_toIntS.mono_l k) x0 x3 x4 r h)
noncomputable def laws_toIntS.fL (l0 : List Int) : Option (List Int) := Lim (fun k => laws_toIntS.f k l0)
theorem laws_toIntS.fL_is (l0 : List Int) : LimIs (fun k => laws_toIntS.f k l0) (laws_toIntS.fL l0) := LimIs.of_mono (fun k r h => laws_toIntS.mono l0 k r h)
theorem laws_toIntS.l0L_eq (x0 : List Int) (x3 : List Int) (x4 : Int) : laws_toIntS.l0L x0 x3 x4 = if x4 < (x0.length : Int) then (if 0 ≤ x4 then (if x4 < (x3.length : Int) then (laws_toIntS.l0L x0 (x3.set (x4 : Int).toNat (rd x0 x4)) (wrap64 (x4 + 1))) else (none)) else (none)) else (some x3) := by
  refine LimIs.unique (laws_toIntS.l0L_is x0 x3 x4) (LimIs.step (f := fun k => if x4 < (x0.length : Int) then (if 0 ≤ x4 then (if x4 < (x3.length : Int) then (laws_toIntS.l0 k x0 (x3.set (x4 : Int).toNat (rd x0 x4)) (wrap64 (x4 + 1))) else (none)) else (none)) else (some x3)) (by simp only [laws_toIntS.l0]) (fun k => by simp only [laws_toIntS.l0]) ?_)
  repeat' first
    | (with_reducible exact LimIs.const _)
    | (with_reducible exact laws_toIntS.l0L_is _ _ _)
    | (with_reducible refine LimIs.ite ?_ ?_)
    | (with_reducible refine LimIs.bind ?_ (fun _ => ?_))
theorem laws_toIntS.fL_eq (l0 : List Int) : laws_toIntS.fL l0 = if 0 ≤ (l0.length : Int) then (if ((l0.length : Int) : Int).toNat ≤ 35184372088832 then (laws_toIntS.l0L l0 (List.replicate ((l0.length : Int) : Int).toNat 0) 0) else (none)) else (none) := by
  refine LimIs.unique (laws_toIntS.fL_is l0) ?_
  unfold laws_toIntS.f
  repeat' first
    | (with_reducible exact LimIs.const _)
    | (with_reducible exact laws_toIntS.l0L_is _ _ _)
    | (with_reducible refine LimIs.ite ?_ ?_)
    | (with_reducible refine LimIs.bind ?_ (fun _ => ?_))
/-! ### slices_Index_int_int -/
noncomputable def slices_Index_int_int.l0L (x0 : List Int) (x1 : Int) (x7 : Int) (x8 : Int) : Option (Int) := Lim (fun k => slices_Index_int_int.l0 k x0 x1 x7 x8)
theorem slices_Index_int_int.l0L_is (x0 : List Int) (x1 : Int) (x7 : Int) (x8 : Int) : LimIs (fun k => slices_Index_int_int.l0 k x0 x1 x7 x8) (slices_Index_int_int.l0L x0 x1 x7 x8) := LimIs.of_mono (fun k r h => (slices_Index_int_int.mono_l k) x0 x1 x7 x8 r h)
noncomputable def slices_Index_int_int.fL (l0 : List Int) (a1 : Int) : Option (Int) := Lim (fun k => slices_Index_int_int.f k l0 a1)
theorem slices_Index_int_int.fL_is (l0 : List Int) (a1 : Int) : LimIs (fun k => slices_Index_int_int.f k l0 a1) (slices_Index_int_int.fL l0 a1) := LimIs.of_mono (fun k r h => slices_Index_int_int.mono l0 a1 k r h)
theorem slices_Index_int_int.l0L_eq (x0 : List Int) (x1 : Int) (x7 : Int) (x8 : Int) : slices_Index_int_int.l0L x0 x1 x7 x8 = if x8 < x7 then (if 0 ≤ x8 then (if x8 < (x0.length : Int) then (if x1 = (rd x0 x8) then (some x8) else (slices_Index_int_int.l0L x0 x1 x7 (wrap64 (x8 + 1)))) else (none)) else (none)) else (some (-1)) := by
  refine LimIs.unique (slices_Index_int_int.l0L_is x0 x1 x7 x8) (LimIs.step (f := fun k => if x8 < x7 then (if 0 ≤ x8 then (if x8 < (x0.length : Int) then (if x1 = (rd x0 x8) then (some x8) else (slices_Index_int_int.l0 k x0 x1 x7 (wrap64 (x8 + 1)))) else (none)) else (none)) else (some (-1))) (by simp only [slices_Index_int_int.l0]) (fun k => by simp only [slices_Index_int_int.l0]) ?_)
  repeat' first
    | (with_reducible exact LimIs.const _)
    | (with_reducible exact slices_Index_int_int.l0L_is _ _ _ _)
    | (with_reducible refine LimIs.ite ?_ ?_)
    | (with_reducible refine LimIs.bind ?_ (fun _ => ?_))
theorem slices_Index_int_int.fL_eq (l0 : List Int) (a1 : Int) : slices_Index_int_int.fL l0 a1 = slices_Index_int_int.l0L l0 a1 (l0.length : Int) 0 := by
  refine LimIs.unique (slices_Index_int_int.fL_is l0 a1) ?_
  unfold slices_Index_int_int.f
  repeat' first
    | (with_reducible exact LimIs.const _)
    | (with_reducible exact slices_Index_int_int.l0L_is _ _ _ _)
    | (with_reducible refine LimIs.ite ?_ ?_)
    | (with_reducible refine LimIs.bind ?_ (fun _ => ?_))
/-! ### slices_Contains_int_int -/
noncomputable def slices_Contains_int_int.fL (l0 : List Int) (a1 : Int) : Option (Bool) := Lim (fun k => slices_Contains_int_int.f k l0 a1)
theorem slices_Contains_int_int.fL_is (l0 : List Int) (a1 : Int) : LimIs (fun k => slices_Contains_int_int.f k l0 a1) (slices_Contains_int_int.fL l0 a1) := LimIs.of_mono (fun k r h => slices_Contains_int_int.mono l0 a1 k r h)
theorem slices_Contains_int_int.fL_eq (l0 : List Int) (a1 : Int) : slices_Contains_int_int.fL l0 a1 = (slices_Index_int_int.fL l0 a1).bind fun t162 => (some (decide (t162 ≥ 0))) := by
  refine LimIs.unique (slices_Contains_int_int.fL_is l0 a1) ?_
  unfold slices_Contains_int_int.f
  repeat' first
    | (with_reducible exact LimIs.const _)
    | (with_reducible exact slices_Index_int_int.fL_is _ _)
    | (with_reducible refine LimIs.ite ?_ ?_)
    | (with_reducible refine LimIs.bind ?_ (fun _ => ?_))
/-! ### impl_OrderValid -/
noncomputable def impl_OrderValid.j0L (x0 : Int) (x1 : List Int) (x15 : Bool) : Option (Bool) := Lim (fun k => impl_OrderValid.j0 k x0 x1 x15)
theorem impl_OrderValid.j0L_is (x0 : Int) (x1 : List Int) (x15 : Bool) : LimIs (fun k => impl_OrderValid.j0 k x0 x1 x15) (impl_OrderValid.j0L x0 x1 x15) := LimIs.of_mono (fun k r h => (impl_OrderValid.mono_l k).1 x0 x1 x15 r h)
noncomputable def impl_OrderValid.l0L (x0 : Int) (x1 : List Int) (x16 : List Int) (x17 : Int) (x18 : Int) : Option (Bool) := Lim (fun k => impl_OrderValid.l0 k x0 x1 x16 x17 x18)
theorem impl_OrderValid.l0L_is (x0 : Int) (x1 : List Int) (x16 : List Int) (x17 : Int) (x18 : Int) : LimIs (fun k => impl_OrderValid.l0 k x0 x1 x16 x17 x18) (impl_OrderValid.l0L x0 x1 x16 x17 x18) := LimIs.of_mono (fun k r h => (impl_OrderValid.mono_l k).2 x0 x1 x16 x17 x18 r h)
noncomputable def impl_OrderValid.fL (a0 : Int) (l1 : List Int) : Option (Bool) := Lim (fun k => impl_OrderValid.f k a0 l1)
theorem impl_OrderValid.fL_is (a0 : Int) (l1 : List Int) : LimIs (fun k => impl_OrderValid.f k a0 l1) (impl_OrderValid.fL a0 l1) := LimIs.of_mono (fun k r h => impl_OrderValid.mono a0 l1 k r h)
theorem impl_OrderValid.j0L_eq (x0 : Int) (x1 : List Int) (x15 : Bool) : impl_OrderValid.j0L x0 x1 x15 = if x15 = true then (some false) else (impl_OrderValid.l0L x0 x1 x1 (x1.length : Int) 0) := by
  refine LimIs.unique (impl_OrderValid.j0L_is x0 x1 x15) (LimIs.step (f := fun k => if x15 = true then (some false) else (impl_OrderValid.l0 k x0 x1 x1 (x1.length : Int) 0)) (by simp only [impl_OrderValid.j0]) (fun k => by simp only [impl_OrderValid.j0]) ?_)
  repeat' first
    | (with_reducible exact LimIs.const _)
    | (with_reducible exact impl_OrderValid.l0L_is _ _ _ _ _)
    | (with_reducible refine LimIs.ite ?_ ?_)
    | (with_reducible refine LimIs.bind ?_ (fun _ => ?_))
theorem impl_OrderValid.l0L_eq (x0 : Int) (x1 : List Int) (x16 : List Int) (x17 : Int) (x18 : Int) : impl_OrderValid.l0L x0 x1 x16 x17 x18 = if x18 < x17 then (if 0 ≤ x18 then (if x18 < (x16.length : Int) then (if (rd x16 x18) < 0 then (some false) else (if (rd x16 x18) ≥ x0 then (some false) else (if x18 ≤ (x1.length : Int) then ((slices_Contains_int_int.fL (x1.take (x18 : Int).toNat) (rd x16 x18)).bind fun t168 => (if t168 = true then (some false) else (impl_OrderValid.l0L x0 x1 x16 x17 (wrap64 (x18 + 1))))) else (none)))) else (none)) else (none)) else (some true) := by
  refine LimIs.unique (impl_OrderValid.l0L_is x0 x1 x16 x17 x18) (LimIs.step (f := fun k => if x18 < x17 then (if 0 ≤ x18 then (if x18 < (x16.length : Int) then (if (rd x16 x18) < 0 then (some false) else (if (rd x16 x18) ≥ x0 then (some false) else (if x18 ≤ (x1.length : Int) then ((slices_Contains_int_int.f k (x1.take (x18 : Int).toNat) (rd x16 x18)).bind fun t168 => (if t168 = true then (some false) else (impl_OrderValid.l0 k x0 x1 x16 x17 (wrap64 (x18 + 1))))) else (none)))) else (none)) else (none)) else (some true)) (by simp only [impl_OrderValid.l0]) (fun k => by simp only [impl_OrderValid.l0]) ?_)
  repeat' first
    | (with_reducible exact LimIs.const _)
    | (with_reducible exact impl_OrderValid.l0L_is _ _ _ _ _)
    | (with_reducible exact slices_Contains_int_int.fL_is _ _)
    | (with_reducible refine LimIs.ite ?_ ?_)
    | (with_reducible refine LimIs.bind ?_ (fun _ => ?_))
theorem impl_OrderValid.fL_eq (a0 : Int) (l1 : List Int) : impl_OrderValid.fL a0 l1 = if (l1.length : Int) > 5 then (impl_OrderValid.j0L a0 l1 true) else (impl_OrderValid.j0L a0 l1 ((l1.length : Int) != a0)) := by
  refine LimIs.unique (impl_OrderValid.fL_is a0 l1) ?_
  unfold impl_OrderValid.f
  repeat' first
    | (with_reducible exact LimIs.const _)
    | (with_reducible exact impl_OrderValid.j0L_is _ _ _)
    | (with_reducible refine LimIs.ite ?_ ?_)
    | (with_reducible refine LimIs.bind ?_ (fun _ => ?_))
/-! ### impl_lettersOnly -/
noncomputable def impl_lettersOnly.fL (a0 : ByteArray) : Option (Bool) := Lim (fun k => impl_lettersOnly.f k a0)
theorem impl_lettersOnly.fL_is (a0 : ByteArray) : LimIs (fun k => impl_lettersOnly.f k a0) (impl_lettersOnly.fL a0) := LimIs.of_mono (fun k r h => impl_lettersOnly.mono a0 k r h)
theorem impl_lettersOnly.fL_eq (a0 : ByteArray) : impl_lettersOnly.fL a0 = if a0.toList = ([] : List UInt8) then (some true) else (if 0 < (a0.size : Int) then (if (bt a0 0) ≥ 97 then (if (bt a0 0) ≤ 122 then (if 1 ≤ (a0.size : Int) then ((impl_lettersOnly.fL (a0.extract 1 a0.size)).bind fun t169 => (some t169)) else (none)) else (some false)) else (some false)) else (none)) := by
  refine LimIs.unique (impl_lettersOnly.fL_is a0) (LimIs.step (f := fun k => if a0.toList = ([] : List UInt8) then (some true) else (if 0 < (a0.size : Int) then (if (bt a0 0) ≥ 97 then (if (bt a0 0) ≤ 122 then (if 1 ≤ (a0.size : Int) then ((impl_lettersOnly.f k (a0.extract 1 a0.size)).bind fun t169 => (some t169)) else (none)) else (some false)) else (some false)) else (none))) (by simp only [impl_lettersOnly.f]) (fun k => by simp only [impl_lettersOnly.f]) ?_)
  repeat' first
    | (with_reducible exact LimIs.const _)
    | (with_reducible exact impl_lettersOnly.fL_is _)
    | (with_reducible refine LimIs.ite ?_ ?_)
    | (with_reducible refine LimIs.bind ?_ (fun _ => ?_))
/-! ### impl_KeyValid -/
noncomputable def impl_KeyValid.fL (a0 : ByteArray) : Option (Bool) := Lim (fun k => impl_KeyValid.f k a0)
theorem impl_KeyValid.fL_is (a0 : ByteArray) : LimIs (fun k => impl_KeyValid.f k a0) (impl_KeyValid.fL a0) := LimIs.of_mono (fun k r h => impl_KeyValid.mono a0 k r h)
theorem impl_KeyValid.fL_eq (a0 : ByteArray) : impl_KeyValid.fL a0 = if (a0.size : Int) < 1 then (some false) else (if (a0.size : Int) > 4 then (some false) else ((impl_lettersOnly.fL a0).bind fun t170 => (some t170))) := by
  refine LimIs.unique (impl_KeyValid.fL_is a0) ?_
  unfold impl_KeyValid.f
  repeat' first
    | (with_reducible exact LimIs.const _)
    | (with_reducible exact impl_lettersOnly.fL_is _)
    | (with_reducible refine LimIs.ite ?_ ?_)
    | (with_reducible refine LimIs.bind ?_ (fun _ => ?_))
/-! ### impl_CommandValid -/
noncomputable def impl_CommandValid.j0L (x10 : Bool) (x172000 : Int) (x172001 : ByteArray) (x172002 : Int) (x172003 : Int) : Option (Bool) := Lim (fun k => impl_CommandValid.j0 k x10 x172000 x172001 x172002 x172003)
theorem impl_CommandValid.j0L_is (x10 : Bool) (x172000 : Int) (x172001 : ByteArray) (x172002 : Int) (x172003 : Int) : LimIs (fun k => impl_CommandValid.j0 k x10 x172000 x172001 x172002 x172003) (impl_CommandValid.j0L x10 x172000 x172001 x172002 x172003) := LimIs.of_mono (fun k r h => (impl_CommandValid.mono_l k).1 x10 x172000 x172001 x172002 x172003 r h)
noncomputable def impl_CommandValid.j1L (x24 : Bool) (x172000 : Int) (x172001 : ByteArray) (x172002 : Int) (x172003 : Int) : Option (Bool) := Lim (fun k => impl_CommandValid.j1 k x24 x172000 x172001 x172002 x172003)
theorem impl_CommandValid.j1L_is (x24 : Bool) (x172000 : Int) (x172001 : ByteArray) (x172002 : Int) (x172003 : Int) : LimIs (fun k => impl_CommandValid.j1 k x24 x172000 x172001 x172002 x172003) (impl_CommandValid.j1L x24 x172000 x172001 x172002 x172003) := LimIs.of_mono (fun k r h => (impl_CommandValid.mono_l k).2 x24 x172000 x172001 x172002 x172003 r h)
noncomputable def impl_CommandValid.fL (a0_0 : Int) (a0_1 : ByteArray) (a0_2 : Int) (a0_3 : Int) : Option (Bool) := Lim (fun k => impl_CommandValid.f k a0_0 a0_1 a0_2 a0_3)
theorem impl_CommandValid.fL_is (a0_0 : Int) (a0_1 : ByteArray) (a0_2 : Int) (a0_3 : Int) : LimIs (fun k => impl_CommandValid.f k a0_0 a0_1 a0_2 a0_3) (impl_CommandValid.fL a0_0 a0_1 a0_2 a0_3) := LimIs.of_mono (fun k r h => impl_CommandValid.mono a0_0 a0_1 a0_2 a0_3 k r h)
theorem impl_CommandValid.j0L_eq (x10 : Bool) (x172000 : Int) (x172001 : ByteArray) (x172002 : Int) (x172003 : Int) : impl_CommandValid.j0L x10 x172000 x172001 x172002 x172003 = if x10 = true then (some false) else ((impl_KeyValid.fL x172001).bind fun t172 => (if t172 = true then (impl_CommandValid.j1L false x172000 x172001 x172002 x172003) else (if x172000 = 5 then (impl_CommandValid.j1L (x172001.toList != ([] : List UInt8)) x172000 x172001 x172002 x172003) else (impl_CommandValid.j1L true x172000 x172001 x172002 x172003)))) := by
  refine LimIs.unique (impl_CommandValid.j0L_is x10 x172000 x172001 x172002 x172003) (LimIs.step (f := fun k => if x10 = true then (some false) else ((impl_KeyValid.f k x172001).bind fun t172 => (if t172 = true then (impl_CommandValid.j1 k false x172000 x172001 x172002 x172003) else (if x172000 = 5 then (impl_CommandValid.j1 k (x172001.toList != ([] : List UInt8)) x172000 x172001 x172002 x172003) else (impl_CommandValid.j1 k true x172000 x172001 x172002 x172003))))) (by simp only [impl_CommandValid.j0]) (fun k => by simp only [impl_CommandValid.j0]) ?_)
  repeat' first
    | (with_reducible exact LimIs.const _)
    | (with_reducible exact impl_CommandValid.j1L_is _ _ _ _ _)
    | (with_reducible exact impl_KeyValid.fL_is _)
    | (with_reducible refine LimIs.ite ?_ ?_)
    | (with_reducible refine LimIs.bind ?_ (fun _ => ?_))
theorem impl_CommandValid.j1L_eq (x24 : Bool) (x172000 : Int) (x172001 : ByteArray) (x172002 : Int) (x172003 : Int) : impl_CommandValid.j1L x24 x172000 x172001 x172002 x172003 = if x24 = true then (some false) else (if x172000 = 2 then ((impl_valueValid.f x172002).bind fun t173 => (if t173 = true then (some (x172003 == 0)) else (some false))) else (if x172000 = 4 then ((impl_valueValid.f x172002).bind fun t174 => (if t174 = true then (if x172003 = (-1) then (some true) else ((impl_valueValid.f x172003).bind fun t175 => (some t175))) else (some false))) else (if x172002 = 0 then (some (x172003 == 0)) else (some false)))) := by
  refine LimIs.unique (impl_CommandValid.j1L_is x24 x172000 x172001 x172002 x172003) (LimIs.step (f := fun k => if x24 = true then (some false) else (if x172000 = 2 then ((impl_valueValid.f x172002).bind fun t173 => (if t173 = true then (some (x172003 == 0)) else (some false))) else (if x172000 = 4 then ((impl_valueValid.f x172002).bind fun t174 => (if t174 = true then (if x172003 = (-1) then (some true) else ((impl_valueValid.f x172003).bind fun t175 => (some t175))) else (some false))) else (if x172002 = 0 then (some (x172003 == 0)) else (some false))))) (by simp only [impl_CommandValid.j1]) (fun k => by simp only [impl_CommandValid.j1]) ?_)
  repeat' first
    | (with_reducible exact LimIs.const _)
    | (with_reducible refine LimIs.ite ?_ ?_)
    | (with_reducible refine LimIs.bind ?_ (fun _ => ?_))
theorem impl_CommandValid.fL_eq (a0_0 : Int) (a0_1 : ByteArray) (a0_2 : Int) (a0_3 : Int) : impl_CommandValid.fL a0_0 a0_1 a0_2 a0_3 = if a0_0 < 1 then (impl_CommandValid.j0L true a0_0 a0_1 a0_2 a0_3) else (impl_CommandValid.j0L (decide (a0_0 > 5)) a0_0 a0_1 a0_2 a0_3) := by
  refine LimIs.unique (impl_CommandValid.fL_is a0_0 a0_1 a0_2 a0_3) ?_
  unfold impl_CommandValid.f
  repeat' first
    | (with_reducible exact LimIs.const _)
    | (with_reducible exact impl_CommandValid.j0L_is _ _ _ _ _)
    | (with_reducible refine LimIs.ite ?_ ?_)
    | (with_reducible refine LimIs.bind ?_ (fun _ => ?_))
/-! ### impl_wishValid -/
noncomputable def impl_wishValid.fL (a0_0 : Int) (a0_1 : ByteArray) (a0_2 : Int) (a0_3 : Int) : Option (Bool) := Lim (fun k => impl_wishValid.f k a0_0 a0_1 a0_2 a0_3)
theorem impl_wishValid.fL_is (a0_0 : Int) (a0_1 : ByteArray) (a0_2 : Int) (a0_3 : Int) : LimIs (fun k => impl_wishValid.f k a0_0 a0_1 a0_2 a0_3) (impl_wishValid.fL a0_0 a0_1 a0_2 a0_3) := LimIs.of_mono (fun k r h => impl_wishValid.mono a0_0 a0_1 a0_2 a0_3 k r h)
theorem impl_wishValid.fL_eq (a0_0 : Int) (a0_1 : ByteArray) (a0_2 : Int) (a0_3 : Int) : impl_wishValid.fL a0_0 a0_1 a0_2 a0_3 = (impl_CommandValid.fL a0_0 a0_1 a0_2 a0_3).bind fun t177 => (if t177 = true then (some (a0_0 != 5)) else (some false)) := by
  refine LimIs.unique (impl_wishValid.fL_is a0_0 a0_1 a0_2 a0_3) ?_
  unfold impl_wishValid.f
  repeat' first
    | (with_reducible exact LimIs.const _)
    | (with_reducible exact impl_CommandValid.fL_is _ _ _ _)
    | (with_reducible refine LimIs.ite ?_ ?_)
    | (with_reducible refine LimIs.bind ?_ (fun _ => ?_))
/-! ### impl_ResultValid -/
noncomputable def impl_ResultValid.fL (a0_0 : Int) (a0_1 : Int) (a0_2 : Int) (a0_3 : ByteArray) (a0_4 : Int) (a0_5 : Int) (a0_6 : Int) (a0_7 : Int) (a0_8 : Int) : Option (Bool) := Lim (fun k => impl_ResultValid.f k a0_0 a0_1 a0_2 a0_3 a0_4 a0_5 a0_6 a0_7 a0_8)
theorem impl_ResultValid.fL_is (a0_0 : Int) (a0_1 : Int) (a0_2 : Int) (a0_3 : ByteArray) (a0_4 : Int) (a0_5 : Int) (a0_6 : Int) (a0_7 : Int) (a0_8 : Int) : LimIs (fun k => impl_ResultValid.f k a0_0 a0_1 a0_2 a0_3 a0_4 a0_5 a0_6 a0_7 a0_8) (impl_ResultValid.fL a0_0 a0_1 a0_2 a0_3 a0_4 a0_5 a0_6 a0_7 a0_8) := LimIs.of_mono (fun k r h => impl_ResultValid.mono a0_0 a0_1 a0_2 a0_3 a0_4 a0_5 a0_6 a0_7 a0_8 k r h)
theorem impl_ResultValid.fL_eq (a0_0 : Int) (a0_1 : Int) (a0_2 : Int) (a0_3 : ByteArray) (a0_4 : Int) (a0_5 : Int) (a0_6 : Int) (a0_7 : Int) (a0_8 : Int) : impl_ResultValid.fL a0_0 a0_1 a0_2 a0_3 a0_4 a0_5 a0_6 a0_7 a0_8 = (impl_clientNumber.f a0_0).bind fun t179 => (if t179 = true then ((impl_seqValid.f a0_1).bind fun t180 => (if t180 = true then ((impl_wishValid.fL a0_2 a0_3 a0_4 a0_5).bind fun t181 => (if t181 = true then ((impl_replyValid.f a0_6).bind fun t182 => (if t182 = true then ((impl_timeValid.f a0_8).bind fun t183 => (if t183 = true then (if a0_7 ≥ 0 then (some (decide (a0_7 ≤ a0_8))) else (some false)) else (some false))) else (some false))) else (some false))) else (some false))) else (some false)) := by
  refine LimIs.unique (impl_ResultValid.fL_is a0_0 a0_1 a0_2 a0_3 a0_4 a0_5 a0_6 a0_7 a0_8) ?_
  unfold impl_ResultValid.f
  repeat' first
    | (with_reducible exact LimIs.const _)
    | (with_reducible exact impl_wishValid.fL_is _ _ _ _)
    | (with_reducible refine LimIs.ite ?_ ?_)
    | (with_reducible refine LimIs.bind ?_ (fun _ => ?_))
/-! ### impl_resultsValid -/
noncomputable def impl_resultsValid.l0L (x8 : List (S77)) (x9 : Int) (x10 : Int) : Option (Bool) := Lim (fun k => impl_resultsValid.l0 k x8 x9 x10)
theorem impl_resultsValid.l0L_is (x8 : List (S77)) (x9 : Int) (x10 : Int) : LimIs (fun k => impl_resultsValid.l0 k x8 x9 x10) (impl_resultsValid.l0L x8 x9 x10) := LimIs.of_mono (fun k r h => (impl_resultsValid.mono_l k) x8 x9 x10 r h)
noncomputable def impl_resultsValid.fL (l0 : List (S77)) : Option (Bool) := Lim (fun k => impl_resultsValid.f k l0)
theorem impl_resultsValid.fL_is (l0 : List (S77)) : LimIs (fun k => impl_resultsValid.f k l0) (impl_resultsValid.fL l0) := LimIs.of_mono (fun k r h => impl_resultsValid.mono l0 k r h)
theorem impl_resultsValid.l0L_eq (x8 : List (S77)) (x9 : Int) (x10 : Int) : impl_resultsValid.l0L x8 x9 x10 = if x10 < x9 then (if 0 ≤ x10 then (if x10 < (x8.length : Int) then ((impl_ResultValid.fL ((rd_T77 x8 x10).f0) ((rd_T77 x8 x10).f1) ((rd_T77 x8 x10).f2.f0) ((rd_T77 x8 x10).f2.f1) ((rd_T77 x8 x10).f2.f2) ((rd_T77 x8 x10).f2.f3) ((rd_T77 x8 x10).f3) ((rd_T77 x8 x10).f4) ((rd_T77 x8 x10).f5)).bind fun t186 => (if t186 = true then (impl_resultsValid.l0L x8 x9 (wrap64 (x10 + 1))) else (some false))) else (none)) else (none)) else (some true) := by
  refine LimIs.unique (impl_resultsValid.l0L_is x8 x9 x10) (LimIs.step (f := fun k => if x10 < x9 then (if 0 ≤ x10 then (if x10 < (x8.length : Int) then ((impl_ResultValid.f k ((rd_T77 x8 x10).f0) ((rd_T77 x8 x10).f1) ((rd_T77 x8 x10).f2.f0) ((rd_T77 x8 x10).f2.f1) ((rd_T77 x8 x10).f2.f2) ((rd_T77 x8 x10).f2.f3) ((rd_T77 x8 x10).f3) ((rd_T77 x8 x10).f4) ((rd_T77 x8 x10).f5)).bind fun t186 => (if t186 = true then (impl_resultsValid.l0 k x8 x9 (wrap64 (x10 + 1))) else (some false))) else (none)) else (none)) else (some true)) (by simp only [impl_resultsValid.l0]) (fun k => by simp only [impl_resultsValid.l0]) ?_)
  repeat' first
    | (with_reducible exact LimIs.const _)
    | (with_reducible exact impl_ResultValid.fL_is _ _ _ _ _ _ _ _ _)
    | (with_reducible exact impl_resultsValid.l0L_is _ _ _)
    | (with_reducible refine LimIs.ite ?_ ?_)
    | (with_reducible refine LimIs.bind ?_ (fun _ => ?_))
theorem impl_resultsValid.fL_eq (l0 : List (S77)) : impl_resultsValid.fL l0 = if (l0.length : Int) > 5 then (some false) else (impl_resultsValid.l0L l0 (l0.length : Int) 0) := by
  refine LimIs.unique (impl_resultsValid.fL_is l0) ?_
  unfold impl_resultsValid.f
  repeat' first
    | (with_reducible exact LimIs.const _)
    | (with_reducible exact impl_resultsValid.l0L_is _ _ _)
    | (with_reducible refine LimIs.ite ?_ ?_)
    | (with_reducible refine LimIs.bind ?_ (fun _ => ?_))
/-! ### impl_RealTime -/
noncomputable def impl_RealTime.j0L (x0 : List (S77)) (x1 : List Int) (x18 : Bool) : Option (Bool) := Lim (fun k => impl_RealTime.j0 k x0 x1 x18)
theorem impl_RealTime.j0L_is (x0 : List (S77)) (x1 : List Int) (x18 : Bool) : LimIs (fun k => impl_RealTime.j0 k x0 x1 x18) (impl_RealTime.j0L x0 x1 x18) := LimIs.of_mono (fun k r h => (impl_RealTime.mono_l k).1 x0 x1 x18 r h)
noncomputable def impl_RealTime.l0L (x0 : List (S77)) (x1 : List Int) (x19 : List Int) (x20 : Int) (x21 : Int) : Option (Bool) := Lim (fun k => impl_RealTime.l0 k x0 x1 x19 x20 x21)
theorem impl_RealTime.l0L_is (x0 : List (S77)) (x1 : List Int) (x19 : List Int) (x20 : Int) (x21 : Int) : LimIs (fun k => impl_RealTime.l0 k x0 x1 x19 x20 x21) (impl_RealTime.l0L x0 x1 x19 x20 x21) := LimIs.of_mono (fun k r h => (impl_RealTime.mono_l k).2.1 x0 x1 x19 x20 x21 r h)
noncomputable def impl_RealTime.l1L (x0 : List (S77)) (x1 : List Int) (x6 : Int) (x19 : List Int) (x20 : Int) (x21 : Int) (x29 : List Int) (x30 : Int) (x31 : Int) : Option (Bool) := Lim (fun k => impl_RealTime.l1 k x0 x1 x6 x19 x20 x21 x29 x30 x31)
theorem impl_RealTime.l1L_is (x0 : List (S77)) (x1 : List Int) (x6 : Int) (x19 : List Int) (x20 : Int) (x21 : Int) (x29 : List Int) (x30 : Int) (x31 : Int) : LimIs (fun k => impl_RealTime.l1 k x0 x1 x6 x19 x20 x21 x29 x30 x31) (impl_RealTime.l1L x0 x1 x6 x19 x20 x21 x29 x30 x31) := LimIs.of_mono (fun k r h => (impl_RealTime.mono_l k).2.2 x0 x1 x6 x19 x20 x21 x29 x30 x31 r h)
noncomputable def impl_RealTime.fL (l0 : List (S77)) (l1 : List Int) : Option (Bool) := Lim (fun k => impl_RealTime.f k l0 l1)
theorem impl_RealTime.fL_is (l0 : List (S77)) (l1 : List Int) : LimIs (fun k => impl_RealTime.f k l0 l1) (impl_RealTime.fL l0 l1) := LimIs.of_mono (fun k r h => impl_RealTime.mono l0 l1 k r h)
theorem impl_RealTime.j0L_eq (x0 : List (S77)) (x1 : List Int) (x18 : Bool) : impl_RealTime.j0L x0 x1 x18 = if x18 = true then (some false) else (impl_RealTime.l0L x0 x1 x1 (x1.length : Int) 0) := by
  refine LimIs.unique (impl_RealTime.j0L_is x0 x1 x18) (LimIs.step (f := fun k => if x18 = true then (some false) else (impl_RealTime.l0 k x0 x1 x1 (x1.length : Int) 0)) (by simp only [impl_RealTime.j0]) (fun k => by simp only [impl_RealTime.j0]) ?_)
  repeat' first
    | (with_reducible exact LimIs.const _)
    | (with_reducible exact impl_RealTime.l0L_is _ _ _ _ _)
    | (with_reducible refine LimIs.ite ?_ ?_)
    | (with_reducible refine LimIs.bind ?_ (fun _ => ?_))
theorem impl_RealTime.l0L_eq (x0 : List (S77)) (x1 : List Int) (x19 : List Int) (x20 : Int) (x21 : Int) : impl_RealTime.l0L x0 x1 x19 x20 x21 = if x21 < x20 then (if 0 ≤ x21 then (if x21 < (x19.length : Int) then (if 0 ≤ (wrap64 (x21 + 1)) then (if (wrap64 (x21 + 1)) ≤ (x1.length : Int) then ((some (x1.drop ((wrap64 (x21 + 1)) : Int).toNat : List Int)).bind fun y190 => (impl_RealTime.l1L x0 x1 (rd x19 x21) x19 x20 x21 y190 (y190.length : Int) 0)) else (none)) else (none)) else (none)) else (none)) else (some true) := by
  refine LimIs.unique (impl_RealTime.l0L_is x0 x1 x19 x20 x21) (LimIs.step (f := fun k => if x21 < x20 then (if 0 ≤ x21 then (if x21 < (x19.length : Int) then (if 0 ≤ (wrap64 (x21 + 1)) then (if (wrap64 (x21 + 1)) ≤ (x1.length : Int) then ((some (x1.drop ((wrap64 (x21 + 1)) : Int).toNat : List Int)).bind fun y190 => (impl_RealTime.l1 k x0 x1 (rd x19 x21) x19 x20 x21 y190 (y190.length : Int) 0)) else (none)) else (none)) else (none)) else (none)) else (some true)) (by simp only [impl_RealTime.l0]) (fun k => by simp only [impl_RealTime.l0]) ?_)
  repeat' first
    | (with_reducible exact LimIs.const _)
    | (with_reducible exact impl_RealTime.l1L_is _ _ _ _ _ _ _ _ _)
    | (with_reducible refine LimIs.ite ?_ ?_)
    | (with_reducible refine LimIs.bind ?_ (fun _ => ?_))
theorem impl_RealTime.l1L_eq (x0 : List (S77)) (x1 : List Int) (x6 : Int) (x19 : List Int) (x20 : Int) (x21 : Int) (x29 : List Int) (x30 : Int) (x31 : Int) : impl_RealTime.l1L x0 x1 x6 x19 x20 x21 x29 x30 x31 = if x31 < x30 then (if 0 ≤ x31 then (if x31 < (x29.length : Int) then (if 0 ≤ (rd x29 x31) then (if (rd x29 x31) < (x0.length : Int) then (if 0 ≤ x6 then (if x6 < (x0.length : Int) then (if ((rd_T77 x0 (rd x29 x31)).f5) < ((rd_T77 x0 x6).f4) then (some false) else (impl_RealTime.l1L x0 x1 x6 x19 x20 x21 x29 x30 (wrap64 (x31 + 1)))) else (none)) else (none)) else (none)) else (none)) else (none)) else (none)) else (impl_RealTime.l0L x0 x1 x19 x20 (wrap64 (x21 + 1))) := by
  refine LimIs.unique (impl_RealTime.l1L_is x0 x1 x6 x19 x20 x21 x29 x30 x31) (LimIs.step (f := fun k => if x31 < x30 then (if 0 ≤ x31 then (if x31 < (x29.length : Int) then (if 0 ≤ (rd x29 x31) then (if (rd x29 x31) < (x0.length : Int) then (if 0 ≤ x6 then (if x6 < (x0.length : Int) then (if ((rd_T77 x0 (rd x29 x31)).f5) < ((rd_T77 x0 x6).f4) then (some false) else (impl_RealTime.l1 k x0 x1 x6 x19 x20 x21 x29 x30 (wrap64 (x31 + 1)))) else (none)) else (none)) else (none)) else (none)) else (none)) else (none)) else (impl_RealTime.l0 k x0 x1 x19 x20 (wrap64 (x21 + 1)))) (by simp only [impl_RealTime.l1]) (fun k => by simp only [impl_RealTime.l1]) ?_)
  repeat' first
    | (with_reducible exact LimIs.const _)
    | (with_reducible exact impl_RealTime.l0L_is _ _ _ _ _)
    | (with_reducible exact impl_RealTime.l1L_is _ _ _ _ _ _ _ _ _)
    | (with_reducible refine LimIs.ite ?_ ?_)
    | (with_reducible refine LimIs.bind ?_ (fun _ => ?_))
theorem impl_RealTime.fL_eq (l0 : List (S77)) (l1 : List Int) : impl_RealTime.fL l0 l1 = (impl_resultsValid.fL l0).bind fun t187 => (if t187 = true then ((impl_OrderValid.fL (l0.length : Int) l1).bind fun t188 => (impl_RealTime.j0L l0 l1 (!t188))) else (impl_RealTime.j0L l0 l1 true)) := by
  refine LimIs.unique (impl_RealTime.fL_is l0 l1) ?_
  unfold impl_RealTime.f
  repeat' first
    | (with_reducible exact LimIs.const _)
    | (with_reducible exact impl_OrderValid.fL_is _ _)
    | (with_reducible exact impl_RealTime.j0L_is _ _ _)
    | (with_reducible exact impl_resultsValid.fL_is _)
    | (with_reducible refine LimIs.ite ?_ ?_)
    | (with_reducible refine LimIs.bind ?_ (fun _ => ?_))
/-! ### laws_eqResultS -/
noncomputable def laws_eqResultS.l0L (x0 : List (S77)) (x1 : List (S77)) (x5 : Int) : Option (Bool) := Lim (fun k => laws_eqResultS.l0 k x0 x1 x5)
theorem laws_eqResultS.l0L_is (x0 : List (S77)) (x1 : List (S77)) (x5 : Int) : LimIs (fun k => laws_eqResultS.l0 k x0 x1 x5) (laws_eqResultS.l0L x0 x1 x5) := LimIs.of_mono (fun k r h => (laws_eqResultS.mono_l k) x0 x1 x5 r h)
noncomputable def laws_eqResultS.fL (l0 : List (S77)) (l1 : List (S77)) : Option (Bool) := Lim (fun k => laws_eqResultS.f k l0 l1)
theorem laws_eqResultS.fL_is (l0 : List (S77)) (l1 : List (S77)) : LimIs (fun k => laws_eqResultS.f k l0 l1) (laws_eqResultS.fL l0 l1) := LimIs.of_mono (fun k r h => laws_eqResultS.mono l0 l1 k r h)
theorem laws_eqResultS.l0L_eq (x0 : List (S77)) (x1 : List (S77)) (x5 : Int) : laws_eqResultS.l0L x0 x1 x5 = if x5 < (x0.length : Int) then (if 0 ≤ x5 then (if x5 < (x1.length : Int) then ((laws_eqResult.f ((rd_T77 x0 x5).f0) ((rd_T77 x0 x5).f1) ((rd_T77 x0 x5).f2.f0) ((rd_T77 x0 x5).f2.f1) ((rd_T77 x0 x5).f2.f2) ((rd_T77 x0 x5).f2.f3) ((rd_T77 x0 x5).f3) ((rd_T77 x0 x5).f4) ((rd_T77 x0 x5).f5) ((rd_T77 x1 x5).f0) ((rd_T77 x1 x5).f1) ((rd_T77 x1 x5).f2.f0) ((rd_T77 x1 x5).f2.f1) ((rd_T77 x1 x5).f2.f2) ((rd_T77 x1 x5).f2.f3) ((rd_T77 x1 x5).f3) ((rd_T77 x1 x5).f4) ((rd_T77 x1 x5).f5)).bind fun t204 => (if t204 = true then (laws_eqResultS.l0L x0 x1 (wrap64 (x5 + 1))) else (some false))) else (none)) else (none)) else (some true) := by
  refine LimIs.unique (laws_eqResultS.l0L_is x0 x1 x5) (LimIs.step (f := fun k => if x5 < (x0.length : Int) then (if 0 ≤ x5 then (if x5 < (x1.length : Int) then ((laws_eqResult.f ((rd_T77 x0 x5).f0) ((rd_T77 x0 x5).f1) ((rd_T77 x0 x5).f2.f0) ((rd_T77 x0 x5).f2.f1) ((rd_T77 x0 x5).f2.f2) ((rd_T77 x0 x5).f2.f3) ((rd_T77 x0 x5).f3) ((rd_T77 x0 x5).f4) ((rd_T77 x0 x5).f5) ((rd_T77 x1 x5).f0) ((rd_T77 x1 x5).f1) ((rd_T77 x1 x5).f2.f0) ((rd_T77 x1 x5).f2.f1) ((rd_T77 x1 x5).f2.f2) ((rd_T77 x1 x5).f2.f3) ((rd_T77 x1 x5).f3) ((rd_T77 x1 x5).f4) ((rd_T77 x1 x5).f5)).bind fun t204 => (if t204 = true then (laws_eqResultS.l0 k x0 x1 (wrap64 (x5 + 1))) else (some false))) else (none)) else (none)) else (some true)) (by simp only [laws_eqResultS.l0]) (fun k => by simp only [laws_eqResultS.l0]) ?_)
  repeat' first
    | (with_reducible exact LimIs.const _)
    | (with_reducible exact laws_eqResultS.l0L_is _ _ _)
    | (with_reducible refine LimIs.ite ?_ ?_)
    | (with_reducible refine LimIs.bind ?_ (fun _ => ?_))
theorem laws_eqResultS.fL_eq (l0 : List (S77)) (l1 : List (S77)) : laws_eqResultS.fL l0 l1 = if (l0.length : Int) = (l1.length : Int) then (laws_eqResultS.l0L l0 l1 0) else (some false) := by
  refine LimIs.unique (laws_eqResultS.fL_is l0 l1) ?_
  unfold laws_eqResultS.f
  repeat' first
    | (with_reducible exact LimIs.const _)
    | (with_reducible exact laws_eqResultS.l0L_is _ _ _)
    | (with_reducible refine LimIs.ite ?_ ?_)
    | (with_reducible refine LimIs.bind ?_ (fun _ => ?_))
/-! ### laws_eqIntS -/
noncomputable def laws_eqIntS.l0L (x0 : List Int) (x1 : List Int) (x5 : Int) : Option (Bool) := Lim (fun k => laws_eqIntS.l0 k x0 x1 x5)
theorem laws_eqIntS.l0L_is (x0 : List Int) (x1 : List Int) (x5 : Int) : LimIs (fun k => laws_eqIntS.l0 k x0 x1 x5) (laws_eqIntS.l0L x0 x1 x5) := LimIs.of_mono (fun k r h => (laws_eqIntS.mono_l k) x0 x1 x5 r h)
noncomputable def laws_eqIntS.fL (l0 : List Int) (l1 : List Int) : Option (Bool) := Lim (fun k => laws_eqIntS.f k l0 l1)
theorem laws_eqIntS.fL_is (l0 : List Int) (l1 : List Int) : LimIs (fun k => laws_eqIntS.f k l0 l1) (laws_eqIntS.fL l0 l1) := LimIs.of_mono (fun k r h => laws_eqIntS.mono l0 l1 k r h)
theorem laws_eqIntS.l0L_eq (x0 : List Int) (x1 : List Int) (x5 : Int) : laws_eqIntS.l0L x0 x1 x5 = if x5 < (x0.length : Int) then (if 0 ≤ x5 then (if x5 < (x1.length : Int) then (if (rd x0 x5) = (rd x1 x5) then (laws_eqIntS.l0L x0 x1 (wrap64 (x5 + 1))) else (some false)) else (none)) else (none)) else (some true) := by
  refine LimIs.unique (laws_eqIntS.l0L_is x0 x1 x5) (LimIs.step (f := fun k => if x5 < (x0.length : Int) then (if 0 ≤ x5 then (if x5 < (x1.length : Int) then (if (rd x0 x5) = (rd x1 x5) then (laws_eqIntS.l0 k x0 x1 (wrap64 (x5 + 1))) else (some false)) else (none)) else (none)) else (some true)) (by simp only [laws_eqIntS.l0]) (fun k => by simp only [laws_eqIntS.l0]) ?_)
  repeat' first
    | (with_reducible exact LimIs.const _)
    | (with_reducible exact laws_eqIntS.l0L_is _ _ _)
    | (with_reducible refine LimIs.ite ?_ ?_)
    | (with_reducible refine LimIs.bind ?_ (fun _ => ?_))
theorem laws_eqIntS.fL_eq (l0 : List Int) (l1 : List Int) : laws_eqIntS.fL l0 l1 = if (l0.length : Int) = (l1.length : Int) then (laws_eqIntS.l0L l0 l1 0) else (some false) := by
  refine LimIs.unique (laws_eqIntS.fL_is l0 l1) ?_
  unfold laws_eqIntS.f
  repeat' first
    | (with_reducible exact LimIs.const _)
    | (with_reducible exact laws_eqIntS.l0L_is _ _ _)
    | (with_reducible refine LimIs.ite ?_ ?_)
    | (with_reducible refine LimIs.bind ?_ (fun _ => ?_))
/-! ### laws_FnExactRealTime -/
noncomputable def laws_FnExactRealTime.fL (l0 : List (S118)) (l1 : List Int) : Option (Bool) := Lim (fun k => laws_FnExactRealTime.f k l0 l1)
theorem laws_FnExactRealTime.fL_is (l0 : List (S118)) (l1 : List Int) : LimIs (fun k => laws_FnExactRealTime.f k l0 l1) (laws_FnExactRealTime.fL l0 l1) := LimIs.of_mono (fun k r h => laws_FnExactRealTime.mono l0 l1 k r h)
theorem laws_FnExactRealTime.fL_eq (l0 : List (S118)) (l1 : List Int) : laws_FnExactRealTime.fL l0 l1 = if (l1.length : Int) > 1048576 then (some true) else ((laws_szResultS.fL l0 1048576).bind fun t207 => (if t207 < 0 then (some true) else ((laws_toResultS.fL l0).bind fun t208 => ((laws_toIntS.fL l1).bind fun t211 => ((spec_RealTime.fL t208 t211).bind fun t214 => ((laws_toResultS.fL l0).bind fun t215 => ((laws_toIntS.fL l1).bind fun t218 => ((impl_RealTime.fL t215 t218).bind fun t221 => (if (t221 != t214) = true then (some false) else ((laws_toResultS.fL l0).bind fun t222 => ((laws_eqResultS.fL t215 t222).bind fun t225 => (if t225 = true then ((laws_toIntS.fL l1).bind fun t226 => ((laws_eqIntS.fL t218 t226).bind fun t229 => (if t229 = true then (some true) else (some false)))) else (some false))))))))))))) := by
  refine LimIs.unique (laws_FnExactRealTime.fL_is l0 l1) ?_
  unfold laws_FnExactRealTime.f
  repeat' first
    | (with_reducible exact LimIs.const _)
    | (with_reducible exact impl_RealTime.fL_is _ _)
    | (with_reducible exact laws_eqIntS.fL_is _ _)
    | (with_reducible exact laws_eqResultS.fL_is _ _)
    | (with_reducible exact laws_szResultS.fL_is _ _)
    | (with_reducible exact laws_toIntS.fL_is _)
    | (with_reducible exact laws_toResultS.fL_is _)
    | (with_reducible exact spec_RealTime.fL_is _ _)
    | (with_reducible refine LimIs.ite ?_ ?_)
    | (with_reducible refine LimIs.bind ?_ (fun _ => ?_))
end Go.Proofs.Ytkejaolfbejokaa.PFnExactRealTime
