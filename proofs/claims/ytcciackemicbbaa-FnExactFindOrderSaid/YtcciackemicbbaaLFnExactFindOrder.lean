/- The limits of the printed functions, and their equations. Written by lim.py out of the print. No condition. -/
import Derived.Test.YtcciackemicbbaaOFnExactFindOrder
import Derived.Test.YtcciackemicbbaaLim
namespace Go.Proofs.Ytcciackemicbbaa.PFnExactFindOrder
open Go.RowKit Go.Proofs.YtcciackemicbbaaW.PrintWords Go.Proofs.YtcciackemicbbaaW.PrintLast Go.Proofs.YtcciackemicbbaaW.PrintMore Go.Proofs.Ytcciackemicbbaa.Lim
set_option linter.unusedVariables false

/-! ### laws_szResultS -/
noncomputable def laws_szResultS.l0L (a : List (S127)) (b c : Int) : Option (Int) := Lim (fun k => laws_szResultS.l0 k a b c)
theorem laws_szResultS.l0L_is (a : List (S127)) (b c : Int) : LimIs (fun k => laws_szResultS.l0 k a b c) (laws_szResultS.l0L a b c) := LimIs.of_mono (fun k r h => (laws_szResultS.mono_l k) a b c r h)
noncomputable def laws_szResultS.fL (l0 : List (S127)) (a1 : Int) : Option (Int) := Lim (fun k => laws_szResultS.f k l0 a1)
theorem laws_szResultS.fL_is (l0 : List (S127)) (a1 : Int) : LimIs (fun k => laws_szResultS.f k l0 a1) (laws_szResultS.fL l0 a1) := LimIs.of_mono (fun k r h => laws_szResultS.mono l0 a1 k r h)
theorem laws_szResultS.l0L_eq (a : List (S127)) (b c : Int) : laws_szResultS.l0L a b c = if c < (a.length : Int) then (if 0 ≤ c then ((laws_szResult.f ((rd_T127 a c).f0) ((rd_T127 a c).f1) ((rd_T127 a c).f2.f0) ((rd_T127 a c).f2.f1) ((rd_T127 a c).f2.f2) ((rd_T127 a c).f2.f3) ((rd_T127 a c).f3) ((rd_T127 a c).f4) ((rd_T127 a c).f5) b).bind fun t105 => (if t105 < 0 then (some (-1)) else (laws_szResultS.l0L a t105 (wrap64 (c + 1))))) else (none)) else (some b) := by
  refine lU (laws_szResultS.l0L_is a b c) (LimIs.step1 (by simp only [laws_szResultS.l0]) ?_)
  simp only [laws_szResultS.l0]
  repeat' with_reducible first | exact lK _ | exact laws_szResultS.l0L_is .. | apply lI | apply lB | intro _
theorem laws_szResultS.fL_eq (l0 : List (S127)) (a1 : Int) : laws_szResultS.fL l0 a1 = if (wrap64 (a1 - (l0.length : Int))) < 0 then (some (-1)) else (laws_szResultS.l0L l0 (wrap64 (a1 - (l0.length : Int))) 0) := by
  refine lU (laws_szResultS.fL_is l0 a1) ?_
  unfold laws_szResultS.f
  repeat' with_reducible first | exact lK _ | exact laws_szResultS.l0L_is .. | apply lI | apply lB | intro _
/-! ### spec_OrderValid -/
noncomputable def spec_OrderValid.j0L (a : Int) (b : List Int) (c : Bool) : Option (Bool) := Lim (fun k => spec_OrderValid.j0 k a b c)
theorem spec_OrderValid.j0L_is (a : Int) (b : List Int) (c : Bool) : LimIs (fun k => spec_OrderValid.j0 k a b c) (spec_OrderValid.j0L a b c) := LimIs.of_mono (fun k r h => (spec_OrderValid.mono_l k).1 a b c r h)
noncomputable def spec_OrderValid.l0L (a : Int) (b : List Int) (c : Int) : Option (Bool) := Lim (fun k => spec_OrderValid.l0 k a b c)
theorem spec_OrderValid.l0L_is (a : Int) (b : List Int) (c : Int) : LimIs (fun k => spec_OrderValid.l0 k a b c) (spec_OrderValid.l0L a b c) := LimIs.of_mono (fun k r h => (spec_OrderValid.mono_l k).2.1 a b c r h)
noncomputable def spec_OrderValid.l1L (a : Int) (b : List Int) (c d : Int) : Option (Bool) := Lim (fun k => spec_OrderValid.l1 k a b c d)
theorem spec_OrderValid.l1L_is (a : Int) (b : List Int) (c d : Int) : LimIs (fun k => spec_OrderValid.l1 k a b c d) (spec_OrderValid.l1L a b c d) := LimIs.of_mono (fun k r h => (spec_OrderValid.mono_l k).2.2 a b c d r h)
noncomputable def spec_OrderValid.fL (a0 : Int) (l1 : List Int) : Option (Bool) := Lim (fun k => spec_OrderValid.f k a0 l1)
theorem spec_OrderValid.fL_is (a0 : Int) (l1 : List Int) : LimIs (fun k => spec_OrderValid.f k a0 l1) (spec_OrderValid.fL a0 l1) := LimIs.of_mono (fun k r h => spec_OrderValid.mono a0 l1 k r h)
theorem spec_OrderValid.j0L_eq (a : Int) (b : List Int) (c : Bool) : spec_OrderValid.j0L a b c = if c = true then (some false) else (spec_OrderValid.l0L a b 0) := by
  refine lU (spec_OrderValid.j0L_is a b c) (LimIs.step1 (by simp only [spec_OrderValid.j0]) ?_)
  simp only [spec_OrderValid.j0]
  repeat' with_reducible first | exact lK _ | exact spec_OrderValid.l0L_is .. | apply lI | apply lB | intro _
theorem spec_OrderValid.l0L_eq (a : Int) (b : List Int) (c : Int) : spec_OrderValid.l0L a b c = if c < (b.length : Int) then (if 0 ≤ c then ((spec_l1In.f (rd b c) 0 (wrap64 (a - 1))).bind fun t107 => (if t107 = true then (spec_OrderValid.l1L a b c 0) else (some false))) else (none)) else (some true) := by
  refine lU (spec_OrderValid.l0L_is a b c) (LimIs.step1 (by simp only [spec_OrderValid.l0]) ?_)
  simp only [spec_OrderValid.l0]
  repeat' with_reducible first | exact lK _ | exact spec_OrderValid.l1L_is .. | apply lI | apply lB | intro _
theorem spec_OrderValid.l1L_eq (a : Int) (b : List Int) (c d : Int) : spec_OrderValid.l1L a b c d = if d < c then (if 0 ≤ d then (if d < (b.length : Int) then (if 0 ≤ c then (if c < (b.length : Int) then (if (rd b d) = (rd b c) then (some false) else (spec_OrderValid.l1L a b c (wrap64 (d + 1)))) else (none)) else (none)) else (none)) else (none)) else (spec_OrderValid.l0L a b (wrap64 (c + 1))) := by
  refine lU (spec_OrderValid.l1L_is a b c d) (LimIs.step1 (by simp only [spec_OrderValid.l1]) ?_)
  simp only [spec_OrderValid.l1]
  repeat' with_reducible first | exact lK _ | exact spec_OrderValid.l0L_is .. | exact spec_OrderValid.l1L_is .. | apply lI | apply lB | intro _
theorem spec_OrderValid.fL_eq (a0 : Int) (l1 : List Int) : spec_OrderValid.fL a0 l1 = if a0 > 5 then (spec_OrderValid.j0L a0 l1 true) else (spec_OrderValid.j0L a0 l1 ((l1.length : Int) != a0)) := by
  refine lU (spec_OrderValid.fL_is a0 l1) ?_
  unfold spec_OrderValid.f
  repeat' with_reducible first | exact lK _ | exact spec_OrderValid.j0L_is .. | apply lI | apply lB | intro _
/-! ### spec_KeyValid -/
noncomputable def spec_KeyValid.l0L (a : ByteArray) (b : Int) : Option (Bool) := Lim (fun k => spec_KeyValid.l0 k a b)
theorem spec_KeyValid.l0L_is (a : ByteArray) (b : Int) : LimIs (fun k => spec_KeyValid.l0 k a b) (spec_KeyValid.l0L a b) := LimIs.of_mono (fun k r h => (spec_KeyValid.mono_l k) a b r h)
noncomputable def spec_KeyValid.fL (a0 : ByteArray) : Option (Bool) := Lim (fun k => spec_KeyValid.f k a0)
theorem spec_KeyValid.fL_is (a0 : ByteArray) : LimIs (fun k => spec_KeyValid.f k a0) (spec_KeyValid.fL a0) := LimIs.of_mono (fun k r h => spec_KeyValid.mono a0 k r h)
theorem spec_KeyValid.l0L_eq (a : ByteArray) (b : Int) : spec_KeyValid.l0L a b = if b < (a.size : Int) then (if 0 ≤ b then (if (bt a b) < 97 then (some false) else (if (bt a b) > 122 then (some false) else (spec_KeyValid.l0L a (wrap64 (b + 1))))) else (none)) else (some true) := by
  refine lU (spec_KeyValid.l0L_is a b) (LimIs.step1 (by simp only [spec_KeyValid.l0]) ?_)
  simp only [spec_KeyValid.l0]
  repeat' with_reducible first | exact lK _ | exact spec_KeyValid.l0L_is .. | apply lI | apply lB | intro _
theorem spec_KeyValid.fL_eq (a0 : ByteArray) : spec_KeyValid.fL a0 = (spec_l1In.f (a0.size : Int) 1 4).bind fun t110 => (if t110 = true then (spec_KeyValid.l0L a0 0) else (some false)) := by
  refine lU (spec_KeyValid.fL_is a0) ?_
  unfold spec_KeyValid.f
  repeat' with_reducible first | exact lK _ | exact spec_KeyValid.l0L_is .. | apply lI | apply lB | intro _
/-! ### spec_CommandValid -/
noncomputable def spec_CommandValid.j0L (a : Bool) (b : Int) (c : ByteArray) (d e : Int) : Option (Bool) := Lim (fun k => spec_CommandValid.j0 k a b c d e)
theorem spec_CommandValid.j0L_is (a : Bool) (b : Int) (c : ByteArray) (d e : Int) : LimIs (fun k => spec_CommandValid.j0 k a b c d e) (spec_CommandValid.j0L a b c d e) := LimIs.of_mono (fun k r h => (spec_CommandValid.mono_l k).1 a b c d e r h)
noncomputable def spec_CommandValid.j1L (a : Int) (b : Bool) (c : Int) (d : ByteArray) (e g : Int) : Option (Bool) := Lim (fun k => spec_CommandValid.j1 k a b c d e g)
theorem spec_CommandValid.j1L_is (a : Int) (b : Bool) (c : Int) (d : ByteArray) (e g : Int) : LimIs (fun k => spec_CommandValid.j1 k a b c d e g) (spec_CommandValid.j1L a b c d e g) := LimIs.of_mono (fun k r h => (spec_CommandValid.mono_l k).2 a b c d e g r h)
noncomputable def spec_CommandValid.fL (a0_0 : Int) (a0_1 : ByteArray) (a0_2 a0_3 : Int) : Option (Bool) := Lim (fun k => spec_CommandValid.f k a0_0 a0_1 a0_2 a0_3)
theorem spec_CommandValid.fL_is (a0_0 : Int) (a0_1 : ByteArray) (a0_2 a0_3 : Int) : LimIs (fun k => spec_CommandValid.f k a0_0 a0_1 a0_2 a0_3) (spec_CommandValid.fL a0_0 a0_1 a0_2 a0_3) := LimIs.of_mono (fun k r h => spec_CommandValid.mono a0_0 a0_1 a0_2 a0_3 k r h)
theorem spec_CommandValid.j0L_eq (a : Bool) (b : Int) (c : ByteArray) (d e : Int) : spec_CommandValid.j0L a b c d e = if a = true then (some false) else (if b = 1 then (spec_CommandValid.j1L b (b == 1) b c d e) else (if b = 3 then (spec_CommandValid.j1L b (b == 3) b c d e) else (spec_CommandValid.j1L b (b == 5) b c d e))) := by
  refine lU (spec_CommandValid.j0L_is a b c d e) (LimIs.step1 (by simp only [spec_CommandValid.j0]) ?_)
  simp only [spec_CommandValid.j0]
  repeat' with_reducible first | exact lK _ | exact spec_CommandValid.j1L_is .. | apply lI | apply lB | intro _
theorem spec_CommandValid.j1L_eq (a : Int) (b : Bool) (c : Int) (d : ByteArray) (e g : Int) : spec_CommandValid.j1L a b c d e g = if b = true then (if e = 0 then (some (g == 0)) else (some false)) else (if a = 2 then ((spec_l1In.f e 0 999).bind fun t113 => (if t113 = true then (some (g == 0)) else (some false))) else (if a = 4 then ((spec_l1In.f e 0 999).bind fun t114 => (if t114 = true then ((spec_l1In.f g (-1) 999).bind fun t115 => (some t115)) else (some false))) else (some false))) := by
  refine lU (spec_CommandValid.j1L_is a b c d e g) (LimIs.step1 (by simp only [spec_CommandValid.j1]) ?_)
  simp only [spec_CommandValid.j1]
  repeat' with_reducible first | exact lK _ | apply lI | apply lB | intro _
theorem spec_CommandValid.fL_eq (a0_0 : Int) (a0_1 : ByteArray) (a0_2 a0_3 : Int) : spec_CommandValid.fL a0_0 a0_1 a0_2 a0_3 = (spec_KeyValid.fL a0_1).bind fun t112 => (if t112 = true then (spec_CommandValid.j0L false a0_0 a0_1 a0_2 a0_3) else (if a0_0 = 5 then (spec_CommandValid.j0L (a0_1.toList != ([] : List UInt8)) a0_0 a0_1 a0_2 a0_3) else (spec_CommandValid.j0L true a0_0 a0_1 a0_2 a0_3))) := by
  refine lU (spec_CommandValid.fL_is a0_0 a0_1 a0_2 a0_3) ?_
  unfold spec_CommandValid.f
  repeat' with_reducible first | exact lK _ | exact spec_CommandValid.j0L_is .. | exact spec_KeyValid.fL_is .. | apply lI | apply lB | intro _
/-! ### spec_l25Wish -/
noncomputable def spec_l25Wish.fL (a0_0 : Int) (a0_1 : ByteArray) (a0_2 a0_3 : Int) : Option (Bool) := Lim (fun k => spec_l25Wish.f k a0_0 a0_1 a0_2 a0_3)
theorem spec_l25Wish.fL_is (a0_0 : Int) (a0_1 : ByteArray) (a0_2 a0_3 : Int) : LimIs (fun k => spec_l25Wish.f k a0_0 a0_1 a0_2 a0_3) (spec_l25Wish.fL a0_0 a0_1 a0_2 a0_3) := LimIs.of_mono (fun k r h => spec_l25Wish.mono a0_0 a0_1 a0_2 a0_3 k r h)
theorem spec_l25Wish.fL_eq (a0_0 : Int) (a0_1 : ByteArray) (a0_2 a0_3 : Int) : spec_l25Wish.fL a0_0 a0_1 a0_2 a0_3 = (spec_CommandValid.fL a0_0 a0_1 a0_2 a0_3).bind fun t117 => (if t117 = true then (some (a0_0 != 5)) else (some false)) := by
  refine lU (spec_l25Wish.fL_is a0_0 a0_1 a0_2 a0_3) ?_
  unfold spec_l25Wish.f
  repeat' with_reducible first | exact lK _ | exact spec_CommandValid.fL_is .. | apply lI | apply lB | intro _
/-! ### spec_ResultValid -/
noncomputable def spec_ResultValid.fL (a0_0 a0_1 a0_2 : Int) (a0_3 : ByteArray) (a0_4 a0_5 a0_6 a0_7 a0_8 : Int) : Option (Bool) := Lim (fun k => spec_ResultValid.f k a0_0 a0_1 a0_2 a0_3 a0_4 a0_5 a0_6 a0_7 a0_8)
theorem spec_ResultValid.fL_is (a0_0 a0_1 a0_2 : Int) (a0_3 : ByteArray) (a0_4 a0_5 a0_6 a0_7 a0_8 : Int) : LimIs (fun k => spec_ResultValid.f k a0_0 a0_1 a0_2 a0_3 a0_4 a0_5 a0_6 a0_7 a0_8) (spec_ResultValid.fL a0_0 a0_1 a0_2 a0_3 a0_4 a0_5 a0_6 a0_7 a0_8) := LimIs.of_mono (fun k r h => spec_ResultValid.mono a0_0 a0_1 a0_2 a0_3 a0_4 a0_5 a0_6 a0_7 a0_8 k r h)
theorem spec_ResultValid.fL_eq (a0_0 a0_1 a0_2 : Int) (a0_3 : ByteArray) (a0_4 a0_5 a0_6 a0_7 a0_8 : Int) : spec_ResultValid.fL a0_0 a0_1 a0_2 a0_3 a0_4 a0_5 a0_6 a0_7 a0_8 = (spec_l1In.f a0_0 1 3).bind fun t119 => (if t119 = true then ((spec_l1In.f a0_1 1 999).bind fun t120 => (if t120 = true then ((spec_l25Wish.fL a0_2 a0_3 a0_4 a0_5).bind fun t121 => (if t121 = true then ((spec_l1In.f a0_6 (-4) 999).bind fun t122 => (if t122 = true then ((spec_l1In.f a0_8 0 200).bind fun t123 => (if t123 = true then ((spec_l1In.f a0_7 0 a0_8).bind fun t124 => (some t124)) else (some false))) else (some false))) else (some false))) else (some false))) else (some false)) := by
  refine lU (spec_ResultValid.fL_is a0_0 a0_1 a0_2 a0_3 a0_4 a0_5 a0_6 a0_7 a0_8) ?_
  unfold spec_ResultValid.f
  repeat' with_reducible first | exact lK _ | exact spec_l25Wish.fL_is .. | apply lI | apply lB | intro _
/-! ### spec_EntryValid -/
noncomputable def spec_EntryValid.fL (a0_0 a0_1 a0_2 : Int) (a0_3 : ByteArray) (a0_4 a0_5 : Int) : Option (Bool) := Lim (fun k => spec_EntryValid.f k a0_0 a0_1 a0_2 a0_3 a0_4 a0_5)
theorem spec_EntryValid.fL_is (a0_0 a0_1 a0_2 : Int) (a0_3 : ByteArray) (a0_4 a0_5 : Int) : LimIs (fun k => spec_EntryValid.f k a0_0 a0_1 a0_2 a0_3 a0_4 a0_5) (spec_EntryValid.fL a0_0 a0_1 a0_2 a0_3 a0_4 a0_5) := LimIs.of_mono (fun k r h => spec_EntryValid.mono a0_0 a0_1 a0_2 a0_3 a0_4 a0_5 k r h)
theorem spec_EntryValid.fL_eq (a0_0 a0_1 a0_2 : Int) (a0_3 : ByteArray) (a0_4 a0_5 : Int) : spec_EntryValid.fL a0_0 a0_1 a0_2 a0_3 a0_4 a0_5 = (spec_l1In.f a0_0 0 3).bind fun t126 => (if t126 = true then ((spec_l1In.f a0_1 1 999).bind fun t127 => (if t127 = true then ((spec_CommandValid.fL a0_2 a0_3 a0_4 a0_5).bind fun t128 => (some t128)) else (some false))) else (some false)) := by
  refine lU (spec_EntryValid.fL_is a0_0 a0_1 a0_2 a0_3 a0_4 a0_5) ?_
  unfold spec_EntryValid.f
  repeat' with_reducible first | exact lK _ | exact spec_CommandValid.fL_is .. | apply lI | apply lB | intro _
/-! ### spec_PairsValid -/
noncomputable def spec_PairsValid.l0L (a : List (S181)) (b : Int) : Option (Bool) := Lim (fun k => spec_PairsValid.l0 k a b)
theorem spec_PairsValid.l0L_is (a : List (S181)) (b : Int) : LimIs (fun k => spec_PairsValid.l0 k a b) (spec_PairsValid.l0L a b) := LimIs.of_mono (fun k r h => (spec_PairsValid.mono_l k) a b r h)
noncomputable def spec_PairsValid.fL (l0 : List (S181)) : Option (Bool) := Lim (fun k => spec_PairsValid.f k l0)
theorem spec_PairsValid.fL_is (l0 : List (S181)) : LimIs (fun k => spec_PairsValid.f k l0) (spec_PairsValid.fL l0) := LimIs.of_mono (fun k r h => spec_PairsValid.mono l0 k r h)
theorem spec_PairsValid.l0L_eq (a : List (S181)) (b : Int) : spec_PairsValid.l0L a b = if b < (a.length : Int) then (if 0 ≤ b then ((spec_KeyValid.fL ((rd_T181 a b).f0)).bind fun t130 => (if t130 = true then ((spec_l1In.f ((rd_T181 a b).f1) 0 999).bind fun t132 => (if t132 = true then (if b > 0 then (if 0 ≤ (wrap64 (b - 1)) then (if (wrap64 (b - 1)) < (a.length : Int) then (if ((Op.bytesLess (((rd_T181 a (wrap64 (b - 1))).f0).toList) (((rd_T181 a b).f0).toList)) = true) then (spec_PairsValid.l0L a (wrap64 (b + 1))) else (some false)) else (none)) else (none)) else (spec_PairsValid.l0L a (wrap64 (b + 1)))) else (some false))) else (some false))) else (none)) else (some true) := by
  refine lU (spec_PairsValid.l0L_is a b) (LimIs.step1 (by simp only [spec_PairsValid.l0]) ?_)
  simp only [spec_PairsValid.l0]
  repeat' with_reducible first | exact lK _ | exact spec_KeyValid.fL_is .. | exact spec_PairsValid.l0L_is .. | apply lI | apply lB | intro _
theorem spec_PairsValid.fL_eq (l0 : List (S181)) : spec_PairsValid.fL l0 = if (l0.length : Int) > 48 then (some false) else (spec_PairsValid.l0L l0 0) := by
  refine lU (spec_PairsValid.fL_is l0) ?_
  unfold spec_PairsValid.f
  repeat' with_reducible first | exact lK _ | exact spec_PairsValid.l0L_is .. | apply lI | apply lB | intro _
/-! ### spec_l4Place -/
noncomputable def spec_l4Place.l0L (a : List (S181)) (b : ByteArray) (c : Int) : Option (Int) := Lim (fun k => spec_l4Place.l0 k a b c)
theorem spec_l4Place.l0L_is (a : List (S181)) (b : ByteArray) (c : Int) : LimIs (fun k => spec_l4Place.l0 k a b c) (spec_l4Place.l0L a b c) := LimIs.of_mono (fun k r h => (spec_l4Place.mono_l k) a b c r h)
noncomputable def spec_l4Place.fL (l0 : List (S181)) (a1 : ByteArray) : Option (Int) := Lim (fun k => spec_l4Place.f k l0 a1)
theorem spec_l4Place.fL_is (l0 : List (S181)) (a1 : ByteArray) : LimIs (fun k => spec_l4Place.f k l0 a1) (spec_l4Place.fL l0 a1) := LimIs.of_mono (fun k r h => spec_l4Place.mono l0 a1 k r h)
theorem spec_l4Place.l0L_eq (a : List (S181)) (b : ByteArray) (c : Int) : spec_l4Place.l0L a b c = if c < (a.length : Int) then (if 0 ≤ c then (if (Op.bytesLess (((rd_T181 a c).f0).toList) b.toList) = true then (spec_l4Place.l0L a b (wrap64 (c + 1))) else (some c)) else (none)) else (some c) := by
  refine lU (spec_l4Place.l0L_is a b c) (LimIs.step1 (by simp only [spec_l4Place.l0]) ?_)
  simp only [spec_l4Place.l0]
  repeat' with_reducible first | exact lK _ | exact spec_l4Place.l0L_is .. | apply lI | apply lB | intro _
theorem spec_l4Place.fL_eq (l0 : List (S181)) (a1 : ByteArray) : spec_l4Place.fL l0 a1 = spec_l4Place.l0L l0 a1 0 := by
  refine lU (spec_l4Place.fL_is l0 a1) ?_
  unfold spec_l4Place.f
  repeat' with_reducible first | exact lK _ | exact spec_l4Place.l0L_is .. | apply lI | apply lB | intro _
/-! ### spec_PairGet -/
noncomputable def spec_PairGet.fL (l0 : List (S181)) (a1 : ByteArray) : Option (Int) := Lim (fun k => spec_PairGet.f k l0 a1)
theorem spec_PairGet.fL_is (l0 : List (S181)) (a1 : ByteArray) : LimIs (fun k => spec_PairGet.f k l0 a1) (spec_PairGet.fL l0 a1) := LimIs.of_mono (fun k r h => spec_PairGet.mono l0 a1 k r h)
theorem spec_PairGet.fL_eq (l0 : List (S181)) (a1 : ByteArray) : spec_PairGet.fL l0 a1 = (spec_l4Place.fL l0 a1).bind fun t136 => ((spec_PairsValid.fL l0).bind fun t137 => (if t137 = true then (if t136 = (l0.length : Int) then (some (-1)) else (if 0 ≤ t136 then (if t136 < (l0.length : Int) then (if ((rd_T181 l0 t136).f0).toList = a1.toList then (some ((rd_T181 l0 t136).f1)) else (some (-1))) else (none)) else (none))) else (some (-1)))) := by
  refine lU (spec_PairGet.fL_is l0 a1) ?_
  unfold spec_PairGet.f
  repeat' with_reducible first | exact lK _ | exact spec_PairsValid.fL_is .. | exact spec_l4Place.fL_is .. | apply lI | apply lB | intro _
/-! ### spec_PairDrop -/
noncomputable def spec_PairDrop.fL (l0 : List (S181)) (a1 : ByteArray) : Option ((List (S181)) × Bool) := Lim (fun k => spec_PairDrop.f k l0 a1)
theorem spec_PairDrop.fL_is (l0 : List (S181)) (a1 : ByteArray) : LimIs (fun k => spec_PairDrop.f k l0 a1) (spec_PairDrop.fL l0 a1) := LimIs.of_mono (fun k r h => spec_PairDrop.mono l0 a1 k r h)
theorem spec_PairDrop.fL_eq (l0 : List (S181)) (a1 : ByteArray) : spec_PairDrop.fL l0 a1 = (some (([] : List (S181)) : List (S181))).bind fun y140 => ((spec_PairsValid.fL l0).bind fun t143 => (if t143 = true then ((spec_l4Place.fL l0 a1).bind fun t144 => (if t144 = (l0.length : Int) then (if y140.length + l0.length < 5864062014805 then (some ((y140 ++ l0), false)) else (none)) else (if 0 ≤ t144 then (if t144 < (l0.length : Int) then (if ((rd_T181 l0 t144).f0).toList = a1.toList then (if t144 ≤ (l0.length : Int) then ((some (l0.take (t144 : Int).toNat : List (S181))).bind fun y149 => (if y140.length + y149.length < 5864062014805 then ((some (y140 ++ y149 : List (S181))).bind fun y153 => (if 0 ≤ (wrap64 (t144 + 1)) then (if (wrap64 (t144 + 1)) ≤ (l0.length : Int) then ((some (l0.drop ((wrap64 (t144 + 1)) : Int).toNat : List (S181))).bind fun y156 => (if y153.length + y156.length < 5864062014805 then (some ((y153 ++ y156), true)) else (none))) else (none)) else (none))) else (none))) else (none)) else (if y140.length + l0.length < 5864062014805 then (some ((y140 ++ l0), false)) else (none))) else (none)) else (none)))) else (some (y140, false)))) := by
  refine lU (spec_PairDrop.fL_is l0 a1) ?_
  unfold spec_PairDrop.f
  repeat' with_reducible first | exact lK _ | exact spec_PairsValid.fL_is .. | exact spec_l4Place.fL_is .. | apply lI | apply lB | intro _
/-! ### spec_PairPut -/
noncomputable def spec_PairPut.j0L (a : List (S181)) (b : ByteArray) (c : Int) (d : List (S181)) (e : Bool) : Option ((List (S181)) × Bool) := Lim (fun k => spec_PairPut.j0 k a b c d e)
theorem spec_PairPut.j0L_is (a : List (S181)) (b : ByteArray) (c : Int) (d : List (S181)) (e : Bool) : LimIs (fun k => spec_PairPut.j0 k a b c d e) (spec_PairPut.j0L a b c d e) := LimIs.of_mono (fun k r h => (spec_PairPut.mono_l k).1 a b c d e r h)
noncomputable def spec_PairPut.j1L (a : List (S181)) (b : ByteArray) (c : Int) (d : List (S181)) (e : Int) (f : Bool) : Option ((List (S181)) × Bool) := Lim (fun k => spec_PairPut.j1 k a b c d e f)
theorem spec_PairPut.j1L_is (a : List (S181)) (b : ByteArray) (c : Int) (d : List (S181)) (e : Int) (f : Bool) : LimIs (fun k => spec_PairPut.j1 k a b c d e f) (spec_PairPut.j1L a b c d e f) := LimIs.of_mono (fun k r h => (spec_PairPut.mono_l k).2 a b c d e f r h)
noncomputable def spec_PairPut.fL (l0 : List (S181)) (a1 : ByteArray) (a2 : Int) : Option ((List (S181)) × Bool) := Lim (fun k => spec_PairPut.f k l0 a1 a2)
theorem spec_PairPut.fL_is (l0 : List (S181)) (a1 : ByteArray) (a2 : Int) : LimIs (fun k => spec_PairPut.f k l0 a1 a2) (spec_PairPut.fL l0 a1 a2) := LimIs.of_mono (fun k r h => spec_PairPut.mono l0 a1 a2 k r h)
theorem spec_PairPut.j0L_eq (a : List (S181)) (b : ByteArray) (c : Int) (d : List (S181)) (e : Bool) : spec_PairPut.j0L a b c d e = if e = true then (some (d, false)) else ((spec_l4Place.fL a b).bind fun t172 => (if t172 < (a.length : Int) then (if 0 ≤ t172 then (spec_PairPut.j1L a b c d t172 (((rd_T181 a t172).f0).toList == b.toList)) else (none)) else (spec_PairPut.j1L a b c d t172 false))) := by
  refine lU (spec_PairPut.j0L_is a b c d e) (LimIs.step1 (by simp only [spec_PairPut.j0]) ?_)
  simp only [spec_PairPut.j0]
  repeat' with_reducible first | exact lK _ | exact spec_PairPut.j1L_is .. | exact spec_l4Place.fL_is .. | apply lI | apply lB | intro _
theorem spec_PairPut.j1L_eq (a : List (S181)) (b : ByteArray) (c : Int) (d : List (S181)) (e : Int) (f : Bool) : spec_PairPut.j1L a b c d e f = if f = true then (if d.length + a.length < 5864062014805 then ((some (d ++ a : List (S181))).bind fun y174 => (if 0 ≤ e then (if e < (y174.length : Int) then (some ((y174.set (e : Int).toNat (⟨(rd_T181 y174 e).f0, c⟩ : S181)), true)) else (none)) else (none))) else (none)) else (if (a.length : Int) ≥ 48 then (if d.length + a.length < 5864062014805 then (some ((d ++ a), false)) else (none)) else (if 0 ≤ e then (if e ≤ (a.length : Int) then ((some (a.take (e : Int).toNat : List (S181))).bind fun y181 => (if d.length + y181.length < 5864062014805 then ((some (d ++ y181 : List (S181))).bind fun y185 => (if y185.length < 5864062014805 then ((some (y185 ++ [(⟨b, c⟩ : S181)] : List (S181))).bind fun y188 => ((some (a.drop (e : Int).toNat : List (S181))).bind fun y191 => (if y188.length + y191.length < 5864062014805 then (some ((y188 ++ y191), true)) else (none)))) else (none))) else (none))) else (none)) else (none))) := by
  refine lU (spec_PairPut.j1L_is a b c d e f) (LimIs.step1 (by simp only [spec_PairPut.j1]) ?_)
  simp only [spec_PairPut.j1]
  repeat' with_reducible first | exact lK _ | apply lI | apply lB | intro _
theorem spec_PairPut.fL_eq (l0 : List (S181)) (a1 : ByteArray) (a2 : Int) : spec_PairPut.fL l0 a1 a2 = (some (([] : List (S181)) : List (S181))).bind fun y166 => ((spec_PairsValid.fL l0).bind fun t169 => (if t169 = true then ((spec_KeyValid.fL a1).bind fun t170 => (if t170 = true then ((spec_l1In.f a2 0 999).bind fun t171 => (spec_PairPut.j0L l0 a1 a2 y166 (!t171))) else (spec_PairPut.j0L l0 a1 a2 y166 true))) else (spec_PairPut.j0L l0 a1 a2 y166 true))) := by
  refine lU (spec_PairPut.fL_is l0 a1 a2) ?_
  unfold spec_PairPut.f
  repeat' with_reducible first | exact lK _ | exact spec_KeyValid.fL_is .. | exact spec_PairPut.j0L_is .. | exact spec_PairsValid.fL_is .. | apply lI | apply lB | intro _
/-! ### spec_l29one -/
noncomputable def spec_l29one.fL (l0 : List (S181)) (a1_0 a1_1 a1_2 : Int) (a1_3 : ByteArray) (a1_4 a1_5 a1_6 : Int) : Option ((List (S181)) × Bool) := Lim (fun k => spec_l29one.f k l0 a1_0 a1_1 a1_2 a1_3 a1_4 a1_5 a1_6)
theorem spec_l29one.fL_is (l0 : List (S181)) (a1_0 a1_1 a1_2 : Int) (a1_3 : ByteArray) (a1_4 a1_5 a1_6 : Int) : LimIs (fun k => spec_l29one.f k l0 a1_0 a1_1 a1_2 a1_3 a1_4 a1_5 a1_6) (spec_l29one.fL l0 a1_0 a1_1 a1_2 a1_3 a1_4 a1_5 a1_6) := LimIs.of_mono (fun k r h => spec_l29one.mono l0 a1_0 a1_1 a1_2 a1_3 a1_4 a1_5 a1_6 k r h)
theorem spec_l29one.fL_eq (l0 : List (S181)) (a1_0 a1_1 a1_2 : Int) (a1_3 : ByteArray) (a1_4 a1_5 a1_6 : Int) : spec_l29one.fL l0 a1_0 a1_1 a1_2 a1_3 a1_4 a1_5 a1_6 = (spec_PairGet.fL l0 a1_3).bind fun t199 => (if a1_6 = (-2) then (some (l0, true)) else (if a1_6 = t199 then (if a1_2 = 3 then ((spec_PairDrop.fL l0 a1_3).bind fun bt200 => (some (bt200.1, true))) else (if a1_2 = 4 then (if a1_5 = t199 then ((spec_PairPut.fL l0 a1_3 a1_4).bind fun bt204 => (some (bt204.1, bt204.2))) else (some (l0, true))) else (if a1_2 = 1 then (some (l0, true)) else ((spec_PairPut.fL l0 a1_3 a1_4).bind fun bt208 => (some (bt208.1, bt208.2)))))) else (some (l0, false)))) := by
  refine lU (spec_l29one.fL_is l0 a1_0 a1_1 a1_2 a1_3 a1_4 a1_5 a1_6) ?_
  unfold spec_l29one.f
  repeat' with_reducible first | exact lK _ | exact spec_PairDrop.fL_is .. | exact spec_PairGet.fL_is .. | exact spec_PairPut.fL_is .. | apply lI | apply lB | intro _
/-! ### spec_RunHistory -/
noncomputable def spec_RunHistory.l0L (a : List (S120)) (b : List (S181)) (c : Int) : Option ((List (S181)) × Bool) := Lim (fun k => spec_RunHistory.l0 k a b c)
theorem spec_RunHistory.l0L_is (a : List (S120)) (b : List (S181)) (c : Int) : LimIs (fun k => spec_RunHistory.l0 k a b c) (spec_RunHistory.l0L a b c) := LimIs.of_mono (fun k r h => (spec_RunHistory.mono_l k).1 a b c r h)
noncomputable def spec_RunHistory.l1L (a : List (S120)) (b : List (S181)) (c : Int) : Option ((List (S181)) × Bool) := Lim (fun k => spec_RunHistory.l1 k a b c)
theorem spec_RunHistory.l1L_is (a : List (S120)) (b : List (S181)) (c : Int) : LimIs (fun k => spec_RunHistory.l1 k a b c) (spec_RunHistory.l1L a b c) := LimIs.of_mono (fun k r h => (spec_RunHistory.mono_l k).2 a b c r h)
noncomputable def spec_RunHistory.fL (l0 : List (S120)) : Option ((List (S181)) × Bool) := Lim (fun k => spec_RunHistory.f k l0)
theorem spec_RunHistory.fL_is (l0 : List (S120)) : LimIs (fun k => spec_RunHistory.f k l0) (spec_RunHistory.fL l0) := LimIs.of_mono (fun k r h => spec_RunHistory.mono l0 k r h)
theorem spec_RunHistory.l0L_eq (a : List (S120)) (b : List (S181)) (c : Int) : spec_RunHistory.l0L a b c = if c < (a.length : Int) then (if c ≥ 200 then (some ((([] : List (S181))), false)) else (if 0 ≤ c then ((spec_EntryValid.fL ((rd_T120 a c).f0.f0) ((rd_T120 a c).f0.f1) ((rd_T120 a c).f0.f2.f0) ((rd_T120 a c).f0.f2.f1) ((rd_T120 a c).f0.f2.f2) ((rd_T120 a c).f0.f2.f3)).bind fun t219 => (if t219 = true then (if ((rd_T120 a c).f0.f2.f0) = 5 then (some ((([] : List (S181))), false)) else (spec_RunHistory.l0L a b (wrap64 (c + 1)))) else (some ((([] : List (S181))), false)))) else (none))) else (spec_RunHistory.l1L a b 0) := by
  refine lU (spec_RunHistory.l0L_is a b c) (LimIs.step1 (by simp only [spec_RunHistory.l0]) ?_)
  simp only [spec_RunHistory.l0]
  repeat' with_reducible first | exact lK _ | exact spec_EntryValid.fL_is .. | exact spec_RunHistory.l0L_is .. | exact spec_RunHistory.l1L_is .. | apply lI | apply lB | intro _
theorem spec_RunHistory.l1L_eq (a : List (S120)) (b : List (S181)) (c : Int) : spec_RunHistory.l1L a b c = if c < (a.length : Int) then (if 0 ≤ c then ((spec_l29one.fL b ((rd_T120 a c).f0.f0) ((rd_T120 a c).f0.f1) ((rd_T120 a c).f0.f2.f0) ((rd_T120 a c).f0.f2.f1) ((rd_T120 a c).f0.f2.f2) ((rd_T120 a c).f0.f2.f3) ((rd_T120 a c).f1)).bind fun bt228 => (if bt228.2 = true then (spec_RunHistory.l1L a bt228.1 (wrap64 (c + 1))) else (some ((([] : List (S181))), false)))) else (none)) else (some (b, true)) := by
  refine lU (spec_RunHistory.l1L_is a b c) (LimIs.step1 (by simp only [spec_RunHistory.l1]) ?_)
  simp only [spec_RunHistory.l1]
  repeat' with_reducible first | exact lK _ | exact spec_RunHistory.l1L_is .. | exact spec_l29one.fL_is .. | apply lI | apply lB | intro _
theorem spec_RunHistory.fL_eq (l0 : List (S120)) : spec_RunHistory.fL l0 = spec_RunHistory.l0L l0 (([] : List (S181))) 0 := by
  refine lU (spec_RunHistory.fL_is l0) ?_
  unfold spec_RunHistory.f
  repeat' with_reducible first | exact lK _ | exact spec_RunHistory.l0L_is .. | apply lI | apply lB | intro _
/-! ### spec_RepliesRight -/
noncomputable def spec_RepliesRight.l0L (a : List (S32)) (b : List Int) (c : List (S120)) (d : Int) : Option (Bool) := Lim (fun k => spec_RepliesRight.l0 k a b c d)
theorem spec_RepliesRight.l0L_is (a : List (S32)) (b : List Int) (c : List (S120)) (d : Int) : LimIs (fun k => spec_RepliesRight.l0 k a b c d) (spec_RepliesRight.l0L a b c d) := LimIs.of_mono (fun k r h => (spec_RepliesRight.mono_l k) a b c d r h)
noncomputable def spec_RepliesRight.fL (l0 : List (S32)) (l1 : List Int) : Option (Bool) := Lim (fun k => spec_RepliesRight.f k l0 l1)
theorem spec_RepliesRight.fL_is (l0 : List (S32)) (l1 : List Int) : LimIs (fun k => spec_RepliesRight.f k l0 l1) (spec_RepliesRight.fL l0 l1) := LimIs.of_mono (fun k r h => spec_RepliesRight.mono l0 l1 k r h)
theorem spec_RepliesRight.l0L_eq (a : List (S32)) (b : List Int) (c : List (S120)) (d : Int) : spec_RepliesRight.l0L a b c d = if d < (b.length : Int) then (if 0 ≤ d then (if 0 ≤ (rd b d) then (if (rd b d) < (a.length : Int) then ((spec_ResultValid.fL ((rd_T32 a (rd b d)).f0) ((rd_T32 a (rd b d)).f1) ((rd_T32 a (rd b d)).f2.f0) ((rd_T32 a (rd b d)).f2.f1) ((rd_T32 a (rd b d)).f2.f2) ((rd_T32 a (rd b d)).f2.f3) ((rd_T32 a (rd b d)).f3) ((rd_T32 a (rd b d)).f4) ((rd_T32 a (rd b d)).f5)).bind fun t242 => (if t242 = true then (if c.length < 2199023255552 then (spec_RepliesRight.l0L a b (c ++ [(⟨(⟨(rd_T32 a (rd b d)).f0, (rd_T32 a (rd b d)).f1, (⟨(rd_T32 a (rd b d)).f2.f0, (rd_T32 a (rd b d)).f2.f1, (rd_T32 a (rd b d)).f2.f2, (rd_T32 a (rd b d)).f2.f3⟩ : S30)⟩ : S118), (rd_T32 a (rd b d)).f3⟩ : S120)]) (wrap64 (d + 1))) else (none)) else (some false))) else (none)) else (none)) else (none)) else ((spec_RunHistory.fL c).bind fun bt246 => (some bt246.2)) := by
  refine lU (spec_RepliesRight.l0L_is a b c d) (LimIs.step1 (by simp only [spec_RepliesRight.l0]) ?_)
  simp only [spec_RepliesRight.l0]
  repeat' with_reducible first | exact lK _ | exact spec_RepliesRight.l0L_is .. | exact spec_ResultValid.fL_is .. | exact spec_RunHistory.fL_is .. | apply lI | apply lB | intro _
theorem spec_RepliesRight.fL_eq (l0 : List (S32)) (l1 : List Int) : spec_RepliesRight.fL l0 l1 = (spec_OrderValid.fL (l0.length : Int) l1).bind fun t235 => (if t235 = true then (spec_RepliesRight.l0L l0 l1 (([] : List (S120))) 0) else (some false)) := by
  refine lU (spec_RepliesRight.fL_is l0 l1) ?_
  unfold spec_RepliesRight.f
  repeat' with_reducible first | exact lK _ | exact spec_OrderValid.fL_is .. | exact spec_RepliesRight.l0L_is .. | apply lI | apply lB | intro _
/-! ### spec_l39next -/
noncomputable def spec_l39next.l0L (a : List Int) (b c : Int) : Option (List Int × Bool) := Lim (fun k => spec_l39next.l0 k a b c)
theorem spec_l39next.l0L_is (a : List Int) (b c : Int) : LimIs (fun k => spec_l39next.l0 k a b c) (spec_l39next.l0L a b c) := LimIs.of_mono (fun k r h => (spec_l39next.mono_l k).1 a b c r h)
noncomputable def spec_l39next.l1L (a : List Int) (b c : Int) (d : Bool) (e : Int) : Option (List Int × Bool) := Lim (fun k => spec_l39next.l1 k a b c d e)
theorem spec_l39next.l1L_is (a : List Int) (b c : Int) (d : Bool) (e : Int) : LimIs (fun k => spec_l39next.l1 k a b c d e) (spec_l39next.l1L a b c d e) := LimIs.of_mono (fun k r h => (spec_l39next.mono_l k).2 a b c d e r h)
noncomputable def spec_l39next.fL (l0 : List Int) (a1 a2 : Int) : Option (List Int × Bool) := Lim (fun k => spec_l39next.f k l0 a1 a2)
theorem spec_l39next.fL_is (l0 : List Int) (a1 a2 : Int) : LimIs (fun k => spec_l39next.f k l0 a1 a2) (spec_l39next.fL l0 a1 a2) := LimIs.of_mono (fun k r h => spec_l39next.mono l0 a1 a2 k r h)
theorem spec_l39next.l0L_eq (a : List Int) (b c : Int) : spec_l39next.l0L a b c = if c < b then (spec_l39next.l1L a b c false 0) else (some (a, false)) := by
  refine lU (spec_l39next.l0L_is a b c) (LimIs.step1 (by simp only [spec_l39next.l0]) ?_)
  simp only [spec_l39next.l0]
  repeat' with_reducible first | exact lK _ | exact spec_l39next.l1L_is .. | apply lI | apply lB | intro _
theorem spec_l39next.l1L_eq (a : List Int) (b c : Int) (d : Bool) (e : Int) : spec_l39next.l1L a b c d e = if e < (a.length : Int) then (if d = true then (spec_l39next.l1L a b c true (wrap64 (e + 1))) else (if 0 ≤ e then (spec_l39next.l1L a b c ((rd a e) == c) (wrap64 (e + 1))) else (none))) else (if d = true then (spec_l39next.l0L a b (wrap64 (c + 1))) else ((some (([] : List Int) : List Int)).bind fun y251 => (if y251.length + a.length < 17592186044416 then ((some (y251 ++ a : List Int)).bind fun y254 => (if y254.length < 17592186044416 then (some ((y254 ++ [c]), true)) else (none))) else (none)))) := by
  refine lU (spec_l39next.l1L_is a b c d e) (LimIs.step1 (by simp only [spec_l39next.l1]) ?_)
  simp only [spec_l39next.l1]
  repeat' with_reducible first | exact lK _ | exact spec_l39next.l0L_is .. | exact spec_l39next.l1L_is .. | apply lI | apply lB | intro _
theorem spec_l39next.fL_eq (l0 : List Int) (a1 a2 : Int) : spec_l39next.fL l0 a1 a2 = spec_l39next.l0L l0 a2 a1 := by
  refine lU (spec_l39next.fL_is l0 a1 a2) ?_
  unfold spec_l39next.f
  repeat' with_reducible first | exact lK _ | exact spec_l39next.l0L_is .. | apply lI | apply lB | intro _
/-! ### spec_RealTime -/
noncomputable def spec_RealTime.l0L (a : List (S32)) (b : List Int) (c : Int) : Option (Bool) := Lim (fun k => spec_RealTime.l0 k a b c)
theorem spec_RealTime.l0L_is (a : List (S32)) (b : List Int) (c : Int) : LimIs (fun k => spec_RealTime.l0 k a b c) (spec_RealTime.l0L a b c) := LimIs.of_mono (fun k r h => (spec_RealTime.mono_l k).1 a b c r h)
noncomputable def spec_RealTime.l1L (a : List (S32)) (b : List Int) (c d e f g : Int) (i : ByteArray) (j l m n o : Int) : Option (Bool) := Lim (fun k => spec_RealTime.l1 k a b c d e f g i j l m n o)
theorem spec_RealTime.l1L_is (a : List (S32)) (b : List Int) (c d e f g : Int) (i : ByteArray) (j l m n o : Int) : LimIs (fun k => spec_RealTime.l1 k a b c d e f g i j l m n o) (spec_RealTime.l1L a b c d e f g i j l m n o) := LimIs.of_mono (fun k r h => (spec_RealTime.mono_l k).2 a b c d e f g i j l m n o r h)
noncomputable def spec_RealTime.fL (l0 : List (S32)) (l1 : List Int) : Option (Bool) := Lim (fun k => spec_RealTime.f k l0 l1)
theorem spec_RealTime.fL_is (l0 : List (S32)) (l1 : List Int) : LimIs (fun k => spec_RealTime.f k l0 l1) (spec_RealTime.fL l0 l1) := LimIs.of_mono (fun k r h => spec_RealTime.mono l0 l1 k r h)
theorem spec_RealTime.l0L_eq (a : List (S32)) (b : List Int) (c : Int) : spec_RealTime.l0L a b c = if c < (b.length : Int) then (if 0 ≤ c then (if 0 ≤ (rd b c) then (if (rd b c) < (a.length : Int) then ((spec_ResultValid.fL ((rd_T32 a (rd b c)).f0) ((rd_T32 a (rd b c)).f1) ((rd_T32 a (rd b c)).f2.f0) ((rd_T32 a (rd b c)).f2.f1) ((rd_T32 a (rd b c)).f2.f2) ((rd_T32 a (rd b c)).f2.f3) ((rd_T32 a (rd b c)).f3) ((rd_T32 a (rd b c)).f4) ((rd_T32 a (rd b c)).f5)).bind fun t264 => (if t264 = true then (spec_RealTime.l1L a b c (wrap64 (c + 1)) ((rd_T32 a (rd b c)).f0) ((rd_T32 a (rd b c)).f1) ((rd_T32 a (rd b c)).f2.f0) ((rd_T32 a (rd b c)).f2.f1) ((rd_T32 a (rd b c)).f2.f2) ((rd_T32 a (rd b c)).f2.f3) ((rd_T32 a (rd b c)).f3) ((rd_T32 a (rd b c)).f4) ((rd_T32 a (rd b c)).f5)) else (some false))) else (none)) else (none)) else (none)) else (some true) := by
  refine lU (spec_RealTime.l0L_is a b c) (LimIs.step1 (by simp only [spec_RealTime.l0]) ?_)
  simp only [spec_RealTime.l0]
  repeat' with_reducible first | exact lK _ | exact spec_RealTime.l1L_is .. | exact spec_ResultValid.fL_is .. | apply lI | apply lB | intro _
theorem spec_RealTime.l1L_eq (a : List (S32)) (b : List Int) (c d e f g : Int) (i : ByteArray) (j l m n o : Int) : spec_RealTime.l1L a b c d e f g i j l m n o = if d < (b.length : Int) then (if 0 ≤ d then (if 0 ≤ (rd b d) then (if (rd b d) < (a.length : Int) then (if ((rd_T32 a (rd b d)).f5) < n then (some false) else (spec_RealTime.l1L a b c (wrap64 (d + 1)) e f g i j l m n o)) else (none)) else (none)) else (none)) else (spec_RealTime.l0L a b (wrap64 (c + 1))) := by
  refine lU (spec_RealTime.l1L_is a b c d e f g i j l m n o) (LimIs.step1 (by simp only [spec_RealTime.l1]) ?_)
  simp only [spec_RealTime.l1]
  repeat' with_reducible first | exact lK _ | exact spec_RealTime.l0L_is .. | exact spec_RealTime.l1L_is .. | apply lI | apply lB | intro _
theorem spec_RealTime.fL_eq (l0 : List (S32)) (l1 : List Int) : spec_RealTime.fL l0 l1 = (spec_OrderValid.fL (l0.length : Int) l1).bind fun t260 => (if t260 = true then (spec_RealTime.l0L l0 l1 0) else (some false)) := by
  refine lU (spec_RealTime.fL_is l0 l1) ?_
  unfold spec_RealTime.f
  repeat' with_reducible first | exact lK _ | exact spec_OrderValid.fL_is .. | exact spec_RealTime.l0L_is .. | apply lI | apply lB | intro _
/-! ### spec_FindOrder -/
noncomputable def spec_FindOrder.l0L (a : List (S32)) (b : Int) (c : List Int) (d : Int) : Option (List Int × Bool) := Lim (fun k => spec_FindOrder.l0 k a b c d)
theorem spec_FindOrder.l0L_is (a : List (S32)) (b : Int) (c : List Int) (d : Int) : LimIs (fun k => spec_FindOrder.l0 k a b c d) (spec_FindOrder.l0L a b c d) := LimIs.of_mono (fun k r h => (spec_FindOrder.mono_l k).1 a b c d r h)
noncomputable def spec_FindOrder.j1L (a : List (S32)) (b : Int) (c : List Int) (d : Bool) : Option (List Int × Bool) := Lim (fun k => spec_FindOrder.j1 k a b c d)
theorem spec_FindOrder.j1L_is (a : List (S32)) (b : Int) (c : List Int) (d : Bool) : LimIs (fun k => spec_FindOrder.j1 k a b c d) (spec_FindOrder.j1L a b c d) := LimIs.of_mono (fun k r h => (spec_FindOrder.mono_l k).2 a b c d r h)
noncomputable def spec_FindOrder.fL (l0 : List (S32)) : Option (List Int × Bool) := Lim (fun k => spec_FindOrder.f k l0)
theorem spec_FindOrder.fL_is (l0 : List (S32)) : LimIs (fun k => spec_FindOrder.f k l0) (spec_FindOrder.fL l0) := LimIs.of_mono (fun k r h => spec_FindOrder.mono l0 k r h)
theorem spec_FindOrder.l0L_eq (a : List (S32)) (b : Int) (c : List Int) (d : Int) : spec_FindOrder.l0L a b c d = (spec_l39next.fL c d b).bind fun bt273 => (if bt273.2 = true then (spec_FindOrder.l0L a b bt273.1 0) else (if (c.length : Int) = b then ((spec_RealTime.fL a c).bind fun t277 => (if t277 = true then ((spec_RepliesRight.fL a c).bind fun t278 => (spec_FindOrder.j1L a b c t278)) else (spec_FindOrder.j1L a b c false))) else (spec_FindOrder.j1L a b c false))) := by
  refine lU (spec_FindOrder.l0L_is a b c d) (LimIs.step1 (by simp only [spec_FindOrder.l0]) ?_)
  simp only [spec_FindOrder.l0]
  repeat' with_reducible first | exact lK _ | exact spec_FindOrder.j1L_is .. | exact spec_FindOrder.l0L_is .. | exact spec_RealTime.fL_is .. | exact spec_RepliesRight.fL_is .. | exact spec_l39next.fL_is .. | apply lI | apply lB | intro _
theorem spec_FindOrder.j1L_eq (a : List (S32)) (b : Int) (c : List Int) (d : Bool) : spec_FindOrder.j1L a b c d = if d = true then (some (c, true)) else (if (c.length : Int) = 0 then (some ((([] : List Int)), false)) else (if 0 ≤ (wrap64 ((c.length : Int) - 1)) then (if (wrap64 ((c.length : Int) - 1)) < (c.length : Int) then ((some (([] : List Int) : List Int)).bind fun y283 => (if (wrap64 ((c.length : Int) - 1)) ≤ (c.length : Int) then ((some (c.take ((wrap64 ((c.length : Int) - 1)) : Int).toNat : List Int)).bind fun y286 => (if y283.length + y286.length < 17592186044416 then (spec_FindOrder.l0L a b (y283 ++ y286) (wrap64 ((rd c (wrap64 ((c.length : Int) - 1))) + 1))) else (none))) else (none))) else (none)) else (none))) := by
  refine lU (spec_FindOrder.j1L_is a b c d) (LimIs.step1 (by simp only [spec_FindOrder.j1]) ?_)
  simp only [spec_FindOrder.j1]
  repeat' with_reducible first | exact lK _ | exact spec_FindOrder.l0L_is .. | apply lI | apply lB | intro _
theorem spec_FindOrder.fL_eq (l0 : List (S32)) : spec_FindOrder.fL l0 = if (l0.length : Int) > 5 then (some ((([] : List Int)), false)) else (spec_FindOrder.l0L l0 (l0.length : Int) (([] : List Int)) 0) := by
  refine lU (spec_FindOrder.fL_is l0) ?_
  unfold spec_FindOrder.f
  repeat' with_reducible first | exact lK _ | exact spec_FindOrder.l0L_is .. | apply lI | apply lB | intro _
/-! ### laws_toResultS -/
noncomputable def laws_toResultS.l0L (a : List (S127)) (b : List (S32)) (c : Int) : Option ((List (S32))) := Lim (fun k => laws_toResultS.l0 k a b c)
theorem laws_toResultS.l0L_is (a : List (S127)) (b : List (S32)) (c : Int) : LimIs (fun k => laws_toResultS.l0 k a b c) (laws_toResultS.l0L a b c) := LimIs.of_mono (fun k r h => (laws_toResultS.mono_l k) a b c r h)
noncomputable def laws_toResultS.fL (l0 : List (S127)) : Option ((List (S32))) := Lim (fun k => laws_toResultS.f k l0)
theorem laws_toResultS.fL_is (l0 : List (S127)) : LimIs (fun k => laws_toResultS.f k l0) (laws_toResultS.fL l0) := LimIs.of_mono (fun k r h => laws_toResultS.mono l0 k r h)
theorem laws_toResultS.l0L_eq (a : List (S127)) (b : List (S32)) (c : Int) : laws_toResultS.l0L a b c = if c < (a.length : Int) then (if 0 ≤ c then ((laws_toResult.f ((rd_T127 a c).f0) ((rd_T127 a c).f1) ((rd_T127 a c).f2.f0) ((rd_T127 a c).f2.f1) ((rd_T127 a c).f2.f2) ((rd_T127 a c).f2.f3) ((rd_T127 a c).f3) ((rd_T127 a c).f4) ((rd_T127 a c).f5)).bind fun bt308 => (if c < (b.length : Int) then (laws_toResultS.l0L a (b.set (c : Int).toNat (⟨bt308.1, bt308.2.1, (⟨bt308.2.2.1, bt308.2.2.2.1, bt308.2.2.2.2.1, bt308.2.2.2.2.2.1⟩ : S30), bt308.2.2.2.2.2.2.1, bt308.2.2.2.2.2.2.2.1, bt308.2.2.2.2.2.2.2.2⟩ : S32)) (wrap64 (c + 1))) else (none))) else (none)) else (some b) := by
  refine lU (laws_toResultS.l0L_is a b c) (LimIs.step1 (by simp only [laws_toResultS.l0]) ?_)
  simp only [laws_toResultS.l0]
  repeat' with_reducible first | exact lK _ | exact laws_toResultS.l0L_is .. | apply lI | apply lB | intro _
theorem laws_toResultS.fL_eq (l0 : List (S127)) : laws_toResultS.fL l0 = if 0 ≤ (l0.length : Int) then (if ((l0.length : Int) : Int).toNat ≤ 3518437208883 then (laws_toResultS.l0L l0 (List.replicate ((l0.length : Int) : Int).toNat z32) 0) else (none)) else (none) := by
  refine lU (laws_toResultS.fL_is l0) ?_
  unfold laws_toResultS.f
  repeat' with_reducible first | exact lK _ | exact laws_toResultS.l0L_is .. | apply lI | apply lB | intro _
/-! ### impl_lettersOnly -/
noncomputable def impl_lettersOnly.fL (a0 : ByteArray) : Option (Bool) := Lim (fun k => impl_lettersOnly.f k a0)
theorem impl_lettersOnly.fL_is (a0 : ByteArray) : LimIs (fun k => impl_lettersOnly.f k a0) (impl_lettersOnly.fL a0) := LimIs.of_mono (fun k r h => impl_lettersOnly.mono a0 k r h)
theorem impl_lettersOnly.fL_eq (a0 : ByteArray) : impl_lettersOnly.fL a0 = if a0.toList = ([] : List UInt8) then (some true) else (if 0 < (a0.size : Int) then (if (bt a0 0) ≥ 97 then (if (bt a0 0) ≤ 122 then (if 1 ≤ (a0.size : Int) then ((impl_lettersOnly.fL (a0.extract 1 a0.size)).bind fun t318 => (some t318)) else (none)) else (some false)) else (some false)) else (none)) := by
  refine lU (impl_lettersOnly.fL_is a0) (LimIs.step1 (by simp only [impl_lettersOnly.f]) ?_)
  simp only [impl_lettersOnly.f]
  repeat' with_reducible first | exact lK _ | exact impl_lettersOnly.fL_is .. | apply lI | apply lB | intro _
/-! ### impl_KeyValid -/
noncomputable def impl_KeyValid.fL (a0 : ByteArray) : Option (Bool) := Lim (fun k => impl_KeyValid.f k a0)
theorem impl_KeyValid.fL_is (a0 : ByteArray) : LimIs (fun k => impl_KeyValid.f k a0) (impl_KeyValid.fL a0) := LimIs.of_mono (fun k r h => impl_KeyValid.mono a0 k r h)
theorem impl_KeyValid.fL_eq (a0 : ByteArray) : impl_KeyValid.fL a0 = if (a0.size : Int) < 1 then (some false) else (if (a0.size : Int) > 4 then (some false) else ((impl_lettersOnly.fL a0).bind fun t319 => (some t319))) := by
  refine lU (impl_KeyValid.fL_is a0) ?_
  unfold impl_KeyValid.f
  repeat' with_reducible first | exact lK _ | exact impl_lettersOnly.fL_is .. | apply lI | apply lB | intro _
/-! ### impl_CommandValid -/
noncomputable def impl_CommandValid.j0L (a : Bool) (b : Int) (c : ByteArray) (d e : Int) : Option (Bool) := Lim (fun k => impl_CommandValid.j0 k a b c d e)
theorem impl_CommandValid.j0L_is (a : Bool) (b : Int) (c : ByteArray) (d e : Int) : LimIs (fun k => impl_CommandValid.j0 k a b c d e) (impl_CommandValid.j0L a b c d e) := LimIs.of_mono (fun k r h => (impl_CommandValid.mono_l k).1 a b c d e r h)
noncomputable def impl_CommandValid.j1L (a : Bool) (b : Int) (c : ByteArray) (d e : Int) : Option (Bool) := Lim (fun k => impl_CommandValid.j1 k a b c d e)
theorem impl_CommandValid.j1L_is (a : Bool) (b : Int) (c : ByteArray) (d e : Int) : LimIs (fun k => impl_CommandValid.j1 k a b c d e) (impl_CommandValid.j1L a b c d e) := LimIs.of_mono (fun k r h => (impl_CommandValid.mono_l k).2 a b c d e r h)
noncomputable def impl_CommandValid.fL (a0_0 : Int) (a0_1 : ByteArray) (a0_2 a0_3 : Int) : Option (Bool) := Lim (fun k => impl_CommandValid.f k a0_0 a0_1 a0_2 a0_3)
theorem impl_CommandValid.fL_is (a0_0 : Int) (a0_1 : ByteArray) (a0_2 a0_3 : Int) : LimIs (fun k => impl_CommandValid.f k a0_0 a0_1 a0_2 a0_3) (impl_CommandValid.fL a0_0 a0_1 a0_2 a0_3) := LimIs.of_mono (fun k r h => impl_CommandValid.mono a0_0 a0_1 a0_2 a0_3 k r h)
theorem impl_CommandValid.j0L_eq (a : Bool) (b : Int) (c : ByteArray) (d e : Int) : impl_CommandValid.j0L a b c d e = if a = true then (some false) else ((impl_KeyValid.fL c).bind fun t321 => (if t321 = true then (impl_CommandValid.j1L false b c d e) else (if b = 5 then (impl_CommandValid.j1L (c.toList != ([] : List UInt8)) b c d e) else (impl_CommandValid.j1L true b c d e)))) := by
  refine lU (impl_CommandValid.j0L_is a b c d e) (LimIs.step1 (by simp only [impl_CommandValid.j0]) ?_)
  simp only [impl_CommandValid.j0]
  repeat' with_reducible first | exact lK _ | exact impl_CommandValid.j1L_is .. | exact impl_KeyValid.fL_is .. | apply lI | apply lB | intro _
theorem impl_CommandValid.j1L_eq (a : Bool) (b : Int) (c : ByteArray) (d e : Int) : impl_CommandValid.j1L a b c d e = if a = true then (some false) else (if b = 2 then ((impl_valueValid.f d).bind fun t322 => (if t322 = true then (some (e == 0)) else (some false))) else (if b = 4 then ((impl_valueValid.f d).bind fun t323 => (if t323 = true then (if e = (-1) then (some true) else ((impl_valueValid.f e).bind fun t324 => (some t324))) else (some false))) else (if d = 0 then (some (e == 0)) else (some false)))) := by
  refine lU (impl_CommandValid.j1L_is a b c d e) (LimIs.step1 (by simp only [impl_CommandValid.j1]) ?_)
  simp only [impl_CommandValid.j1]
  repeat' with_reducible first | exact lK _ | apply lI | apply lB | intro _
theorem impl_CommandValid.fL_eq (a0_0 : Int) (a0_1 : ByteArray) (a0_2 a0_3 : Int) : impl_CommandValid.fL a0_0 a0_1 a0_2 a0_3 = if a0_0 < 1 then (impl_CommandValid.j0L true a0_0 a0_1 a0_2 a0_3) else (impl_CommandValid.j0L (decide (a0_0 > 5)) a0_0 a0_1 a0_2 a0_3) := by
  refine lU (impl_CommandValid.fL_is a0_0 a0_1 a0_2 a0_3) ?_
  unfold impl_CommandValid.f
  repeat' with_reducible first | exact lK _ | exact impl_CommandValid.j0L_is .. | apply lI | apply lB | intro _
/-! ### impl_wishValid -/
noncomputable def impl_wishValid.fL (a0_0 : Int) (a0_1 : ByteArray) (a0_2 a0_3 : Int) : Option (Bool) := Lim (fun k => impl_wishValid.f k a0_0 a0_1 a0_2 a0_3)
theorem impl_wishValid.fL_is (a0_0 : Int) (a0_1 : ByteArray) (a0_2 a0_3 : Int) : LimIs (fun k => impl_wishValid.f k a0_0 a0_1 a0_2 a0_3) (impl_wishValid.fL a0_0 a0_1 a0_2 a0_3) := LimIs.of_mono (fun k r h => impl_wishValid.mono a0_0 a0_1 a0_2 a0_3 k r h)
theorem impl_wishValid.fL_eq (a0_0 : Int) (a0_1 : ByteArray) (a0_2 a0_3 : Int) : impl_wishValid.fL a0_0 a0_1 a0_2 a0_3 = (impl_CommandValid.fL a0_0 a0_1 a0_2 a0_3).bind fun t326 => (if t326 = true then (some (a0_0 != 5)) else (some false)) := by
  refine lU (impl_wishValid.fL_is a0_0 a0_1 a0_2 a0_3) ?_
  unfold impl_wishValid.f
  repeat' with_reducible first | exact lK _ | exact impl_CommandValid.fL_is .. | apply lI | apply lB | intro _
/-! ### impl_ResultValid -/
noncomputable def impl_ResultValid.fL (a0_0 a0_1 a0_2 : Int) (a0_3 : ByteArray) (a0_4 a0_5 a0_6 a0_7 a0_8 : Int) : Option (Bool) := Lim (fun k => impl_ResultValid.f k a0_0 a0_1 a0_2 a0_3 a0_4 a0_5 a0_6 a0_7 a0_8)
theorem impl_ResultValid.fL_is (a0_0 a0_1 a0_2 : Int) (a0_3 : ByteArray) (a0_4 a0_5 a0_6 a0_7 a0_8 : Int) : LimIs (fun k => impl_ResultValid.f k a0_0 a0_1 a0_2 a0_3 a0_4 a0_5 a0_6 a0_7 a0_8) (impl_ResultValid.fL a0_0 a0_1 a0_2 a0_3 a0_4 a0_5 a0_6 a0_7 a0_8) := LimIs.of_mono (fun k r h => impl_ResultValid.mono a0_0 a0_1 a0_2 a0_3 a0_4 a0_5 a0_6 a0_7 a0_8 k r h)
theorem impl_ResultValid.fL_eq (a0_0 a0_1 a0_2 : Int) (a0_3 : ByteArray) (a0_4 a0_5 a0_6 a0_7 a0_8 : Int) : impl_ResultValid.fL a0_0 a0_1 a0_2 a0_3 a0_4 a0_5 a0_6 a0_7 a0_8 = (impl_clientNumber.f a0_0).bind fun t328 => (if t328 = true then ((impl_seqValid.f a0_1).bind fun t329 => (if t329 = true then ((impl_wishValid.fL a0_2 a0_3 a0_4 a0_5).bind fun t330 => (if t330 = true then ((impl_replyValid.f a0_6).bind fun t331 => (if t331 = true then ((impl_timeValid.f a0_8).bind fun t332 => (if t332 = true then (if a0_7 ≥ 0 then (some (decide (a0_7 ≤ a0_8))) else (some false)) else (some false))) else (some false))) else (some false))) else (some false))) else (some false)) := by
  refine lU (impl_ResultValid.fL_is a0_0 a0_1 a0_2 a0_3 a0_4 a0_5 a0_6 a0_7 a0_8) ?_
  unfold impl_ResultValid.f
  repeat' with_reducible first | exact lK _ | exact impl_wishValid.fL_is .. | apply lI | apply lB | intro _
/-! ### impl_resultsValid -/
noncomputable def impl_resultsValid.l0L (a : List (S32)) (b c : Int) : Option (Bool) := Lim (fun k => impl_resultsValid.l0 k a b c)
theorem impl_resultsValid.l0L_is (a : List (S32)) (b c : Int) : LimIs (fun k => impl_resultsValid.l0 k a b c) (impl_resultsValid.l0L a b c) := LimIs.of_mono (fun k r h => (impl_resultsValid.mono_l k) a b c r h)
noncomputable def impl_resultsValid.fL (l0 : List (S32)) : Option (Bool) := Lim (fun k => impl_resultsValid.f k l0)
theorem impl_resultsValid.fL_is (l0 : List (S32)) : LimIs (fun k => impl_resultsValid.f k l0) (impl_resultsValid.fL l0) := LimIs.of_mono (fun k r h => impl_resultsValid.mono l0 k r h)
theorem impl_resultsValid.l0L_eq (a : List (S32)) (b c : Int) : impl_resultsValid.l0L a b c = if c < b then (if 0 ≤ c then (if c < (a.length : Int) then ((impl_ResultValid.fL ((rd_T32 a c).f0) ((rd_T32 a c).f1) ((rd_T32 a c).f2.f0) ((rd_T32 a c).f2.f1) ((rd_T32 a c).f2.f2) ((rd_T32 a c).f2.f3) ((rd_T32 a c).f3) ((rd_T32 a c).f4) ((rd_T32 a c).f5)).bind fun t335 => (if t335 = true then (impl_resultsValid.l0L a b (wrap64 (c + 1))) else (some false))) else (none)) else (none)) else (some true) := by
  refine lU (impl_resultsValid.l0L_is a b c) (LimIs.step1 (by simp only [impl_resultsValid.l0]) ?_)
  simp only [impl_resultsValid.l0]
  repeat' with_reducible first | exact lK _ | exact impl_ResultValid.fL_is .. | exact impl_resultsValid.l0L_is .. | apply lI | apply lB | intro _
theorem impl_resultsValid.fL_eq (l0 : List (S32)) : impl_resultsValid.fL l0 = if (l0.length : Int) > 5 then (some false) else (impl_resultsValid.l0L l0 (l0.length : Int) 0) := by
  refine lU (impl_resultsValid.fL_is l0) ?_
  unfold impl_resultsValid.f
  repeat' with_reducible first | exact lK _ | exact impl_resultsValid.l0L_is .. | apply lI | apply lB | intro _
/-! ### slices_Index_int_int -/
noncomputable def slices_Index_int_int.l0L (a : List Int) (b c d : Int) : Option (Int) := Lim (fun k => slices_Index_int_int.l0 k a b c d)
theorem slices_Index_int_int.l0L_is (a : List Int) (b c d : Int) : LimIs (fun k => slices_Index_int_int.l0 k a b c d) (slices_Index_int_int.l0L a b c d) := LimIs.of_mono (fun k r h => (slices_Index_int_int.mono_l k) a b c d r h)
noncomputable def slices_Index_int_int.fL (l0 : List Int) (a1 : Int) : Option (Int) := Lim (fun k => slices_Index_int_int.f k l0 a1)
theorem slices_Index_int_int.fL_is (l0 : List Int) (a1 : Int) : LimIs (fun k => slices_Index_int_int.f k l0 a1) (slices_Index_int_int.fL l0 a1) := LimIs.of_mono (fun k r h => slices_Index_int_int.mono l0 a1 k r h)
theorem slices_Index_int_int.l0L_eq (a : List Int) (b c d : Int) : slices_Index_int_int.l0L a b c d = if d < c then (if 0 ≤ d then (if d < (a.length : Int) then (if b = (rd a d) then (some d) else (slices_Index_int_int.l0L a b c (wrap64 (d + 1)))) else (none)) else (none)) else (some (-1)) := by
  refine lU (slices_Index_int_int.l0L_is a b c d) (LimIs.step1 (by simp only [slices_Index_int_int.l0]) ?_)
  simp only [slices_Index_int_int.l0]
  repeat' with_reducible first | exact lK _ | exact slices_Index_int_int.l0L_is .. | apply lI | apply lB | intro _
theorem slices_Index_int_int.fL_eq (l0 : List Int) (a1 : Int) : slices_Index_int_int.fL l0 a1 = slices_Index_int_int.l0L l0 a1 (l0.length : Int) 0 := by
  refine lU (slices_Index_int_int.fL_is l0 a1) ?_
  unfold slices_Index_int_int.f
  repeat' with_reducible first | exact lK _ | exact slices_Index_int_int.l0L_is .. | apply lI | apply lB | intro _
/-! ### slices_Contains_int_int -/
noncomputable def slices_Contains_int_int.fL (l0 : List Int) (a1 : Int) : Option (Bool) := Lim (fun k => slices_Contains_int_int.f k l0 a1)
theorem slices_Contains_int_int.fL_is (l0 : List Int) (a1 : Int) : LimIs (fun k => slices_Contains_int_int.f k l0 a1) (slices_Contains_int_int.fL l0 a1) := LimIs.of_mono (fun k r h => slices_Contains_int_int.mono l0 a1 k r h)
theorem slices_Contains_int_int.fL_eq (l0 : List Int) (a1 : Int) : slices_Contains_int_int.fL l0 a1 = (slices_Index_int_int.fL l0 a1).bind fun t337 => (some (decide (t337 ≥ 0))) := by
  refine lU (slices_Contains_int_int.fL_is l0 a1) ?_
  unfold slices_Contains_int_int.f
  repeat' with_reducible first | exact lK _ | exact slices_Index_int_int.fL_is .. | apply lI | apply lB | intro _
/-! ### impl_OrderValid -/
noncomputable def impl_OrderValid.j0L (a : Int) (b : List Int) (c : Bool) : Option (Bool) := Lim (fun k => impl_OrderValid.j0 k a b c)
theorem impl_OrderValid.j0L_is (a : Int) (b : List Int) (c : Bool) : LimIs (fun k => impl_OrderValid.j0 k a b c) (impl_OrderValid.j0L a b c) := LimIs.of_mono (fun k r h => (impl_OrderValid.mono_l k).1 a b c r h)
noncomputable def impl_OrderValid.l0L (a : Int) (b c : List Int) (d e : Int) : Option (Bool) := Lim (fun k => impl_OrderValid.l0 k a b c d e)
theorem impl_OrderValid.l0L_is (a : Int) (b c : List Int) (d e : Int) : LimIs (fun k => impl_OrderValid.l0 k a b c d e) (impl_OrderValid.l0L a b c d e) := LimIs.of_mono (fun k r h => (impl_OrderValid.mono_l k).2 a b c d e r h)
noncomputable def impl_OrderValid.fL (a0 : Int) (l1 : List Int) : Option (Bool) := Lim (fun k => impl_OrderValid.f k a0 l1)
theorem impl_OrderValid.fL_is (a0 : Int) (l1 : List Int) : LimIs (fun k => impl_OrderValid.f k a0 l1) (impl_OrderValid.fL a0 l1) := LimIs.of_mono (fun k r h => impl_OrderValid.mono a0 l1 k r h)
theorem impl_OrderValid.j0L_eq (a : Int) (b : List Int) (c : Bool) : impl_OrderValid.j0L a b c = if c = true then (some false) else (impl_OrderValid.l0L a b b (b.length : Int) 0) := by
  refine lU (impl_OrderValid.j0L_is a b c) (LimIs.step1 (by simp only [impl_OrderValid.j0]) ?_)
  simp only [impl_OrderValid.j0]
  repeat' with_reducible first | exact lK _ | exact impl_OrderValid.l0L_is .. | apply lI | apply lB | intro _
theorem impl_OrderValid.l0L_eq (a : Int) (b c : List Int) (d e : Int) : impl_OrderValid.l0L a b c d e = if e < d then (if 0 ≤ e then (if e < (c.length : Int) then (if (rd c e) < 0 then (some false) else (if (rd c e) ≥ a then (some false) else (if e ≤ (b.length : Int) then ((slices_Contains_int_int.fL (b.take (e : Int).toNat) (rd c e)).bind fun t343 => (if t343 = true then (some false) else (impl_OrderValid.l0L a b c d (wrap64 (e + 1))))) else (none)))) else (none)) else (none)) else (some true) := by
  refine lU (impl_OrderValid.l0L_is a b c d e) (LimIs.step1 (by simp only [impl_OrderValid.l0]) ?_)
  simp only [impl_OrderValid.l0]
  repeat' with_reducible first | exact lK _ | exact impl_OrderValid.l0L_is .. | exact slices_Contains_int_int.fL_is .. | apply lI | apply lB | intro _
theorem impl_OrderValid.fL_eq (a0 : Int) (l1 : List Int) : impl_OrderValid.fL a0 l1 = if (l1.length : Int) > 5 then (impl_OrderValid.j0L a0 l1 true) else (impl_OrderValid.j0L a0 l1 ((l1.length : Int) != a0)) := by
  refine lU (impl_OrderValid.fL_is a0 l1) ?_
  unfold impl_OrderValid.f
  repeat' with_reducible first | exact lK _ | exact impl_OrderValid.j0L_is .. | apply lI | apply lB | intro _
/-! ### impl_EntryValid -/
noncomputable def impl_EntryValid.fL (a0_0 a0_1 a0_2 : Int) (a0_3 : ByteArray) (a0_4 a0_5 : Int) : Option (Bool) := Lim (fun k => impl_EntryValid.f k a0_0 a0_1 a0_2 a0_3 a0_4 a0_5)
theorem impl_EntryValid.fL_is (a0_0 a0_1 a0_2 : Int) (a0_3 : ByteArray) (a0_4 a0_5 : Int) : LimIs (fun k => impl_EntryValid.f k a0_0 a0_1 a0_2 a0_3 a0_4 a0_5) (impl_EntryValid.fL a0_0 a0_1 a0_2 a0_3 a0_4 a0_5) := LimIs.of_mono (fun k r h => impl_EntryValid.mono a0_0 a0_1 a0_2 a0_3 a0_4 a0_5 k r h)
theorem impl_EntryValid.fL_eq (a0_0 a0_1 a0_2 : Int) (a0_3 : ByteArray) (a0_4 a0_5 : Int) : impl_EntryValid.fL a0_0 a0_1 a0_2 a0_3 a0_4 a0_5 = if a0_0 ≥ 0 then (if a0_0 < 4 then ((impl_seqValid.f a0_1).bind fun t345 => (if t345 = true then ((impl_CommandValid.fL a0_2 a0_3 a0_4 a0_5).bind fun t346 => (some t346)) else (some false))) else (some false)) else (some false) := by
  refine lU (impl_EntryValid.fL_is a0_0 a0_1 a0_2 a0_3 a0_4 a0_5) ?_
  unfold impl_EntryValid.f
  repeat' with_reducible first | exact lK _ | exact impl_CommandValid.fL_is .. | apply lI | apply lB | intro _
/-! ### impl_PairsValid -/
noncomputable def impl_PairsValid.l0L (a b : List (S181)) (c d : Int) : Option (Bool) := Lim (fun k => impl_PairsValid.l0 k a b c d)
theorem impl_PairsValid.l0L_is (a b : List (S181)) (c d : Int) : LimIs (fun k => impl_PairsValid.l0 k a b c d) (impl_PairsValid.l0L a b c d) := LimIs.of_mono (fun k r h => (impl_PairsValid.mono_l k).1 a b c d r h)
noncomputable def impl_PairsValid.j1L (a : List (S181)) (b : Int) (c : List (S181)) (d e : Int) (f : Bool) (g : ByteArray) (i : Int) : Option (Bool) := Lim (fun k => impl_PairsValid.j1 k a b c d e f g i)
theorem impl_PairsValid.j1L_is (a : List (S181)) (b : Int) (c : List (S181)) (d e : Int) (f : Bool) (g : ByteArray) (i : Int) : LimIs (fun k => impl_PairsValid.j1 k a b c d e f g i) (impl_PairsValid.j1L a b c d e f g i) := LimIs.of_mono (fun k r h => (impl_PairsValid.mono_l k).2 a b c d e f g i r h)
noncomputable def impl_PairsValid.fL (l0 : List (S181)) : Option (Bool) := Lim (fun k => impl_PairsValid.f k l0)
theorem impl_PairsValid.fL_is (l0 : List (S181)) : LimIs (fun k => impl_PairsValid.f k l0) (impl_PairsValid.fL l0) := LimIs.of_mono (fun k r h => impl_PairsValid.mono l0 k r h)
theorem impl_PairsValid.l0L_eq (a b : List (S181)) (c d : Int) : impl_PairsValid.l0L a b c d = if d < c then (if 0 ≤ d then (if d < (b.length : Int) then ((impl_KeyValid.fL ((rd_T181 b d).f0)).bind fun t349 => (if t349 = true then ((impl_valueValid.f ((rd_T181 b d).f1)).bind fun t350 => (impl_PairsValid.j1L a d b c d (!t350) ((rd_T181 b d).f0) ((rd_T181 b d).f1))) else (impl_PairsValid.j1L a d b c d true ((rd_T181 b d).f0) ((rd_T181 b d).f1)))) else (none)) else (none)) else (some true) := by
  refine lU (impl_PairsValid.l0L_is a b c d) (LimIs.step1 (by simp only [impl_PairsValid.l0]) ?_)
  simp only [impl_PairsValid.l0]
  repeat' with_reducible first | exact lK _ | exact impl_KeyValid.fL_is .. | exact impl_PairsValid.j1L_is .. | apply lI | apply lB | intro _
theorem impl_PairsValid.j1L_eq (a : List (S181)) (b : Int) (c : List (S181)) (d e : Int) (f : Bool) (g : ByteArray) (i : Int) : impl_PairsValid.j1L a b c d e f g i = if f = true then (some false) else (if b > 0 then (if 0 ≤ (wrap64 (b - 1)) then (if (wrap64 (b - 1)) < (a.length : Int) then (if ((Op.bytesLess (((rd_T181 a (wrap64 (b - 1))).f0).toList) g.toList) = true) then (impl_PairsValid.l0L a c d (wrap64 (e + 1))) else (some false)) else (none)) else (none)) else (impl_PairsValid.l0L a c d (wrap64 (e + 1)))) := by
  refine lU (impl_PairsValid.j1L_is a b c d e f g i) (LimIs.step1 (by simp only [impl_PairsValid.j1]) ?_)
  simp only [impl_PairsValid.j1]
  repeat' with_reducible first | exact lK _ | exact impl_PairsValid.l0L_is .. | apply lI | apply lB | intro _
theorem impl_PairsValid.fL_eq (l0 : List (S181)) : impl_PairsValid.fL l0 = if (l0.length : Int) > 48 then (some false) else (impl_PairsValid.l0L l0 l0 (l0.length : Int) 0) := by
  refine lU (impl_PairsValid.fL_is l0) ?_
  unfold impl_PairsValid.f
  repeat' with_reducible first | exact lK _ | exact impl_PairsValid.l0L_is .. | apply lI | apply lB | intro _
/-! ### impl_Pair_string -/
noncomputable def impl_Pair_string.l0L (a : List (S181)) (b : ByteArray) (c d e : Int) : Option (Int × Bool) := Lim (fun k => impl_Pair_string.l0 k a b c d e)
theorem impl_Pair_string.l0L_is (a : List (S181)) (b : ByteArray) (c d e : Int) : LimIs (fun k => impl_Pair_string.l0 k a b c d e) (impl_Pair_string.l0L a b c d e) := LimIs.of_mono (fun k r h => (impl_Pair_string.mono_l k) a b c d e r h)
noncomputable def impl_Pair_string.fL (l0 : List (S181)) (a1 : ByteArray) (a2 : Unit) : Option (Int × Bool) := Lim (fun k => impl_Pair_string.f k l0 a1 a2)
theorem impl_Pair_string.fL_is (l0 : List (S181)) (a1 : ByteArray) (a2 : Unit) : LimIs (fun k => impl_Pair_string.f k l0 a1 a2) (impl_Pair_string.fL l0 a1 a2) := LimIs.of_mono (fun k r h => impl_Pair_string.mono l0 a1 a2 k r h)
theorem impl_Pair_string.l0L_eq (a : List (S181)) (b : ByteArray) (c d e : Int) : impl_Pair_string.l0L a b c d e = if d < e then (if 0 ≤ (wrap64 ((IntKind.u64.wrap (wrap64 (d + e))) / 2)) then (if (wrap64 ((IntKind.u64.wrap (wrap64 (d + e))) / 2)) < (a.length : Int) then ((impl_pairPlace_1.f ((rd_T181 a (wrap64 ((IntKind.u64.wrap (wrap64 (d + e))) / 2))).f0) ((rd_T181 a (wrap64 ((IntKind.u64.wrap (wrap64 (d + e))) / 2))).f1) b).bind fun t357 => (if t357 < 0 then (impl_Pair_string.l0L a b c (wrap64 ((wrap64 ((IntKind.u64.wrap (wrap64 (d + e))) / 2)) + 1)) e) else (impl_Pair_string.l0L a b c d (wrap64 ((IntKind.u64.wrap (wrap64 (d + e))) / 2))))) else (none)) else (none)) else (if d < c then (if 0 ≤ d then (if d < (a.length : Int) then ((impl_pairPlace_1.f ((rd_T181 a d).f0) ((rd_T181 a d).f1) b).bind fun t359 => (some (d, (t359 == 0)))) else (none)) else (none)) else (some (d, false))) := by
  refine lU (impl_Pair_string.l0L_is a b c d e) (LimIs.step1 (by simp only [impl_Pair_string.l0]) ?_)
  simp only [impl_Pair_string.l0]
  repeat' with_reducible first | exact lK _ | exact impl_Pair_string.l0L_is .. | apply lI | apply lB | intro _
theorem impl_Pair_string.fL_eq (l0 : List (S181)) (a1 : ByteArray) (a2 : Unit) : impl_Pair_string.fL l0 a1 a2 = impl_Pair_string.l0L l0 a1 (l0.length : Int) 0 (l0.length : Int) := by
  refine lU (impl_Pair_string.fL_is l0 a1 a2) ?_
  unfold impl_Pair_string.f
  repeat' with_reducible first | exact lK _ | exact impl_Pair_string.l0L_is .. | apply lI | apply lB | intro _
/-! ### impl_pairPlace -/
noncomputable def impl_pairPlace.fL (l0 : List (S181)) (a1 : ByteArray) : Option (Int × Bool) := Lim (fun k => impl_pairPlace.f k l0 a1)
theorem impl_pairPlace.fL_is (l0 : List (S181)) (a1 : ByteArray) : LimIs (fun k => impl_pairPlace.f k l0 a1) (impl_pairPlace.fL l0 a1) := LimIs.of_mono (fun k r h => impl_pairPlace.mono l0 a1 k r h)
theorem impl_pairPlace.fL_eq (l0 : List (S181)) (a1 : ByteArray) : impl_pairPlace.fL l0 a1 = (impl_Pair_string.fL l0 a1 ()).bind fun bt360 => (some (bt360.1, bt360.2)) := by
  refine lU (impl_pairPlace.fL_is l0 a1) ?_
  unfold impl_pairPlace.f
  repeat' with_reducible first | exact lK _ | exact impl_Pair_string.fL_is .. | apply lI | apply lB | intro _
/-! ### impl_PairGet -/
noncomputable def impl_PairGet.fL (l0 : List (S181)) (a1 : ByteArray) : Option (Int) := Lim (fun k => impl_PairGet.f k l0 a1)
theorem impl_PairGet.fL_is (l0 : List (S181)) (a1 : ByteArray) : LimIs (fun k => impl_PairGet.f k l0 a1) (impl_PairGet.fL l0 a1) := LimIs.of_mono (fun k r h => impl_PairGet.mono l0 a1 k r h)
theorem impl_PairGet.fL_eq (l0 : List (S181)) (a1 : ByteArray) : impl_PairGet.fL l0 a1 = (impl_PairsValid.fL l0).bind fun t362 => (if t362 = true then ((impl_pairPlace.fL l0 a1).bind fun bt363 => (if bt363.2 = true then (if 0 ≤ bt363.1 then (if bt363.1 < (l0.length : Int) then (some ((rd_T181 l0 bt363.1).f1)) else (none)) else (none)) else (some (-1)))) else (some (-1))) := by
  refine lU (impl_PairGet.fL_is l0 a1) ?_
  unfold impl_PairGet.f
  repeat' with_reducible first | exact lK _ | exact impl_PairsValid.fL_is .. | exact impl_pairPlace.fL_is .. | apply lI | apply lB | intro _
/-! ### impl_PairDrop -/
noncomputable def impl_PairDrop.fL (l0 : List (S181)) (a1 : ByteArray) : Option ((List (S181)) × Bool) := Lim (fun k => impl_PairDrop.f k l0 a1)
theorem impl_PairDrop.fL_is (l0 : List (S181)) (a1 : ByteArray) : LimIs (fun k => impl_PairDrop.f k l0 a1) (impl_PairDrop.fL l0 a1) := LimIs.of_mono (fun k r h => impl_PairDrop.mono l0 a1 k r h)
theorem impl_PairDrop.fL_eq (l0 : List (S181)) (a1 : ByteArray) : impl_PairDrop.fL l0 a1 = (impl_PairsValid.fL l0).bind fun t389 => (if t389 = true then ((impl_pairPlace.fL l0 a1).bind fun bt390 => (if bt390.2 = true then ((impl_Pair_192.f l0 bt390.1 1 ([] : List (S181))).bind fun t392 => (some (t392, true))) else ((impl_Pair_126.f l0).bind fun t395 => (some (t395, false))))) else (some (([] : List (S181)), false))) := by
  refine lU (impl_PairDrop.fL_is l0 a1) ?_
  unfold impl_PairDrop.f
  repeat' with_reducible first | exact lK _ | exact impl_PairsValid.fL_is .. | exact impl_pairPlace.fL_is .. | apply lI | apply lB | intro _
/-! ### impl_PairPut -/
noncomputable def impl_PairPut.j0L (a : List (S181)) (b : ByteArray) (c : Int) (d : Bool) : Option ((List (S181)) × Bool) := Lim (fun k => impl_PairPut.j0 k a b c d)
theorem impl_PairPut.j0L_is (a : List (S181)) (b : ByteArray) (c : Int) (d : Bool) : LimIs (fun k => impl_PairPut.j0 k a b c d) (impl_PairPut.j0L a b c d) := LimIs.of_mono (fun k r h => (impl_PairPut.mono_l k) a b c d r h)
noncomputable def impl_PairPut.fL (l0 : List (S181)) (a1 : ByteArray) (a2 : Int) : Option ((List (S181)) × Bool) := Lim (fun k => impl_PairPut.f k l0 a1 a2)
theorem impl_PairPut.fL_is (l0 : List (S181)) (a1 : ByteArray) (a2 : Int) : LimIs (fun k => impl_PairPut.f k l0 a1 a2) (impl_PairPut.fL l0 a1 a2) := LimIs.of_mono (fun k r h => impl_PairPut.mono l0 a1 a2 k r h)
theorem impl_PairPut.j0L_eq (a : List (S181)) (b : ByteArray) (c : Int) (d : Bool) : impl_PairPut.j0L a b c d = if d = true then (some (([] : List (S181)), false)) else ((impl_pairPlace.fL a b).bind fun bt401 => (if bt401.2 = true then ((impl_Pair_192.f a bt401.1 1 (([(⟨b, c⟩ : S181)] : List (S181)))).bind fun t406 => (some (t406, true))) else (if (a.length : Int) ≥ 48 then ((impl_Pair_126.f a).bind fun t409 => (some (t409, false))) else ((impl_Pair_192.f a bt401.1 0 (([(⟨b, c⟩ : S181)] : List (S181)))).bind fun t415 => (some (t415, true)))))) := by
  refine lU (impl_PairPut.j0L_is a b c d) (LimIs.step1 (by simp only [impl_PairPut.j0]) ?_)
  simp only [impl_PairPut.j0]
  repeat' with_reducible first | exact lK _ | exact impl_pairPlace.fL_is .. | apply lI | apply lB | intro _
theorem impl_PairPut.fL_eq (l0 : List (S181)) (a1 : ByteArray) (a2 : Int) : impl_PairPut.fL l0 a1 a2 = (impl_PairsValid.fL l0).bind fun t398 => (if t398 = true then ((impl_KeyValid.fL a1).bind fun t399 => (if t399 = true then ((impl_valueValid.f a2).bind fun t400 => (impl_PairPut.j0L l0 a1 a2 (!t400))) else (impl_PairPut.j0L l0 a1 a2 true))) else (impl_PairPut.j0L l0 a1 a2 true)) := by
  refine lU (impl_PairPut.fL_is l0 a1 a2) ?_
  unfold impl_PairPut.f
  repeat' with_reducible first | exact lK _ | exact impl_KeyValid.fL_is .. | exact impl_PairPut.j0L_is .. | exact impl_PairsValid.fL_is .. | apply lI | apply lB | intro _
/-! ### impl_mapAfter -/
noncomputable def impl_mapAfter.fL (l0 : List (S181)) (a1_0 : Int) (a1_1 : ByteArray) (a1_2 a1_3 a2 : Int) : Option ((List (S181)) × Bool) := Lim (fun k => impl_mapAfter.f k l0 a1_0 a1_1 a1_2 a1_3 a2)
theorem impl_mapAfter.fL_is (l0 : List (S181)) (a1_0 : Int) (a1_1 : ByteArray) (a1_2 a1_3 a2 : Int) : LimIs (fun k => impl_mapAfter.f k l0 a1_0 a1_1 a1_2 a1_3 a2) (impl_mapAfter.fL l0 a1_0 a1_1 a1_2 a1_3 a2) := LimIs.of_mono (fun k r h => impl_mapAfter.mono l0 a1_0 a1_1 a1_2 a1_3 a2 k r h)
theorem impl_mapAfter.fL_eq (l0 : List (S181)) (a1_0 : Int) (a1_1 : ByteArray) (a1_2 a1_3 a2 : Int) : impl_mapAfter.fL l0 a1_0 a1_1 a1_2 a1_3 a2 = (impl_PairGet.fL l0 a1_1).bind fun t419 => (if a2 = t419 then (if a1_0 = 3 then ((impl_PairDrop.fL l0 a1_1).bind fun bt420 => (some (bt420.1, true))) else (if a1_0 = 2 then ((impl_PairPut.fL l0 a1_1 a1_2).bind fun bt424 => (some (bt424.1, bt424.2))) else (if a1_0 = 4 then (if a1_3 = t419 then ((impl_PairPut.fL l0 a1_1 a1_2).bind fun bt428 => (some (bt428.1, bt428.2))) else (some (l0, true))) else (some (l0, true))))) else (some (([] : List (S181)), false))) := by
  refine lU (impl_mapAfter.fL_is l0 a1_0 a1_1 a1_2 a1_3 a2) ?_
  unfold impl_mapAfter.f
  repeat' with_reducible first | exact lK _ | exact impl_PairDrop.fL_is .. | exact impl_PairGet.fL_is .. | exact impl_PairPut.fL_is .. | apply lI | apply lB | intro _
/-! ### impl_RunHistory -/
noncomputable def impl_RunHistory.l0L (a : List (S181)) (b : List (S120)) (c d : Int) : Option ((List (S181)) × Bool) := Lim (fun k => impl_RunHistory.l0 k a b c d)
theorem impl_RunHistory.l0L_is (a : List (S181)) (b : List (S120)) (c d : Int) : LimIs (fun k => impl_RunHistory.l0 k a b c d) (impl_RunHistory.l0L a b c d) := LimIs.of_mono (fun k r h => (impl_RunHistory.mono_l k).1 a b c d r h)
noncomputable def impl_RunHistory.j1L (a : List (S181)) (b : List (S120)) (c d : Int) (e : Bool) (g i j : Int) (l : ByteArray) (m n o : Int) : Option ((List (S181)) × Bool) := Lim (fun k => impl_RunHistory.j1 k a b c d e g i j l m n o)
theorem impl_RunHistory.j1L_is (a : List (S181)) (b : List (S120)) (c d : Int) (e : Bool) (g i j : Int) (l : ByteArray) (m n o : Int) : LimIs (fun k => impl_RunHistory.j1 k a b c d e g i j l m n o) (impl_RunHistory.j1L a b c d e g i j l m n o) := LimIs.of_mono (fun k r h => (impl_RunHistory.mono_l k).2 a b c d e g i j l m n o r h)
noncomputable def impl_RunHistory.fL (l0 : List (S120)) : Option ((List (S181)) × Bool) := Lim (fun k => impl_RunHistory.f k l0)
theorem impl_RunHistory.fL_is (l0 : List (S120)) : LimIs (fun k => impl_RunHistory.f k l0) (impl_RunHistory.fL l0) := LimIs.of_mono (fun k r h => impl_RunHistory.mono l0 k r h)
theorem impl_RunHistory.l0L_eq (a : List (S181)) (b : List (S120)) (c d : Int) : impl_RunHistory.l0L a b c d = if d < c then (if 0 ≤ d then (if d < (b.length : Int) then ((impl_EntryValid.fL ((rd_T120 b d).f0.f0) ((rd_T120 b d).f0.f1) ((rd_T120 b d).f0.f2.f0) ((rd_T120 b d).f0.f2.f1) ((rd_T120 b d).f0.f2.f2) ((rd_T120 b d).f0.f2.f3)).bind fun t434 => (if t434 = true then (impl_RunHistory.j1L a b c d (((rd_T120 b d).f0.f2.f0) == 5) ((rd_T120 b d).f0.f0) ((rd_T120 b d).f0.f1) ((rd_T120 b d).f0.f2.f0) ((rd_T120 b d).f0.f2.f1) ((rd_T120 b d).f0.f2.f2) ((rd_T120 b d).f0.f2.f3) ((rd_T120 b d).f1)) else (impl_RunHistory.j1L a b c d true ((rd_T120 b d).f0.f0) ((rd_T120 b d).f0.f1) ((rd_T120 b d).f0.f2.f0) ((rd_T120 b d).f0.f2.f1) ((rd_T120 b d).f0.f2.f2) ((rd_T120 b d).f0.f2.f3) ((rd_T120 b d).f1)))) else (none)) else (none)) else (some (a, true)) := by
  refine lU (impl_RunHistory.l0L_is a b c d) (LimIs.step1 (by simp only [impl_RunHistory.l0]) ?_)
  simp only [impl_RunHistory.l0]
  repeat' with_reducible first | exact lK _ | exact impl_EntryValid.fL_is .. | exact impl_RunHistory.j1L_is .. | apply lI | apply lB | intro _
theorem impl_RunHistory.j1L_eq (a : List (S181)) (b : List (S120)) (c d : Int) (e : Bool) (g i j : Int) (l : ByteArray) (m n o : Int) : impl_RunHistory.j1L a b c d e g i j l m n o = if e = true then (some (([] : List (S181)), false)) else (if o = (-2) then (impl_RunHistory.l0L a b c (wrap64 (d + 1))) else ((impl_mapAfter.fL a j l m n o).bind fun bt435 => (if bt435.2 = true then (impl_RunHistory.l0L bt435.1 b c (wrap64 (d + 1))) else (some (([] : List (S181)), false))))) := by
  refine lU (impl_RunHistory.j1L_is a b c d e g i j l m n o) (LimIs.step1 (by simp only [impl_RunHistory.j1]) ?_)
  simp only [impl_RunHistory.j1]
  repeat' with_reducible first | exact lK _ | exact impl_RunHistory.l0L_is .. | exact impl_mapAfter.fL_is .. | apply lI | apply lB | intro _
theorem impl_RunHistory.fL_eq (l0 : List (S120)) : impl_RunHistory.fL l0 = if (l0.length : Int) > 200 then (some (([] : List (S181)), false)) else (impl_RunHistory.l0L ([] : List (S181)) l0 (l0.length : Int) 0) := by
  refine lU (impl_RunHistory.fL_is l0) ?_
  unfold impl_RunHistory.f
  repeat' with_reducible first | exact lK _ | exact impl_RunHistory.l0L_is .. | apply lI | apply lB | intro _
/-! ### impl_RepliesRight -/
noncomputable def impl_RepliesRight.j0L (a : List (S32)) (b : List Int) (c : Bool) : Option (Bool) := Lim (fun k => impl_RepliesRight.j0 k a b c)
theorem impl_RepliesRight.j0L_is (a : List (S32)) (b : List Int) (c : Bool) : LimIs (fun k => impl_RepliesRight.j0 k a b c) (impl_RepliesRight.j0L a b c) := LimIs.of_mono (fun k r h => (impl_RepliesRight.mono_l k).1 a b c r h)
noncomputable def impl_RepliesRight.l0L (a : List (S32)) (b : List (S120)) (c : List Int) (d e : Int) : Option (Bool) := Lim (fun k => impl_RepliesRight.l0 k a b c d e)
theorem impl_RepliesRight.l0L_is (a : List (S32)) (b : List (S120)) (c : List Int) (d e : Int) : LimIs (fun k => impl_RepliesRight.l0 k a b c d e) (impl_RepliesRight.l0L a b c d e) := LimIs.of_mono (fun k r h => (impl_RepliesRight.mono_l k).2 a b c d e r h)
noncomputable def impl_RepliesRight.fL (l0 : List (S32)) (l1 : List Int) : Option (Bool) := Lim (fun k => impl_RepliesRight.f k l0 l1)
theorem impl_RepliesRight.fL_is (l0 : List (S32)) (l1 : List Int) : LimIs (fun k => impl_RepliesRight.f k l0 l1) (impl_RepliesRight.fL l0 l1) := LimIs.of_mono (fun k r h => impl_RepliesRight.mono l0 l1 k r h)
theorem impl_RepliesRight.j0L_eq (a : List (S32)) (b : List Int) (c : Bool) : impl_RepliesRight.j0L a b c = if c = true then (some false) else (impl_RepliesRight.l0L a ([] : List (S120)) b (b.length : Int) 0) := by
  refine lU (impl_RepliesRight.j0L_is a b c) (LimIs.step1 (by simp only [impl_RepliesRight.j0]) ?_)
  simp only [impl_RepliesRight.j0]
  repeat' with_reducible first | exact lK _ | exact impl_RepliesRight.l0L_is .. | apply lI | apply lB | intro _
theorem impl_RepliesRight.l0L_eq (a : List (S32)) (b : List (S120)) (c : List Int) (d e : Int) : impl_RepliesRight.l0L a b c d e = if e < d then (if 0 ≤ e then (if e < (c.length : Int) then (if 0 ≤ (rd c e) then (if (rd c e) < (a.length : Int) then (if b.length < 2199023255552 then (impl_RepliesRight.l0L a (b ++ [(⟨(⟨(rd_T32 a (rd c e)).f0, (rd_T32 a (rd c e)).f1, (⟨(rd_T32 a (rd c e)).f2.f0, (rd_T32 a (rd c e)).f2.f1, (rd_T32 a (rd c e)).f2.f2, (rd_T32 a (rd c e)).f2.f3⟩ : S30)⟩ : S118), (rd_T32 a (rd c e)).f3⟩ : S120)]) c d (wrap64 (e + 1))) else (none)) else (none)) else (none)) else (none)) else (none)) else ((impl_RunHistory.fL b).bind fun bt447 => (some bt447.2)) := by
  refine lU (impl_RepliesRight.l0L_is a b c d e) (LimIs.step1 (by simp only [impl_RepliesRight.l0]) ?_)
  simp only [impl_RepliesRight.l0]
  repeat' with_reducible first | exact lK _ | exact impl_RepliesRight.l0L_is .. | exact impl_RunHistory.fL_is .. | apply lI | apply lB | intro _
theorem impl_RepliesRight.fL_eq (l0 : List (S32)) (l1 : List Int) : impl_RepliesRight.fL l0 l1 = (impl_resultsValid.fL l0).bind fun t439 => (if t439 = true then ((impl_OrderValid.fL (l0.length : Int) l1).bind fun t440 => (impl_RepliesRight.j0L l0 l1 (!t440))) else (impl_RepliesRight.j0L l0 l1 true)) := by
  refine lU (impl_RepliesRight.fL_is l0 l1) ?_
  unfold impl_RepliesRight.f
  repeat' with_reducible first | exact lK _ | exact impl_OrderValid.fL_is .. | exact impl_RepliesRight.j0L_is .. | exact impl_resultsValid.fL_is .. | apply lI | apply lB | intro _
/-! ### impl_RealTime -/
noncomputable def impl_RealTime.j0L (a : List (S32)) (b : List Int) (c : Bool) : Option (Bool) := Lim (fun k => impl_RealTime.j0 k a b c)
theorem impl_RealTime.j0L_is (a : List (S32)) (b : List Int) (c : Bool) : LimIs (fun k => impl_RealTime.j0 k a b c) (impl_RealTime.j0L a b c) := LimIs.of_mono (fun k r h => (impl_RealTime.mono_l k).1 a b c r h)
noncomputable def impl_RealTime.l0L (a : List (S32)) (b c : List Int) (d e : Int) : Option (Bool) := Lim (fun k => impl_RealTime.l0 k a b c d e)
theorem impl_RealTime.l0L_is (a : List (S32)) (b c : List Int) (d e : Int) : LimIs (fun k => impl_RealTime.l0 k a b c d e) (impl_RealTime.l0L a b c d e) := LimIs.of_mono (fun k r h => (impl_RealTime.mono_l k).2.1 a b c d e r h)
noncomputable def impl_RealTime.l1L (a : List (S32)) (b : List Int) (c : Int) (d : List Int) (e f : Int) (g : List Int) (i j : Int) : Option (Bool) := Lim (fun k => impl_RealTime.l1 k a b c d e f g i j)
theorem impl_RealTime.l1L_is (a : List (S32)) (b : List Int) (c : Int) (d : List Int) (e f : Int) (g : List Int) (i j : Int) : LimIs (fun k => impl_RealTime.l1 k a b c d e f g i j) (impl_RealTime.l1L a b c d e f g i j) := LimIs.of_mono (fun k r h => (impl_RealTime.mono_l k).2.2 a b c d e f g i j r h)
noncomputable def impl_RealTime.fL (l0 : List (S32)) (l1 : List Int) : Option (Bool) := Lim (fun k => impl_RealTime.f k l0 l1)
theorem impl_RealTime.fL_is (l0 : List (S32)) (l1 : List Int) : LimIs (fun k => impl_RealTime.f k l0 l1) (impl_RealTime.fL l0 l1) := LimIs.of_mono (fun k r h => impl_RealTime.mono l0 l1 k r h)
theorem impl_RealTime.j0L_eq (a : List (S32)) (b : List Int) (c : Bool) : impl_RealTime.j0L a b c = if c = true then (some false) else (impl_RealTime.l0L a b b (b.length : Int) 0) := by
  refine lU (impl_RealTime.j0L_is a b c) (LimIs.step1 (by simp only [impl_RealTime.j0]) ?_)
  simp only [impl_RealTime.j0]
  repeat' with_reducible first | exact lK _ | exact impl_RealTime.l0L_is .. | apply lI | apply lB | intro _
theorem impl_RealTime.l0L_eq (a : List (S32)) (b c : List Int) (d e : Int) : impl_RealTime.l0L a b c d e = if e < d then (if 0 ≤ e then (if e < (c.length : Int) then (if 0 ≤ (wrap64 (e + 1)) then (if (wrap64 (e + 1)) ≤ (b.length : Int) then ((some (b.drop ((wrap64 (e + 1)) : Int).toNat : List Int)).bind fun y457 => (impl_RealTime.l1L a b (rd c e) c d e y457 (y457.length : Int) 0)) else (none)) else (none)) else (none)) else (none)) else (some true) := by
  refine lU (impl_RealTime.l0L_is a b c d e) (LimIs.step1 (by simp only [impl_RealTime.l0]) ?_)
  simp only [impl_RealTime.l0]
  repeat' with_reducible first | exact lK _ | exact impl_RealTime.l1L_is .. | apply lI | apply lB | intro _
theorem impl_RealTime.l1L_eq (a : List (S32)) (b : List Int) (c : Int) (d : List Int) (e f : Int) (g : List Int) (i j : Int) : impl_RealTime.l1L a b c d e f g i j = if j < i then (if 0 ≤ j then (if j < (g.length : Int) then (if 0 ≤ (rd g j) then (if (rd g j) < (a.length : Int) then (if 0 ≤ c then (if c < (a.length : Int) then (if ((rd_T32 a (rd g j)).f5) < ((rd_T32 a c).f4) then (some false) else (impl_RealTime.l1L a b c d e f g i (wrap64 (j + 1)))) else (none)) else (none)) else (none)) else (none)) else (none)) else (none)) else (impl_RealTime.l0L a b d e (wrap64 (f + 1))) := by
  refine lU (impl_RealTime.l1L_is a b c d e f g i j) (LimIs.step1 (by simp only [impl_RealTime.l1]) ?_)
  simp only [impl_RealTime.l1]
  repeat' with_reducible first | exact lK _ | exact impl_RealTime.l0L_is .. | exact impl_RealTime.l1L_is .. | apply lI | apply lB | intro _
theorem impl_RealTime.fL_eq (l0 : List (S32)) (l1 : List Int) : impl_RealTime.fL l0 l1 = (impl_resultsValid.fL l0).bind fun t454 => (if t454 = true then ((impl_OrderValid.fL (l0.length : Int) l1).bind fun t455 => (impl_RealTime.j0L l0 l1 (!t455))) else (impl_RealTime.j0L l0 l1 true)) := by
  refine lU (impl_RealTime.fL_is l0 l1) ?_
  unfold impl_RealTime.f
  repeat' with_reducible first | exact lK _ | exact impl_OrderValid.fL_is .. | exact impl_RealTime.j0L_is .. | exact impl_resultsValid.fL_is .. | apply lI | apply lB | intro _
/-! ### impl_orderFrom -/
noncomputable def impl_orderFrom.l0L (a : List (S32)) (b : List Int) (c d : Int) : Option (List Int × Bool) := Lim (fun k => impl_orderFrom.l0 k a b c d)
theorem impl_orderFrom.l0L_is (a : List (S32)) (b : List Int) (c d : Int) : LimIs (fun k => impl_orderFrom.l0 k a b c d) (impl_orderFrom.l0L a b c d) := LimIs.of_mono (fun k r h => (impl_orderFrom.mono_l k).2 a b c d r h)
noncomputable def impl_orderFrom.fL (l0 : List (S32)) (l1 : List Int) : Option (List Int × Bool) := Lim (fun k => impl_orderFrom.f k l0 l1)
theorem impl_orderFrom.fL_is (l0 : List (S32)) (l1 : List Int) : LimIs (fun k => impl_orderFrom.f k l0 l1) (impl_orderFrom.fL l0 l1) := LimIs.of_mono (fun k r h => impl_orderFrom.mono l0 l1 k r h)
theorem impl_orderFrom.l0L_eq (a : List (S32)) (b : List Int) (c d : Int) : impl_orderFrom.l0L a b c d = if d < c then ((slices_Contains_int_int.fL b d).bind fun t469 => (if t469 = true then (impl_orderFrom.l0L a b c (wrap64 (d + 1))) else ((impl_copyOf_int.f b).bind fun t470 => (if t470.length < 17592186044416 then ((impl_orderFrom.fL a (t470 ++ [d])).bind fun bt476 => (if bt476.2 = true then (some (bt476.1, true)) else (impl_orderFrom.l0L a b c (wrap64 (d + 1))))) else (none))))) else (some (([] : List Int), false)) := by
  refine lU (impl_orderFrom.l0L_is a b c d) (LimIs.step1 (by simp only [impl_orderFrom.l0]) ?_)
  simp only [impl_orderFrom.l0]
  repeat' with_reducible first | exact lK _ | exact impl_orderFrom.fL_is .. | exact impl_orderFrom.l0L_is .. | exact slices_Contains_int_int.fL_is .. | apply lI | apply lB | intro _
theorem impl_orderFrom.fL_eq (l0 : List (S32)) (l1 : List Int) : impl_orderFrom.fL l0 l1 = if (l1.length : Int) = (l0.length : Int) then ((impl_copyOf_int.f l1).bind fun t464 => ((impl_RealTime.fL l0 t464).bind fun t467 => (if t467 = true then ((impl_RepliesRight.fL l0 t464).bind fun t468 => (some (t464, t468))) else (some (t464, false))))) else (impl_orderFrom.l0L l0 l1 (l0.length : Int) 0) := by
  refine lU (impl_orderFrom.fL_is l0 l1) (LimIs.step1 (by simp only [impl_orderFrom.f]) ?_)
  simp only [impl_orderFrom.f]
  repeat' with_reducible first | exact lK _ | exact impl_RealTime.fL_is .. | exact impl_RepliesRight.fL_is .. | exact impl_orderFrom.l0L_is .. | apply lI | apply lB | intro _
/-! ### impl_FindOrder -/
noncomputable def impl_FindOrder.fL (l0 : List (S32)) : Option (List Int × Bool) := Lim (fun k => impl_FindOrder.f k l0)
theorem impl_FindOrder.fL_is (l0 : List (S32)) : LimIs (fun k => impl_FindOrder.f k l0) (impl_FindOrder.fL l0) := LimIs.of_mono (fun k r h => impl_FindOrder.mono l0 k r h)
theorem impl_FindOrder.fL_eq (l0 : List (S32)) : impl_FindOrder.fL l0 = (impl_resultsValid.fL l0).bind fun t480 => (if t480 = true then ((impl_orderFrom.fL l0 ([] : List Int)).bind fun bt481 => (some (bt481.1, bt481.2))) else (some (([] : List Int), false))) := by
  refine lU (impl_FindOrder.fL_is l0) ?_
  unfold impl_FindOrder.f
  repeat' with_reducible first | exact lK _ | exact impl_orderFrom.fL_is .. | exact impl_resultsValid.fL_is .. | apply lI | apply lB | intro _
/-! ### laws_eqIntS -/
noncomputable def laws_eqIntS.l0L (a b : List Int) (c : Int) : Option (Bool) := Lim (fun k => laws_eqIntS.l0 k a b c)
theorem laws_eqIntS.l0L_is (a b : List Int) (c : Int) : LimIs (fun k => laws_eqIntS.l0 k a b c) (laws_eqIntS.l0L a b c) := LimIs.of_mono (fun k r h => (laws_eqIntS.mono_l k) a b c r h)
noncomputable def laws_eqIntS.fL (l0 l1 : List Int) : Option (Bool) := Lim (fun k => laws_eqIntS.f k l0 l1)
theorem laws_eqIntS.fL_is (l0 l1 : List Int) : LimIs (fun k => laws_eqIntS.f k l0 l1) (laws_eqIntS.fL l0 l1) := LimIs.of_mono (fun k r h => laws_eqIntS.mono l0 l1 k r h)
theorem laws_eqIntS.l0L_eq (a b : List Int) (c : Int) : laws_eqIntS.l0L a b c = if c < (a.length : Int) then (if 0 ≤ c then (if c < (b.length : Int) then (if (rd a c) = (rd b c) then (laws_eqIntS.l0L a b (wrap64 (c + 1))) else (some false)) else (none)) else (none)) else (some true) := by
  refine lU (laws_eqIntS.l0L_is a b c) (LimIs.step1 (by simp only [laws_eqIntS.l0]) ?_)
  simp only [laws_eqIntS.l0]
  repeat' with_reducible first | exact lK _ | exact laws_eqIntS.l0L_is .. | apply lI | apply lB | intro _
theorem laws_eqIntS.fL_eq (l0 l1 : List Int) : laws_eqIntS.fL l0 l1 = if (l0.length : Int) = (l1.length : Int) then (laws_eqIntS.l0L l0 l1 0) else (some false) := by
  refine lU (laws_eqIntS.fL_is l0 l1) ?_
  unfold laws_eqIntS.f
  repeat' with_reducible first | exact lK _ | exact laws_eqIntS.l0L_is .. | apply lI | apply lB | intro _
/-! ### laws_eqResultS -/
noncomputable def laws_eqResultS.l0L (a b : List (S32)) (c : Int) : Option (Bool) := Lim (fun k => laws_eqResultS.l0 k a b c)
theorem laws_eqResultS.l0L_is (a b : List (S32)) (c : Int) : LimIs (fun k => laws_eqResultS.l0 k a b c) (laws_eqResultS.l0L a b c) := LimIs.of_mono (fun k r h => (laws_eqResultS.mono_l k) a b c r h)
noncomputable def laws_eqResultS.fL (l0 l1 : List (S32)) : Option (Bool) := Lim (fun k => laws_eqResultS.f k l0 l1)
theorem laws_eqResultS.fL_is (l0 l1 : List (S32)) : LimIs (fun k => laws_eqResultS.f k l0 l1) (laws_eqResultS.fL l0 l1) := LimIs.of_mono (fun k r h => laws_eqResultS.mono l0 l1 k r h)
theorem laws_eqResultS.l0L_eq (a b : List (S32)) (c : Int) : laws_eqResultS.l0L a b c = if c < (a.length : Int) then (if 0 ≤ c then (if c < (b.length : Int) then ((laws_eqResult.f ((rd_T32 a c).f0) ((rd_T32 a c).f1) ((rd_T32 a c).f2.f0) ((rd_T32 a c).f2.f1) ((rd_T32 a c).f2.f2) ((rd_T32 a c).f2.f3) ((rd_T32 a c).f3) ((rd_T32 a c).f4) ((rd_T32 a c).f5) ((rd_T32 b c).f0) ((rd_T32 b c).f1) ((rd_T32 b c).f2.f0) ((rd_T32 b c).f2.f1) ((rd_T32 b c).f2.f2) ((rd_T32 b c).f2.f3) ((rd_T32 b c).f3) ((rd_T32 b c).f4) ((rd_T32 b c).f5)).bind fun t494 => (if t494 = true then (laws_eqResultS.l0L a b (wrap64 (c + 1))) else (some false))) else (none)) else (none)) else (some true) := by
  refine lU (laws_eqResultS.l0L_is a b c) (LimIs.step1 (by simp only [laws_eqResultS.l0]) ?_)
  simp only [laws_eqResultS.l0]
  repeat' with_reducible first | exact lK _ | exact laws_eqResultS.l0L_is .. | apply lI | apply lB | intro _
theorem laws_eqResultS.fL_eq (l0 l1 : List (S32)) : laws_eqResultS.fL l0 l1 = if (l0.length : Int) = (l1.length : Int) then (laws_eqResultS.l0L l0 l1 0) else (some false) := by
  refine lU (laws_eqResultS.fL_is l0 l1) ?_
  unfold laws_eqResultS.f
  repeat' with_reducible first | exact lK _ | exact laws_eqResultS.l0L_is .. | apply lI | apply lB | intro _
/-! ### laws_markText -/
noncomputable def laws_markText.l0L (a : Int) (b : ByteArray) : Option (ByteArray) := Lim (fun k => laws_markText.l0 k a b)
theorem laws_markText.l0L_is (a : Int) (b : ByteArray) : LimIs (fun k => laws_markText.l0 k a b) (laws_markText.l0L a b) := LimIs.of_mono (fun k r h => (laws_markText.mono_l k) a b r h)
noncomputable def laws_markText.fL (a0 : Int) : Option (ByteArray) := Lim (fun k => laws_markText.f k a0)
theorem laws_markText.fL_is (a0 : Int) : LimIs (fun k => laws_markText.f k a0) (laws_markText.fL a0) := LimIs.of_mono (fun k r h => laws_markText.mono a0 k r h)
theorem laws_markText.l0L_eq (a : Int) (b : ByteArray) : laws_markText.l0L a b = if a > 0 then ((some (([(wrap64 (48 + (Int.tmod a 10))) % 256] : List Int) : List Int)).bind fun y495 => (if (strOfNums y495).size + b.size ≤ 9223372036854775807 then (laws_markText.l0L (wrap64 (Int.tdiv a 10)) ((strOfNums y495) ++ b)) else (none))) else (if 1 + b.size ≤ 9223372036854775807 then (some ((⟨#[109]⟩ : ByteArray) ++ b)) else (none)) := by
  refine lU (laws_markText.l0L_is a b) (LimIs.step1 (by simp only [laws_markText.l0]) ?_)
  simp only [laws_markText.l0]
  repeat' with_reducible first | exact lK _ | exact laws_markText.l0L_is .. | apply lI | apply lB | intro _
theorem laws_markText.fL_eq (a0 : Int) : laws_markText.fL a0 = if a0 ≤ 0 then (some (⟨#[109, 48]⟩ : ByteArray)) else (laws_markText.l0L a0 (⟨#[]⟩ : ByteArray)) := by
  refine lU (laws_markText.fL_is a0) ?_
  unfold laws_markText.f
  repeat' with_reducible first | exact lK _ | exact laws_markText.l0L_is .. | apply lI | apply lB | intro _
/-! ### laws_markResultS -/
noncomputable def laws_markResultS.l0L (a : List (S32)) (b c : Int) : Option (Int × (List (S32))) := Lim (fun k => laws_markResultS.l0 k a b c)
theorem laws_markResultS.l0L_is (a : List (S32)) (b c : Int) : LimIs (fun k => laws_markResultS.l0 k a b c) (laws_markResultS.l0L a b c) := LimIs.of_mono (fun k r h => (laws_markResultS.mono_l k) a b c r h)
noncomputable def laws_markResultS.fL (l0 : List (S32)) (a1 : Int) : Option (Int × (List (S32))) := Lim (fun k => laws_markResultS.f k l0 a1)
theorem laws_markResultS.fL_is (l0 : List (S32)) (a1 : Int) : LimIs (fun k => laws_markResultS.f k l0 a1) (laws_markResultS.fL l0 a1) := LimIs.of_mono (fun k r h => laws_markResultS.mono l0 a1 k r h)
theorem laws_markResultS.l0L_eq (a : List (S32)) (b c : Int) : laws_markResultS.l0L a b c = if c < (a.length : Int) then (if 0 ≤ c then ((some (a.set (c : Int).toNat (⟨b, (rd_T32 a c).f1, (⟨(rd_T32 a c).f2.f0, (rd_T32 a c).f2.f1, (rd_T32 a c).f2.f2, (rd_T32 a c).f2.f3⟩ : S30), (rd_T32 a c).f3, (rd_T32 a c).f4, (rd_T32 a c).f5⟩ : S32) : List (S32))).bind fun y498 => ((some (y498.set (c : Int).toNat (⟨(rd_T32 y498 c).f0, wrap64 (b + 1), (⟨(rd_T32 y498 c).f2.f0, (rd_T32 y498 c).f2.f1, (rd_T32 y498 c).f2.f2, (rd_T32 y498 c).f2.f3⟩ : S30), (rd_T32 y498 c).f3, (rd_T32 y498 c).f4, (rd_T32 y498 c).f5⟩ : S32) : List (S32))).bind fun y499 => ((some (y499.set (c : Int).toNat (⟨(rd_T32 y499 c).f0, (rd_T32 y499 c).f1, (⟨wrap64 ((wrap64 (b + 1)) + 1), (rd_T32 y499 c).f2.f1, (rd_T32 y499 c).f2.f2, (rd_T32 y499 c).f2.f3⟩ : S30), (rd_T32 y499 c).f3, (rd_T32 y499 c).f4, (rd_T32 y499 c).f5⟩ : S32) : List (S32))).bind fun y500 => ((laws_markText.fL (wrap64 ((wrap64 ((wrap64 (b + 1)) + 1)) + 1))).bind fun t501 => ((some (y500.set (c : Int).toNat (⟨(rd_T32 y500 c).f0, (rd_T32 y500 c).f1, (⟨(rd_T32 y500 c).f2.f0, t501, (rd_T32 y500 c).f2.f2, (rd_T32 y500 c).f2.f3⟩ : S30), (rd_T32 y500 c).f3, (rd_T32 y500 c).f4, (rd_T32 y500 c).f5⟩ : S32) : List (S32))).bind fun y502 => ((some (y502.set (c : Int).toNat (⟨(rd_T32 y502 c).f0, (rd_T32 y502 c).f1, (⟨(rd_T32 y502 c).f2.f0, (rd_T32 y502 c).f2.f1, wrap64 ((wrap64 ((wrap64 ((wrap64 (b + 1)) + 1)) + 1)) + 1), (rd_T32 y502 c).f2.f3⟩ : S30), (rd_T32 y502 c).f3, (rd_T32 y502 c).f4, (rd_T32 y502 c).f5⟩ : S32) : List (S32))).bind fun y503 => ((some (y503.set (c : Int).toNat (⟨(rd_T32 y503 c).f0, (rd_T32 y503 c).f1, (⟨(rd_T32 y503 c).f2.f0, (rd_T32 y503 c).f2.f1, (rd_T32 y503 c).f2.f2, wrap64 ((wrap64 ((wrap64 ((wrap64 ((wrap64 (b + 1)) + 1)) + 1)) + 1)) + 1)⟩ : S30), (rd_T32 y503 c).f3, (rd_T32 y503 c).f4, (rd_T32 y503 c).f5⟩ : S32) : List (S32))).bind fun y504 => ((some (y504.set (c : Int).toNat (⟨(rd_T32 y504 c).f0, (rd_T32 y504 c).f1, (⟨(rd_T32 y504 c).f2.f0, (rd_T32 y504 c).f2.f1, (rd_T32 y504 c).f2.f2, (rd_T32 y504 c).f2.f3⟩ : S30), wrap64 ((wrap64 ((wrap64 ((wrap64 ((wrap64 ((wrap64 (b + 1)) + 1)) + 1)) + 1)) + 1)) + 1), (rd_T32 y504 c).f4, (rd_T32 y504 c).f5⟩ : S32) : List (S32))).bind fun y505 => ((some (y505.set (c : Int).toNat (⟨(rd_T32 y505 c).f0, (rd_T32 y505 c).f1, (⟨(rd_T32 y505 c).f2.f0, (rd_T32 y505 c).f2.f1, (rd_T32 y505 c).f2.f2, (rd_T32 y505 c).f2.f3⟩ : S30), (rd_T32 y505 c).f3, wrap64 ((wrap64 ((wrap64 ((wrap64 ((wrap64 ((wrap64 ((wrap64 (b + 1)) + 1)) + 1)) + 1)) + 1)) + 1)) + 1), (rd_T32 y505 c).f5⟩ : S32) : List (S32))).bind fun y506 => (laws_markResultS.l0L (y506.set (c : Int).toNat (⟨(rd_T32 y506 c).f0, (rd_T32 y506 c).f1, (⟨(rd_T32 y506 c).f2.f0, (rd_T32 y506 c).f2.f1, (rd_T32 y506 c).f2.f2, (rd_T32 y506 c).f2.f3⟩ : S30), (rd_T32 y506 c).f3, (rd_T32 y506 c).f4, wrap64 ((wrap64 ((wrap64 ((wrap64 ((wrap64 ((wrap64 ((wrap64 ((wrap64 (b + 1)) + 1)) + 1)) + 1)) + 1)) + 1)) + 1)) + 1)⟩ : S32)) (wrap64 ((wrap64 ((wrap64 ((wrap64 ((wrap64 ((wrap64 ((wrap64 ((wrap64 ((wrap64 (b + 1)) + 1)) + 1)) + 1)) + 1)) + 1)) + 1)) + 1)) + 1)) (wrap64 (c + 1)))))))))))) else (none)) else (some (b, a)) := by
  refine lU (laws_markResultS.l0L_is a b c) (LimIs.step1 (by simp only [laws_markResultS.l0]) ?_)
  simp only [laws_markResultS.l0]
  repeat' with_reducible first | exact lK _ | exact laws_markResultS.l0L_is .. | exact laws_markText.fL_is .. | apply lI | apply lB | intro _
theorem laws_markResultS.fL_eq (l0 : List (S32)) (a1 : Int) : laws_markResultS.fL l0 a1 = laws_markResultS.l0L l0 a1 0 := by
  refine lU (laws_markResultS.fL_is l0 a1) ?_
  unfold laws_markResultS.f
  repeat' with_reducible first | exact lK _ | exact laws_markResultS.l0L_is .. | apply lI | apply lB | intro _
/-! ### laws_markIntS -/
noncomputable def laws_markIntS.l0L (a : List Int) (b c : Int) : Option (Int × List Int) := Lim (fun k => laws_markIntS.l0 k a b c)
theorem laws_markIntS.l0L_is (a : List Int) (b c : Int) : LimIs (fun k => laws_markIntS.l0 k a b c) (laws_markIntS.l0L a b c) := LimIs.of_mono (fun k r h => (laws_markIntS.mono_l k) a b c r h)
noncomputable def laws_markIntS.fL (l0 : List Int) (a1 : Int) : Option (Int × List Int) := Lim (fun k => laws_markIntS.f k l0 a1)
theorem laws_markIntS.fL_is (l0 : List Int) (a1 : Int) : LimIs (fun k => laws_markIntS.f k l0 a1) (laws_markIntS.fL l0 a1) := LimIs.of_mono (fun k r h => laws_markIntS.mono l0 a1 k r h)
theorem laws_markIntS.l0L_eq (a : List Int) (b c : Int) : laws_markIntS.l0L a b c = if c < (a.length : Int) then (if 0 ≤ c then (laws_markIntS.l0L (a.set (c : Int).toNat b) (wrap64 (b + 1)) (wrap64 (c + 1))) else (none)) else (some (b, a)) := by
  refine lU (laws_markIntS.l0L_is a b c) (LimIs.step1 (by simp only [laws_markIntS.l0]) ?_)
  simp only [laws_markIntS.l0]
  repeat' with_reducible first | exact lK _ | exact laws_markIntS.l0L_is .. | apply lI | apply lB | intro _
theorem laws_markIntS.fL_eq (l0 : List Int) (a1 : Int) : laws_markIntS.fL l0 a1 = laws_markIntS.l0L l0 a1 0 := by
  refine lU (laws_markIntS.fL_is l0 a1) ?_
  unfold laws_markIntS.f
  repeat' with_reducible first | exact lK _ | exact laws_markIntS.l0L_is .. | apply lI | apply lB | intro _
/-! ### laws_heldIntS -/
noncomputable def laws_heldIntS.l0L (a : List Int) (b c : Int) : Option (Int) := Lim (fun k => laws_heldIntS.l0 k a b c)
theorem laws_heldIntS.l0L_is (a : List Int) (b c : Int) : LimIs (fun k => laws_heldIntS.l0 k a b c) (laws_heldIntS.l0L a b c) := LimIs.of_mono (fun k r h => (laws_heldIntS.mono_l k) a b c r h)
noncomputable def laws_heldIntS.fL (l0 : List Int) (a1 : Int) : Option (Int) := Lim (fun k => laws_heldIntS.f k l0 a1)
theorem laws_heldIntS.fL_is (l0 : List Int) (a1 : Int) : LimIs (fun k => laws_heldIntS.f k l0 a1) (laws_heldIntS.fL l0 a1) := LimIs.of_mono (fun k r h => laws_heldIntS.mono l0 a1 k r h)
theorem laws_heldIntS.l0L_eq (a : List Int) (b c : Int) : laws_heldIntS.l0L a b c = if c < (a.length : Int) then (if 0 ≤ c then (if (rd a c) = b then (laws_heldIntS.l0L a (wrap64 (b + 1)) (wrap64 (c + 1))) else (some (-1))) else (none)) else (some b) := by
  refine lU (laws_heldIntS.l0L_is a b c) (LimIs.step1 (by simp only [laws_heldIntS.l0]) ?_)
  simp only [laws_heldIntS.l0]
  repeat' with_reducible first | exact lK _ | exact laws_heldIntS.l0L_is .. | apply lI | apply lB | intro _
theorem laws_heldIntS.fL_eq (l0 : List Int) (a1 : Int) : laws_heldIntS.fL l0 a1 = laws_heldIntS.l0L l0 a1 0 := by
  refine lU (laws_heldIntS.fL_is l0 a1) ?_
  unfold laws_heldIntS.f
  repeat' with_reducible first | exact lK _ | exact laws_heldIntS.l0L_is .. | apply lI | apply lB | intro _
/-! ### laws_FnExactFindOrder -/
noncomputable def laws_FnExactFindOrder.j0L (a : List (S127)) (b : List Int) (c : Bool) (d : List (S32)) (e : List Int) (g i : Bool) : Option (Bool) := Lim (fun k => laws_FnExactFindOrder.j0 k a b c d e g i)
theorem laws_FnExactFindOrder.j0L_is (a : List (S127)) (b : List Int) (c : Bool) (d : List (S32)) (e : List Int) (g i : Bool) : LimIs (fun k => laws_FnExactFindOrder.j0 k a b c d e g i) (laws_FnExactFindOrder.j0L a b c d e g i) := LimIs.of_mono (fun k r h => (laws_FnExactFindOrder.mono_l k).1 a b c d e g i r h)
noncomputable def laws_FnExactFindOrder.j1L (a : List (S127)) (b : List Int) (c : Bool) (d : List Int) (e : Bool) : Option (Bool) := Lim (fun k => laws_FnExactFindOrder.j1 k a b c d e)
theorem laws_FnExactFindOrder.j1L_is (a : List (S127)) (b : List Int) (c : Bool) (d : List Int) (e : Bool) : LimIs (fun k => laws_FnExactFindOrder.j1 k a b c d e) (laws_FnExactFindOrder.j1L a b c d e) := LimIs.of_mono (fun k r h => (laws_FnExactFindOrder.mono_l k).2.1 a b c d e r h)
noncomputable def laws_FnExactFindOrder.j2L (a : List Int) (b : Int) (c : Bool) : Option (Bool) := Lim (fun k => laws_FnExactFindOrder.j2 k a b c)
theorem laws_FnExactFindOrder.j2L_is (a : List Int) (b : Int) (c : Bool) : LimIs (fun k => laws_FnExactFindOrder.j2 k a b c) (laws_FnExactFindOrder.j2L a b c) := LimIs.of_mono (fun k r h => (laws_FnExactFindOrder.mono_l k).2.2 a b c r h)
noncomputable def laws_FnExactFindOrder.fL (l0 : List (S127)) : Option (Bool) := Lim (fun k => laws_FnExactFindOrder.f k l0)
theorem laws_FnExactFindOrder.fL_is (l0 : List (S127)) : LimIs (fun k => laws_FnExactFindOrder.f k l0) (laws_FnExactFindOrder.fL l0) := LimIs.of_mono (fun k r h => laws_FnExactFindOrder.mono l0 k r h)
theorem laws_FnExactFindOrder.j0L_eq (a : List (S127)) (b : List Int) (c : Bool) (d : List (S32)) (e : List Int) (g i : Bool) : laws_FnExactFindOrder.j0L a b c d e g i = if i = true then (some false) else ((laws_toResultS.fL a).bind fun t526 => ((laws_eqResultS.fL d t526).bind fun t529 => (if t529 = true then ((laws_markResultS.fL d 1).bind fun bt530 => (if bt530.1 < 0 then (laws_FnExactFindOrder.j1L a b c e true) else ((laws_eqIntS.fL e b).bind fun t532 => (if t532 = true then (laws_FnExactFindOrder.j1L a b c e (g != c)) else (laws_FnExactFindOrder.j1L a b c e true))))) else (some false)))) := by
  refine lU (laws_FnExactFindOrder.j0L_is a b c d e g i) (LimIs.step1 (by simp only [laws_FnExactFindOrder.j0]) ?_)
  simp only [laws_FnExactFindOrder.j0]
  repeat' with_reducible first | exact lK _ | exact laws_FnExactFindOrder.j1L_is .. | exact laws_eqIntS.fL_is .. | exact laws_eqResultS.fL_is .. | exact laws_markResultS.fL_is .. | exact laws_toResultS.fL_is .. | apply lI | apply lB | intro _
theorem laws_FnExactFindOrder.j1L_eq (a : List (S127)) (b : List Int) (c : Bool) (d : List Int) (e : Bool) : laws_FnExactFindOrder.j1L a b c d e = if e = true then (some false) else ((laws_markIntS.fL d 1).bind fun bt533 => ((laws_heldIntS.fL bt533.2 1).bind fun t535 => (if t535 < 0 then (some false) else (if t535 = bt533.1 then ((laws_toResultS.fL a).bind fun t536 => ((impl_FindOrder.fL t536).bind fun bt539 => ((laws_eqIntS.fL bt539.1 b).bind fun t543 => (if t543 = true then (laws_FnExactFindOrder.j2L bt533.2 bt533.1 (bt539.2 != c)) else (laws_FnExactFindOrder.j2L bt533.2 bt533.1 true))))) else (some false))))) := by
  refine lU (laws_FnExactFindOrder.j1L_is a b c d e) (LimIs.step1 (by simp only [laws_FnExactFindOrder.j1]) ?_)
  simp only [laws_FnExactFindOrder.j1]
  repeat' with_reducible first | exact lK _ | exact impl_FindOrder.fL_is .. | exact laws_FnExactFindOrder.j2L_is .. | exact laws_eqIntS.fL_is .. | exact laws_heldIntS.fL_is .. | exact laws_markIntS.fL_is .. | exact laws_toResultS.fL_is .. | apply lI | apply lB | intro _
theorem laws_FnExactFindOrder.j2L_eq (a : List Int) (b : Int) (c : Bool) : laws_FnExactFindOrder.j2L a b c = if c = true then (some false) else ((laws_heldIntS.fL a 1).bind fun t544 => (if t544 < 0 then (some false) else (if t544 = b then (some true) else (some false)))) := by
  refine lU (laws_FnExactFindOrder.j2L_is a b c) (LimIs.step1 (by simp only [laws_FnExactFindOrder.j2]) ?_)
  simp only [laws_FnExactFindOrder.j2]
  repeat' with_reducible first | exact lK _ | exact laws_heldIntS.fL_is .. | apply lI | apply lB | intro _
theorem laws_FnExactFindOrder.fL_eq (l0 : List (S127)) : laws_FnExactFindOrder.fL l0 = (laws_szResultS.fL l0 1048576).bind fun t510 => (if t510 < 0 then (some true) else ((laws_toResultS.fL l0).bind fun t511 => ((spec_FindOrder.fL t511).bind fun bt514 => ((laws_toResultS.fL l0).bind fun t518 => ((impl_FindOrder.fL t518).bind fun bt521 => ((laws_eqIntS.fL bt521.1 bt514.1).bind fun t525 => (if t525 = true then (laws_FnExactFindOrder.j0L l0 bt514.1 bt514.2 t518 bt521.1 bt521.2 (bt521.2 != bt514.2)) else (laws_FnExactFindOrder.j0L l0 bt514.1 bt514.2 t518 bt521.1 bt521.2 true)))))))) := by
  refine lU (laws_FnExactFindOrder.fL_is l0) ?_
  unfold laws_FnExactFindOrder.f
  repeat' with_reducible first | exact lK _ | exact impl_FindOrder.fL_is .. | exact laws_FnExactFindOrder.j0L_is .. | exact laws_eqIntS.fL_is .. | exact laws_szResultS.fL_is .. | exact laws_toResultS.fL_is .. | exact spec_FindOrder.fL_is .. | apply lI | apply lB | intro _
end Go.Proofs.Ytcciackemicbbaa.PFnExactFindOrder
