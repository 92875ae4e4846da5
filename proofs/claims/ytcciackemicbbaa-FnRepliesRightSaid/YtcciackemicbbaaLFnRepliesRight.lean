/- The limits of the printed functions, and their equations. Written by lim.py out of the print. No condition. -/
import Derived.Test.YtcciackemicbbaaPFnRepliesRightx16
import Derived.Test.YtcciackemicbbaaLim
namespace Go.Proofs.Ytcciackemicbbaa.PFnRepliesRight
open Go.RowKit Go.Proofs.YtcciackemicbbaaW.PrintWords Go.Proofs.YtcciackemicbbaaW.PrintLast Go.Proofs.YtcciackemicbbaaW.PrintMore Go.Proofs.Ytcciackemicbbaa.Lim
set_option linter.unusedVariables false

/-! ### spec_l20Rd_pick -/
noncomputable def spec_l20Rd_pick.j0L (x1 : Int) (x24 : Bool) (x1000 : List Int) (x1001 : Int) : Option (Int × Int) := Lim (fun k => spec_l20Rd_pick.j0 k x1 x24 x1000 x1001)
theorem spec_l20Rd_pick.j0L_is (x1 : Int) (x24 : Bool) (x1000 : List Int) (x1001 : Int) : LimIs (fun k => spec_l20Rd_pick.j0 k x1 x24 x1000 x1001) (spec_l20Rd_pick.j0L x1 x24 x1000 x1001) := LimIs.of_mono (fun k r h => (spec_l20Rd_pick.mono_l k) x1 x24 x1000 x1001 r h)
noncomputable def spec_l20Rd_pick.fL (s0_0 : List Int) (s0_1 a1 : Int) : Option (Int × Int) := Lim (fun k => spec_l20Rd_pick.f k s0_0 s0_1 a1)
theorem spec_l20Rd_pick.fL_is (s0_0 : List Int) (s0_1 a1 : Int) : LimIs (fun k => spec_l20Rd_pick.f k s0_0 s0_1 a1) (spec_l20Rd_pick.fL s0_0 s0_1 a1) := LimIs.of_mono (fun k r h => spec_l20Rd_pick.mono s0_0 s0_1 a1 k r h)
theorem spec_l20Rd_pick.j0L_eq (x1 : Int) (x24 : Bool) (x1000 : List Int) (x1001 : Int) : spec_l20Rd_pick.j0L x1 x24 x1000 x1001 = if x24 = true then (some (0, x1001)) else (if (wrap64 (x1001 - 1)) < (x1000.length : Int) then (if 0 ≤ (wrap64 (x1001 - 1)) then (if x1 = 0 then (none) else (some (Int.tmod (wrap64 (rd x1000 (wrap64 (x1001 - 1)))) x1, x1001))) else (none)) else (if (x1000.length : Int) = 0 then (none) else (if 0 ≤ (Int.tmod (wrap64 (x1001 - 1)) (x1000.length : Int)) then (if (Int.tmod (wrap64 (x1001 - 1)) (x1000.length : Int)) < (x1000.length : Int) then (if 0 ≤ (Int.tmod (wrap64 ((wrap64 ((wrap64 (x1001 - 1)) * 7)) + 3)) (x1000.length : Int)) then (if (Int.tmod (wrap64 ((wrap64 ((wrap64 (x1001 - 1)) * 7)) + 3)) (x1000.length : Int)) < (x1000.length : Int) then (if x1 = 0 then (none) else (some (Int.tmod (Go.bits .xor .i64 (wrap64 ((wrap64 ((wrap64 ((wrap64 ((wrap64 (rd x1000 (Int.tmod (wrap64 (x1001 - 1)) (x1000.length : Int)))) * 131)) + (wrap64 ((wrap64 (rd x1000 (Int.tmod (wrap64 ((wrap64 ((wrap64 (x1001 - 1)) * 7)) + 3)) (x1000.length : Int)))) * 1117)))) + (wrap64 ((wrap64 (x1001 - 1)) * 29)))) + (wrap64 ((wrap64 (Int.tdiv (wrap64 (x1001 - 1)) (x1000.length : Int))) * 53)))) (wrap64 (Int.tdiv (wrap64 ((wrap64 ((wrap64 ((wrap64 ((wrap64 (rd x1000 (Int.tmod (wrap64 (x1001 - 1)) (x1000.length : Int)))) * 131)) + (wrap64 ((wrap64 (rd x1000 (Int.tmod (wrap64 ((wrap64 ((wrap64 (x1001 - 1)) * 7)) + 3)) (x1000.length : Int)))) * 1117)))) + (wrap64 ((wrap64 (x1001 - 1)) * 29)))) + (wrap64 ((wrap64 (Int.tdiv (wrap64 (x1001 - 1)) (x1000.length : Int))) * 53)))) 64))) x1, x1001))) else (none)) else (none)) else (none)) else (none)))) := by
  refine LimIs.unique (spec_l20Rd_pick.j0L_is x1 x24 x1000 x1001) (LimIs.step1 (by simp only [spec_l20Rd_pick.j0]) ?_)
  simp only [spec_l20Rd_pick.j0]
  repeat' with_reducible first | exact LimIs.const _ | refine LimIs.ite ?_ ?_ | refine LimIs.bind ?_ (fun _ => ?_)
theorem spec_l20Rd_pick.fL_eq (s0_0 : List Int) (s0_1 a1 : Int) : spec_l20Rd_pick.fL s0_0 s0_1 a1 = if a1 < 1 then (spec_l20Rd_pick.j0L a1 true s0_0 (wrap64 (s0_1 + 1))) else (spec_l20Rd_pick.j0L a1 ((s0_0.length : Int) == 0) s0_0 (wrap64 (s0_1 + 1))) := by
  refine LimIs.unique (spec_l20Rd_pick.fL_is s0_0 s0_1 a1) ?_
  unfold spec_l20Rd_pick.f
  repeat' with_reducible first | exact LimIs.const _ | exact spec_l20Rd_pick.j0L_is .. | refine LimIs.ite ?_ ?_ | refine LimIs.bind ?_ (fun _ => ?_)
/-! ### spec_KeyValid -/
noncomputable def spec_KeyValid.l0L (x0 : ByteArray) (x3 : Int) : Option (Bool) := Lim (fun k => spec_KeyValid.l0 k x0 x3)
theorem spec_KeyValid.l0L_is (x0 : ByteArray) (x3 : Int) : LimIs (fun k => spec_KeyValid.l0 k x0 x3) (spec_KeyValid.l0L x0 x3) := LimIs.of_mono (fun k r h => (spec_KeyValid.mono_l k) x0 x3 r h)
noncomputable def spec_KeyValid.fL (a0 : ByteArray) : Option (Bool) := Lim (fun k => spec_KeyValid.f k a0)
theorem spec_KeyValid.fL_is (a0 : ByteArray) : LimIs (fun k => spec_KeyValid.f k a0) (spec_KeyValid.fL a0) := LimIs.of_mono (fun k r h => spec_KeyValid.mono a0 k r h)
theorem spec_KeyValid.l0L_eq (x0 : ByteArray) (x3 : Int) : spec_KeyValid.l0L x0 x3 = if x3 < (x0.size : Int) then (if 0 ≤ x3 then (if (bt x0 x3) < 97 then (some false) else (if (bt x0 x3) > 122 then (some false) else (spec_KeyValid.l0L x0 (wrap64 (x3 + 1))))) else (none)) else (some true) := by
  refine LimIs.unique (spec_KeyValid.l0L_is x0 x3) (LimIs.step1 (by simp only [spec_KeyValid.l0]) ?_)
  simp only [spec_KeyValid.l0]
  repeat' with_reducible first | exact LimIs.const _ | exact spec_KeyValid.l0L_is .. | refine LimIs.ite ?_ ?_ | refine LimIs.bind ?_ (fun _ => ?_)
theorem spec_KeyValid.fL_eq (a0 : ByteArray) : spec_KeyValid.fL a0 = (spec_l1In.f (a0.size : Int) 1 4).bind fun t110 => (if t110 = true then (spec_KeyValid.l0L a0 0) else (some false)) := by
  refine LimIs.unique (spec_KeyValid.fL_is a0) ?_
  unfold spec_KeyValid.f
  repeat' with_reducible first | exact LimIs.const _ | exact spec_KeyValid.l0L_is .. | refine LimIs.ite ?_ ?_ | refine LimIs.bind ?_ (fun _ => ?_)
/-! ### spec_PairsValid -/
noncomputable def spec_PairsValid.l0L (x0 : List (S181)) (x3 : Int) : Option (Bool) := Lim (fun k => spec_PairsValid.l0 k x0 x3)
theorem spec_PairsValid.l0L_is (x0 : List (S181)) (x3 : Int) : LimIs (fun k => spec_PairsValid.l0 k x0 x3) (spec_PairsValid.l0L x0 x3) := LimIs.of_mono (fun k r h => (spec_PairsValid.mono_l k) x0 x3 r h)
noncomputable def spec_PairsValid.fL (l0 : List (S181)) : Option (Bool) := Lim (fun k => spec_PairsValid.f k l0)
theorem spec_PairsValid.fL_is (l0 : List (S181)) : LimIs (fun k => spec_PairsValid.f k l0) (spec_PairsValid.fL l0) := LimIs.of_mono (fun k r h => spec_PairsValid.mono l0 k r h)
theorem spec_PairsValid.l0L_eq (x0 : List (S181)) (x3 : Int) : spec_PairsValid.l0L x0 x3 = if x3 < (x0.length : Int) then (if 0 ≤ x3 then ((spec_KeyValid.fL ((rd_T181 x0 x3).f0)).bind fun t112 => (if t112 = true then ((spec_l1In.f ((rd_T181 x0 x3).f1) 0 999).bind fun t114 => (if t114 = true then (if x3 > 0 then (if 0 ≤ (wrap64 (x3 - 1)) then (if (wrap64 (x3 - 1)) < (x0.length : Int) then (if ((Op.bytesLess (((rd_T181 x0 (wrap64 (x3 - 1))).f0).toList) (((rd_T181 x0 x3).f0).toList)) = true) then (spec_PairsValid.l0L x0 (wrap64 (x3 + 1))) else (some false)) else (none)) else (none)) else (spec_PairsValid.l0L x0 (wrap64 (x3 + 1)))) else (some false))) else (some false))) else (none)) else (some true) := by
  refine LimIs.unique (spec_PairsValid.l0L_is x0 x3) (LimIs.step1 (by simp only [spec_PairsValid.l0]) ?_)
  simp only [spec_PairsValid.l0]
  repeat' with_reducible first | exact LimIs.const _ | exact spec_KeyValid.fL_is .. | exact spec_PairsValid.l0L_is .. | refine LimIs.ite ?_ ?_ | refine LimIs.bind ?_ (fun _ => ?_)
theorem spec_PairsValid.fL_eq (l0 : List (S181)) : spec_PairsValid.fL l0 = if (l0.length : Int) > 48 then (some false) else (spec_PairsValid.l0L l0 0) := by
  refine LimIs.unique (spec_PairsValid.fL_is l0) ?_
  unfold spec_PairsValid.f
  repeat' with_reducible first | exact LimIs.const _ | exact spec_PairsValid.l0L_is .. | refine LimIs.ite ?_ ?_ | refine LimIs.bind ?_ (fun _ => ?_)
/-! ### spec_l4Place -/
noncomputable def spec_l4Place.l0L (x0 : List (S181)) (x1 : ByteArray) (x5 : Int) : Option (Int) := Lim (fun k => spec_l4Place.l0 k x0 x1 x5)
theorem spec_l4Place.l0L_is (x0 : List (S181)) (x1 : ByteArray) (x5 : Int) : LimIs (fun k => spec_l4Place.l0 k x0 x1 x5) (spec_l4Place.l0L x0 x1 x5) := LimIs.of_mono (fun k r h => (spec_l4Place.mono_l k) x0 x1 x5 r h)
noncomputable def spec_l4Place.fL (l0 : List (S181)) (a1 : ByteArray) : Option (Int) := Lim (fun k => spec_l4Place.f k l0 a1)
theorem spec_l4Place.fL_is (l0 : List (S181)) (a1 : ByteArray) : LimIs (fun k => spec_l4Place.f k l0 a1) (spec_l4Place.fL l0 a1) := LimIs.of_mono (fun k r h => spec_l4Place.mono l0 a1 k r h)
theorem spec_l4Place.l0L_eq (x0 : List (S181)) (x1 : ByteArray) (x5 : Int) : spec_l4Place.l0L x0 x1 x5 = if x5 < (x0.length : Int) then (if 0 ≤ x5 then (if (Op.bytesLess (((rd_T181 x0 x5).f0).toList) x1.toList) = true then (spec_l4Place.l0L x0 x1 (wrap64 (x5 + 1))) else (some x5)) else (none)) else (some x5) := by
  refine LimIs.unique (spec_l4Place.l0L_is x0 x1 x5) (LimIs.step1 (by simp only [spec_l4Place.l0]) ?_)
  simp only [spec_l4Place.l0]
  repeat' with_reducible first | exact LimIs.const _ | exact spec_l4Place.l0L_is .. | refine LimIs.ite ?_ ?_ | refine LimIs.bind ?_ (fun _ => ?_)
theorem spec_l4Place.fL_eq (l0 : List (S181)) (a1 : ByteArray) : spec_l4Place.fL l0 a1 = spec_l4Place.l0L l0 a1 0 := by
  refine LimIs.unique (spec_l4Place.fL_is l0 a1) ?_
  unfold spec_l4Place.f
  repeat' with_reducible first | exact LimIs.const _ | exact spec_l4Place.l0L_is .. | refine LimIs.ite ?_ ?_ | refine LimIs.bind ?_ (fun _ => ?_)
/-! ### spec_PairGet -/
noncomputable def spec_PairGet.fL (l0 : List (S181)) (a1 : ByteArray) : Option (Int) := Lim (fun k => spec_PairGet.f k l0 a1)
theorem spec_PairGet.fL_is (l0 : List (S181)) (a1 : ByteArray) : LimIs (fun k => spec_PairGet.f k l0 a1) (spec_PairGet.fL l0 a1) := LimIs.of_mono (fun k r h => spec_PairGet.mono l0 a1 k r h)
theorem spec_PairGet.fL_eq (l0 : List (S181)) (a1 : ByteArray) : spec_PairGet.fL l0 a1 = (spec_l4Place.fL l0 a1).bind fun t118 => ((spec_PairsValid.fL l0).bind fun t119 => (if t119 = true then (if t118 = (l0.length : Int) then (some (-1)) else (if 0 ≤ t118 then (if t118 < (l0.length : Int) then (if ((rd_T181 l0 t118).f0).toList = a1.toList then (some ((rd_T181 l0 t118).f1)) else (some (-1))) else (none)) else (none))) else (some (-1)))) := by
  refine LimIs.unique (spec_PairGet.fL_is l0 a1) ?_
  unfold spec_PairGet.f
  repeat' with_reducible first | exact LimIs.const _ | exact spec_PairsValid.fL_is .. | exact spec_l4Place.fL_is .. | refine LimIs.ite ?_ ?_ | refine LimIs.bind ?_ (fun _ => ?_)
/-! ### spec_PairDrop -/
noncomputable def spec_PairDrop.fL (l0 : List (S181)) (a1 : ByteArray) : Option ((List (S181)) × Bool) := Lim (fun k => spec_PairDrop.f k l0 a1)
theorem spec_PairDrop.fL_is (l0 : List (S181)) (a1 : ByteArray) : LimIs (fun k => spec_PairDrop.f k l0 a1) (spec_PairDrop.fL l0 a1) := LimIs.of_mono (fun k r h => spec_PairDrop.mono l0 a1 k r h)
theorem spec_PairDrop.fL_eq (l0 : List (S181)) (a1 : ByteArray) : spec_PairDrop.fL l0 a1 = (some (([] : List (S181)) : List (S181))).bind fun y122 => ((spec_PairsValid.fL l0).bind fun t125 => (if t125 = true then ((spec_l4Place.fL l0 a1).bind fun t126 => (if t126 = (l0.length : Int) then (if y122.length + l0.length < 5864062014805 then (some ((y122 ++ l0), false)) else (none)) else (if 0 ≤ t126 then (if t126 < (l0.length : Int) then (if ((rd_T181 l0 t126).f0).toList = a1.toList then (if t126 ≤ (l0.length : Int) then ((some (l0.take (t126 : Int).toNat : List (S181))).bind fun y131 => (if y122.length + y131.length < 5864062014805 then ((some (y122 ++ y131 : List (S181))).bind fun y135 => (if 0 ≤ (wrap64 (t126 + 1)) then (if (wrap64 (t126 + 1)) ≤ (l0.length : Int) then ((some (l0.drop ((wrap64 (t126 + 1)) : Int).toNat : List (S181))).bind fun y138 => (if y135.length + y138.length < 5864062014805 then (some ((y135 ++ y138), true)) else (none))) else (none)) else (none))) else (none))) else (none)) else (if y122.length + l0.length < 5864062014805 then (some ((y122 ++ l0), false)) else (none))) else (none)) else (none)))) else (some (y122, false)))) := by
  refine LimIs.unique (spec_PairDrop.fL_is l0 a1) ?_
  unfold spec_PairDrop.f
  repeat' with_reducible first | exact LimIs.const _ | exact spec_PairsValid.fL_is .. | exact spec_l4Place.fL_is .. | refine LimIs.ite ?_ ?_ | refine LimIs.bind ?_ (fun _ => ?_)
/-! ### spec_PairPut -/
noncomputable def spec_PairPut.j0L (x0 : List (S181)) (x1 : ByteArray) (x2 : Int) (x8 : List (S181)) (x23 : Bool) : Option ((List (S181)) × Bool) := Lim (fun k => spec_PairPut.j0 k x0 x1 x2 x8 x23)
theorem spec_PairPut.j0L_is (x0 : List (S181)) (x1 : ByteArray) (x2 : Int) (x8 : List (S181)) (x23 : Bool) : LimIs (fun k => spec_PairPut.j0 k x0 x1 x2 x8 x23) (spec_PairPut.j0L x0 x1 x2 x8 x23) := LimIs.of_mono (fun k r h => (spec_PairPut.mono_l k).1 x0 x1 x2 x8 x23 r h)
noncomputable def spec_PairPut.j1L (x0 : List (S181)) (x1 : ByteArray) (x2 : Int) (x8 : List (S181)) (x9 : Int) (x40 : Bool) : Option ((List (S181)) × Bool) := Lim (fun k => spec_PairPut.j1 k x0 x1 x2 x8 x9 x40)
theorem spec_PairPut.j1L_is (x0 : List (S181)) (x1 : ByteArray) (x2 : Int) (x8 : List (S181)) (x9 : Int) (x40 : Bool) : LimIs (fun k => spec_PairPut.j1 k x0 x1 x2 x8 x9 x40) (spec_PairPut.j1L x0 x1 x2 x8 x9 x40) := LimIs.of_mono (fun k r h => (spec_PairPut.mono_l k).2 x0 x1 x2 x8 x9 x40 r h)
noncomputable def spec_PairPut.fL (l0 : List (S181)) (a1 : ByteArray) (a2 : Int) : Option ((List (S181)) × Bool) := Lim (fun k => spec_PairPut.f k l0 a1 a2)
theorem spec_PairPut.fL_is (l0 : List (S181)) (a1 : ByteArray) (a2 : Int) : LimIs (fun k => spec_PairPut.f k l0 a1 a2) (spec_PairPut.fL l0 a1 a2) := LimIs.of_mono (fun k r h => spec_PairPut.mono l0 a1 a2 k r h)
theorem spec_PairPut.j0L_eq (x0 : List (S181)) (x1 : ByteArray) (x2 : Int) (x8 : List (S181)) (x23 : Bool) : spec_PairPut.j0L x0 x1 x2 x8 x23 = if x23 = true then (some (x8, false)) else ((spec_l4Place.fL x0 x1).bind fun t154 => (if t154 < (x0.length : Int) then (if 0 ≤ t154 then (spec_PairPut.j1L x0 x1 x2 x8 t154 (((rd_T181 x0 t154).f0).toList == x1.toList)) else (none)) else (spec_PairPut.j1L x0 x1 x2 x8 t154 false))) := by
  refine LimIs.unique (spec_PairPut.j0L_is x0 x1 x2 x8 x23) (LimIs.step1 (by simp only [spec_PairPut.j0]) ?_)
  simp only [spec_PairPut.j0]
  repeat' with_reducible first | exact LimIs.const _ | exact spec_PairPut.j1L_is .. | exact spec_l4Place.fL_is .. | refine LimIs.ite ?_ ?_ | refine LimIs.bind ?_ (fun _ => ?_)
theorem spec_PairPut.j1L_eq (x0 : List (S181)) (x1 : ByteArray) (x2 : Int) (x8 : List (S181)) (x9 : Int) (x40 : Bool) : spec_PairPut.j1L x0 x1 x2 x8 x9 x40 = if x40 = true then (if x8.length + x0.length < 5864062014805 then ((some (x8 ++ x0 : List (S181))).bind fun y156 => (if 0 ≤ x9 then (if x9 < (y156.length : Int) then (some ((y156.set (x9 : Int).toNat (⟨(rd_T181 y156 x9).f0, x2⟩ : S181)), true)) else (none)) else (none))) else (none)) else (if (x0.length : Int) ≥ 48 then (if x8.length + x0.length < 5864062014805 then (some ((x8 ++ x0), false)) else (none)) else (if 0 ≤ x9 then (if x9 ≤ (x0.length : Int) then ((some (x0.take (x9 : Int).toNat : List (S181))).bind fun y163 => (if x8.length + y163.length < 5864062014805 then ((some (x8 ++ y163 : List (S181))).bind fun y167 => (if y167.length < 5864062014805 then ((some (y167 ++ [(⟨x1, x2⟩ : S181)] : List (S181))).bind fun y170 => ((some (x0.drop (x9 : Int).toNat : List (S181))).bind fun y173 => (if y170.length + y173.length < 5864062014805 then (some ((y170 ++ y173), true)) else (none)))) else (none))) else (none))) else (none)) else (none))) := by
  refine LimIs.unique (spec_PairPut.j1L_is x0 x1 x2 x8 x9 x40) (LimIs.step1 (by simp only [spec_PairPut.j1]) ?_)
  simp only [spec_PairPut.j1]
  repeat' with_reducible first | exact LimIs.const _ | refine LimIs.ite ?_ ?_ | refine LimIs.bind ?_ (fun _ => ?_)
theorem spec_PairPut.fL_eq (l0 : List (S181)) (a1 : ByteArray) (a2 : Int) : spec_PairPut.fL l0 a1 a2 = (some (([] : List (S181)) : List (S181))).bind fun y148 => ((spec_PairsValid.fL l0).bind fun t151 => (if t151 = true then ((spec_KeyValid.fL a1).bind fun t152 => (if t152 = true then ((spec_l1In.f a2 0 999).bind fun t153 => (spec_PairPut.j0L l0 a1 a2 y148 (!t153))) else (spec_PairPut.j0L l0 a1 a2 y148 true))) else (spec_PairPut.j0L l0 a1 a2 y148 true))) := by
  refine LimIs.unique (spec_PairPut.fL_is l0 a1 a2) ?_
  unfold spec_PairPut.f
  repeat' with_reducible first | exact LimIs.const _ | exact spec_KeyValid.fL_is .. | exact spec_PairPut.j0L_is .. | exact spec_PairsValid.fL_is .. | refine LimIs.ite ?_ ?_ | refine LimIs.bind ?_ (fun _ => ?_)
/-! ### spec_CommandValid -/
noncomputable def spec_CommandValid.j0L (x16 : Bool) (x181000 : Int) (x181001 : ByteArray) (x181002 x181003 : Int) : Option (Bool) := Lim (fun k => spec_CommandValid.j0 k x16 x181000 x181001 x181002 x181003)
theorem spec_CommandValid.j0L_is (x16 : Bool) (x181000 : Int) (x181001 : ByteArray) (x181002 x181003 : Int) : LimIs (fun k => spec_CommandValid.j0 k x16 x181000 x181001 x181002 x181003) (spec_CommandValid.j0L x16 x181000 x181001 x181002 x181003) := LimIs.of_mono (fun k r h => (spec_CommandValid.mono_l k).1 x16 x181000 x181001 x181002 x181003 r h)
noncomputable def spec_CommandValid.j1L (x18 : Int) (x19 : Bool) (x181000 : Int) (x181001 : ByteArray) (x181002 x181003 : Int) : Option (Bool) := Lim (fun k => spec_CommandValid.j1 k x18 x19 x181000 x181001 x181002 x181003)
theorem spec_CommandValid.j1L_is (x18 : Int) (x19 : Bool) (x181000 : Int) (x181001 : ByteArray) (x181002 x181003 : Int) : LimIs (fun k => spec_CommandValid.j1 k x18 x19 x181000 x181001 x181002 x181003) (spec_CommandValid.j1L x18 x19 x181000 x181001 x181002 x181003) := LimIs.of_mono (fun k r h => (spec_CommandValid.mono_l k).2 x18 x19 x181000 x181001 x181002 x181003 r h)
noncomputable def spec_CommandValid.fL (a0_0 : Int) (a0_1 : ByteArray) (a0_2 a0_3 : Int) : Option (Bool) := Lim (fun k => spec_CommandValid.f k a0_0 a0_1 a0_2 a0_3)
theorem spec_CommandValid.fL_is (a0_0 : Int) (a0_1 : ByteArray) (a0_2 a0_3 : Int) : LimIs (fun k => spec_CommandValid.f k a0_0 a0_1 a0_2 a0_3) (spec_CommandValid.fL a0_0 a0_1 a0_2 a0_3) := LimIs.of_mono (fun k r h => spec_CommandValid.mono a0_0 a0_1 a0_2 a0_3 k r h)
theorem spec_CommandValid.j0L_eq (x16 : Bool) (x181000 : Int) (x181001 : ByteArray) (x181002 x181003 : Int) : spec_CommandValid.j0L x16 x181000 x181001 x181002 x181003 = if x16 = true then (some false) else (if x181000 = 1 then (spec_CommandValid.j1L x181000 (x181000 == 1) x181000 x181001 x181002 x181003) else (if x181000 = 3 then (spec_CommandValid.j1L x181000 (x181000 == 3) x181000 x181001 x181002 x181003) else (spec_CommandValid.j1L x181000 (x181000 == 5) x181000 x181001 x181002 x181003))) := by
  refine LimIs.unique (spec_CommandValid.j0L_is x16 x181000 x181001 x181002 x181003) (LimIs.step1 (by simp only [spec_CommandValid.j0]) ?_)
  simp only [spec_CommandValid.j0]
  repeat' with_reducible first | exact LimIs.const _ | exact spec_CommandValid.j1L_is .. | refine LimIs.ite ?_ ?_ | refine LimIs.bind ?_ (fun _ => ?_)
theorem spec_CommandValid.j1L_eq (x18 : Int) (x19 : Bool) (x181000 : Int) (x181001 : ByteArray) (x181002 x181003 : Int) : spec_CommandValid.j1L x18 x19 x181000 x181001 x181002 x181003 = if x19 = true then (if x181002 = 0 then (some (x181003 == 0)) else (some false)) else (if x18 = 2 then ((spec_l1In.f x181002 0 999).bind fun t182 => (if t182 = true then (some (x181003 == 0)) else (some false))) else (if x18 = 4 then ((spec_l1In.f x181002 0 999).bind fun t183 => (if t183 = true then ((spec_l1In.f x181003 (-1) 999).bind fun t184 => (some t184)) else (some false))) else (some false))) := by
  refine LimIs.unique (spec_CommandValid.j1L_is x18 x19 x181000 x181001 x181002 x181003) (LimIs.step1 (by simp only [spec_CommandValid.j1]) ?_)
  simp only [spec_CommandValid.j1]
  repeat' with_reducible first | exact LimIs.const _ | refine LimIs.ite ?_ ?_ | refine LimIs.bind ?_ (fun _ => ?_)
theorem spec_CommandValid.fL_eq (a0_0 : Int) (a0_1 : ByteArray) (a0_2 a0_3 : Int) : spec_CommandValid.fL a0_0 a0_1 a0_2 a0_3 = (spec_KeyValid.fL a0_1).bind fun t181 => (if t181 = true then (spec_CommandValid.j0L false a0_0 a0_1 a0_2 a0_3) else (if a0_0 = 5 then (spec_CommandValid.j0L (a0_1.toList != ([] : List UInt8)) a0_0 a0_1 a0_2 a0_3) else (spec_CommandValid.j0L true a0_0 a0_1 a0_2 a0_3))) := by
  refine LimIs.unique (spec_CommandValid.fL_is a0_0 a0_1 a0_2 a0_3) ?_
  unfold spec_CommandValid.f
  repeat' with_reducible first | exact LimIs.const _ | exact spec_CommandValid.j0L_is .. | exact spec_KeyValid.fL_is .. | refine LimIs.ite ?_ ?_ | refine LimIs.bind ?_ (fun _ => ?_)
/-! ### spec_ApplyCommand -/
noncomputable def spec_ApplyCommand.j0L (x0 : List (S181)) (x24 : Bool) (x186000 : Int) (x186001 : ByteArray) (x186002 x186003 : Int) : Option ((List (S181)) × Int) := Lim (fun k => spec_ApplyCommand.j0 k x0 x24 x186000 x186001 x186002 x186003)
theorem spec_ApplyCommand.j0L_is (x0 : List (S181)) (x24 : Bool) (x186000 : Int) (x186001 : ByteArray) (x186002 x186003 : Int) : LimIs (fun k => spec_ApplyCommand.j0 k x0 x24 x186000 x186001 x186002 x186003) (spec_ApplyCommand.j0L x0 x24 x186000 x186001 x186002 x186003) := LimIs.of_mono (fun k r h => (spec_ApplyCommand.mono_l k).1 x0 x24 x186000 x186001 x186002 x186003 r h)
noncomputable def spec_ApplyCommand.j1L (x0 x6 : List (S181)) (x7 : Int) (x46 : Bool) (x186000 : Int) (x186001 : ByteArray) (x186002 x186003 : Int) : Option ((List (S181)) × Int) := Lim (fun k => spec_ApplyCommand.j1 k x0 x6 x7 x46 x186000 x186001 x186002 x186003)
theorem spec_ApplyCommand.j1L_is (x0 x6 : List (S181)) (x7 : Int) (x46 : Bool) (x186000 : Int) (x186001 : ByteArray) (x186002 x186003 : Int) : LimIs (fun k => spec_ApplyCommand.j1 k x0 x6 x7 x46 x186000 x186001 x186002 x186003) (spec_ApplyCommand.j1L x0 x6 x7 x46 x186000 x186001 x186002 x186003) := LimIs.of_mono (fun k r h => (spec_ApplyCommand.mono_l k).2 x0 x6 x7 x46 x186000 x186001 x186002 x186003 r h)
noncomputable def spec_ApplyCommand.fL (l0 : List (S181)) (a1_0 : Int) (a1_1 : ByteArray) (a1_2 a1_3 : Int) : Option ((List (S181)) × Int) := Lim (fun k => spec_ApplyCommand.f k l0 a1_0 a1_1 a1_2 a1_3)
theorem spec_ApplyCommand.fL_is (l0 : List (S181)) (a1_0 : Int) (a1_1 : ByteArray) (a1_2 a1_3 : Int) : LimIs (fun k => spec_ApplyCommand.f k l0 a1_0 a1_1 a1_2 a1_3) (spec_ApplyCommand.fL l0 a1_0 a1_1 a1_2 a1_3) := LimIs.of_mono (fun k r h => spec_ApplyCommand.mono l0 a1_0 a1_1 a1_2 a1_3 k r h)
theorem spec_ApplyCommand.j0L_eq (x0 : List (S181)) (x24 : Bool) (x186000 : Int) (x186001 : ByteArray) (x186002 x186003 : Int) : spec_ApplyCommand.j0L x0 x24 x186000 x186001 x186002 x186003 = if x24 = true then (some ((([] : List (S181))), (-3))) else ((some (([] : List (S181)) : List (S181))).bind fun y191 => (if y191.length + x0.length < 5864062014805 then ((some (y191 ++ x0 : List (S181))).bind fun y194 => ((spec_PairGet.fL x0 x186001).bind fun t197 => (if x186000 = 1 then (spec_ApplyCommand.j1L x0 y194 t197 true x186000 x186001 x186002 x186003) else (if x186000 = 4 then (spec_ApplyCommand.j1L x0 y194 t197 (x186003 != t197) x186000 x186001 x186002 x186003) else (spec_ApplyCommand.j1L x0 y194 t197 false x186000 x186001 x186002 x186003))))) else (none))) := by
  refine LimIs.unique (spec_ApplyCommand.j0L_is x0 x24 x186000 x186001 x186002 x186003) (LimIs.step1 (by simp only [spec_ApplyCommand.j0]) ?_)
  simp only [spec_ApplyCommand.j0]
  repeat' with_reducible first | exact LimIs.const _ | exact spec_ApplyCommand.j1L_is .. | exact spec_PairGet.fL_is .. | refine LimIs.ite ?_ ?_ | refine LimIs.bind ?_ (fun _ => ?_)
theorem spec_ApplyCommand.j1L_eq (x0 x6 : List (S181)) (x7 : Int) (x46 : Bool) (x186000 : Int) (x186001 : ByteArray) (x186002 x186003 : Int) : spec_ApplyCommand.j1L x0 x6 x7 x46 x186000 x186001 x186002 x186003 = if x46 = true then (some (x6, x7)) else (if x186000 = 3 then ((spec_PairDrop.fL x0 x186001).bind fun bt198 => (some (bt198.1, x7))) else (if x7 < 0 then (if (x0.length : Int) ≥ 8 then (some (x6, (-2))) else ((spec_PairPut.fL x0 x186001 x186002).bind fun bt202 => (some (bt202.1, x7)))) else ((spec_PairPut.fL x0 x186001 x186002).bind fun bt206 => (some (bt206.1, x7))))) := by
  refine LimIs.unique (spec_ApplyCommand.j1L_is x0 x6 x7 x46 x186000 x186001 x186002 x186003) (LimIs.step1 (by simp only [spec_ApplyCommand.j1]) ?_)
  simp only [spec_ApplyCommand.j1]
  repeat' with_reducible first | exact LimIs.const _ | exact spec_PairDrop.fL_is .. | exact spec_PairPut.fL_is .. | refine LimIs.ite ?_ ?_ | refine LimIs.bind ?_ (fun _ => ?_)
theorem spec_ApplyCommand.fL_eq (l0 : List (S181)) (a1_0 : Int) (a1_1 : ByteArray) (a1_2 a1_3 : Int) : spec_ApplyCommand.fL l0 a1_0 a1_1 a1_2 a1_3 = (spec_PairsValid.fL l0).bind fun t186 => (if t186 = true then ((spec_CommandValid.fL a1_0 a1_1 a1_2 a1_3).bind fun t187 => (if t187 = true then (spec_ApplyCommand.j0L l0 (a1_0 == 5) a1_0 a1_1 a1_2 a1_3) else (spec_ApplyCommand.j0L l0 true a1_0 a1_1 a1_2 a1_3))) else (spec_ApplyCommand.j0L l0 true a1_0 a1_1 a1_2 a1_3)) := by
  refine LimIs.unique (spec_ApplyCommand.fL_is l0 a1_0 a1_1 a1_2 a1_3) ?_
  unfold spec_ApplyCommand.f
  repeat' with_reducible first | exact LimIs.const _ | exact spec_ApplyCommand.j0L_is .. | exact spec_CommandValid.fL_is .. | exact spec_PairsValid.fL_is .. | refine LimIs.ite ?_ ?_ | refine LimIs.bind ?_ (fun _ => ?_)
/-! ### spec_l20Rd_odd -/
noncomputable def spec_l20Rd_odd.fL (s0_0 : List Int) (s0_1 a1 : Int) : Option (Bool × Int) := Lim (fun k => spec_l20Rd_odd.f k s0_0 s0_1 a1)
theorem spec_l20Rd_odd.fL_is (s0_0 : List Int) (s0_1 a1 : Int) : LimIs (fun k => spec_l20Rd_odd.f k s0_0 s0_1 a1) (spec_l20Rd_odd.fL s0_0 s0_1 a1) := LimIs.of_mono (fun k r h => spec_l20Rd_odd.mono s0_0 s0_1 a1 k r h)
theorem spec_l20Rd_odd.fL_eq (s0_0 : List Int) (s0_1 a1 : Int) : spec_l20Rd_odd.fL s0_0 s0_1 a1 = if a1 > 0 then ((spec_l20Rd_pick.fL s0_0 s0_1 a1).bind fun bt210 => (some ((bt210.1 == (wrap64 (a1 - 1))), bt210.2))) else (some (false, s0_1)) := by
  refine LimIs.unique (spec_l20Rd_odd.fL_is s0_0 s0_1 a1) ?_
  unfold spec_l20Rd_odd.f
  repeat' with_reducible first | exact LimIs.const _ | exact spec_l20Rd_pick.fL_is .. | refine LimIs.ite ?_ ?_ | refine LimIs.bind ?_ (fun _ => ?_)
/-! ### spec_l20Key -/
noncomputable def spec_l20Key.l0L (x5 : ByteArray) (x6 : Int) (x1000 : List Int) (x1001 : Int) : Option (ByteArray × Int) := Lim (fun k => spec_l20Key.l0 k x5 x6 x1000 x1001)
theorem spec_l20Key.l0L_is (x5 : ByteArray) (x6 : Int) (x1000 : List Int) (x1001 : Int) : LimIs (fun k => spec_l20Key.l0 k x5 x6 x1000 x1001) (spec_l20Key.l0L x5 x6 x1000 x1001) := LimIs.of_mono (fun k r h => (spec_l20Key.mono_l k) x5 x6 x1000 x1001 r h)
noncomputable def spec_l20Key.fL (s0_0 : List Int) (s0_1 a1 : Int) : Option (ByteArray × Int) := Lim (fun k => spec_l20Key.f k s0_0 s0_1 a1)
theorem spec_l20Key.fL_is (s0_0 : List Int) (s0_1 a1 : Int) : LimIs (fun k => spec_l20Key.f k s0_0 s0_1 a1) (spec_l20Key.fL s0_0 s0_1 a1) := LimIs.of_mono (fun k r h => spec_l20Key.mono s0_0 s0_1 a1 k r h)
theorem spec_l20Key.l0L_eq (x5 : ByteArray) (x6 : Int) (x1000 : List Int) (x1001 : Int) : spec_l20Key.l0L x5 x6 x1000 x1001 = if x6 > 0 then ((spec_l20Rd_pick.fL x1000 x1001 4).bind fun bt230 => ((some (([(wrap64 (97 + bt230.1)) % 256] : List Int) : List Int)).bind fun y232 => (if x5.size + (strOfNums y232).size ≤ 9223372036854775807 then (spec_l20Key.l0L (x5 ++ (strOfNums y232)) (wrap64 (x6 - 1)) x1000 bt230.2) else (none)))) else (some (x5, x1001)) := by
  refine LimIs.unique (spec_l20Key.l0L_is x5 x6 x1000 x1001) (LimIs.step1 (by simp only [spec_l20Key.l0]) ?_)
  simp only [spec_l20Key.l0]
  repeat' with_reducible first | exact LimIs.const _ | exact spec_l20Key.l0L_is .. | exact spec_l20Rd_pick.fL_is .. | refine LimIs.ite ?_ ?_ | refine LimIs.bind ?_ (fun _ => ?_)
theorem spec_l20Key.fL_eq (s0_0 : List Int) (s0_1 a1 : Int) : spec_l20Key.fL s0_0 s0_1 a1 = (spec_l20Rd_odd.fL s0_0 s0_1 a1).bind fun bt212 => (if bt212.1 = true then ((some (([(⟨#[]⟩ : ByteArray), (⟨#[65]⟩ : ByteArray), (⟨#[97, 49]⟩ : ByteArray), (⟨#[97, 98, 99, 100, 101]⟩ : ByteArray), (⟨#[98, 123]⟩ : ByteArray), (⟨#[97, 32, 98]⟩ : ByteArray)] : List ByteArray) : List ByteArray)).bind fun y214 => ((spec_l20Rd_pick.fL s0_0 bt212.2 6).bind fun bt217 => (if 0 ≤ bt217.1 then (if bt217.1 < (y214.length : Int) then (some (rdOf ByteArray.empty y214 bt217.1, bt217.2)) else (none)) else (none)))) else ((spec_l20Rd_pick.fL s0_0 bt212.2 12).bind fun bt220 => (if bt220.1 = 11 then ((some (([(⟨#[122, 122, 122, 122]⟩ : ByteArray), (⟨#[122, 122, 122]⟩ : ByteArray), (⟨#[97, 122, 122, 122]⟩ : ByteArray), (⟨#[122]⟩ : ByteArray), (⟨#[97, 97, 97, 97]⟩ : ByteArray)] : List ByteArray) : List ByteArray)).bind fun y222 => ((spec_l20Rd_pick.fL s0_0 bt220.2 5).bind fun bt225 => (if 0 ≤ bt225.1 then (if bt225.1 < (y222.length : Int) then (some (rdOf ByteArray.empty y222 bt225.1, bt225.2)) else (none)) else (none)))) else ((spec_l20Rd_pick.fL s0_0 bt220.2 2).bind fun bt228 => (spec_l20Key.l0L (⟨#[]⟩ : ByteArray) (wrap64 (1 + bt228.1)) s0_0 bt228.2))))) := by
  refine LimIs.unique (spec_l20Key.fL_is s0_0 s0_1 a1) ?_
  unfold spec_l20Key.f
  repeat' with_reducible first | exact LimIs.const _ | exact spec_l20Key.l0L_is .. | exact spec_l20Rd_odd.fL_is .. | exact spec_l20Rd_pick.fL_is .. | refine LimIs.ite ?_ ?_ | refine LimIs.bind ?_ (fun _ => ?_)
/-! ### spec_l20Value -/
noncomputable def spec_l20Value.fL (s0_0 : List Int) (s0_1 a1 : Int) : Option (Int × Int) := Lim (fun k => spec_l20Value.f k s0_0 s0_1 a1)
theorem spec_l20Value.fL_is (s0_0 : List Int) (s0_1 a1 : Int) : LimIs (fun k => spec_l20Value.f k s0_0 s0_1 a1) (spec_l20Value.fL s0_0 s0_1 a1) := LimIs.of_mono (fun k r h => spec_l20Value.mono s0_0 s0_1 a1 k r h)
theorem spec_l20Value.fL_eq (s0_0 : List Int) (s0_1 a1 : Int) : spec_l20Value.fL s0_0 s0_1 a1 = (spec_l20Rd_odd.fL s0_0 s0_1 a1).bind fun bt235 => (if bt235.1 = true then ((some (([(-1), 1000] : List Int) : List Int)).bind fun y237 => ((spec_l20Rd_pick.fL s0_0 bt235.2 2).bind fun bt240 => (if 0 ≤ bt240.1 then (if bt240.1 < (y237.length : Int) then (some (rd y237 bt240.1, bt240.2)) else (none)) else (none)))) else ((spec_l20Rd_pick.fL s0_0 bt235.2 20).bind fun bt243 => ((some (([bt243.1, 999] : List Int) : List Int)).bind fun y245 => ((spec_l20Rd_pick.fL s0_0 bt243.2 9).bind fun bt248 => (if 0 ≤ (wrap64 (Int.tdiv bt248.1 8)) then (if (wrap64 (Int.tdiv bt248.1 8)) < (y245.length : Int) then (some (rd y245 (wrap64 (Int.tdiv bt248.1 8)), bt248.2)) else (none)) else (none)))))) := by
  refine LimIs.unique (spec_l20Value.fL_is s0_0 s0_1 a1) ?_
  unfold spec_l20Value.f
  repeat' with_reducible first | exact LimIs.const _ | exact spec_l20Rd_odd.fL_is .. | exact spec_l20Rd_pick.fL_is .. | refine LimIs.ite ?_ ?_ | refine LimIs.bind ?_ (fun _ => ?_)
/-! ### spec_l20Cmd -/
noncomputable def spec_l20Cmd.j0L (x5 : ByteArray) (x1000 : List Int) (x1001 : Int) : Option (Int × ByteArray × Int × Int × Int) := Lim (fun k => spec_l20Cmd.j0 k x5 x1000 x1001)
theorem spec_l20Cmd.j0L_is (x5 : ByteArray) (x1000 : List Int) (x1001 : Int) : LimIs (fun k => spec_l20Cmd.j0 k x5 x1000 x1001) (spec_l20Cmd.j0L x5 x1000 x1001) := LimIs.of_mono (fun k r h => (spec_l20Cmd.mono_l k) x5 x1000 x1001 r h)
noncomputable def spec_l20Cmd.fL (s0_0 : List Int) (s0_1 a1 : Int) : Option (Int × ByteArray × Int × Int × Int) := Lim (fun k => spec_l20Cmd.f k s0_0 s0_1 a1)
theorem spec_l20Cmd.fL_is (s0_0 : List Int) (s0_1 a1 : Int) : LimIs (fun k => spec_l20Cmd.f k s0_0 s0_1 a1) (spec_l20Cmd.fL s0_0 s0_1 a1) := LimIs.of_mono (fun k r h => spec_l20Cmd.mono s0_0 s0_1 a1 k r h)
theorem spec_l20Cmd.j0L_eq (x5 : ByteArray) (x1000 : List Int) (x1001 : Int) : spec_l20Cmd.j0L x5 x1000 x1001 = (spec_l20Rd_pick.fL x1000 x1001 8).bind fun bt270 => (if bt270.1 = 0 then (some (1, x5, 0, 0, bt270.2)) else (if bt270.1 = 1 then (some (3, x5, 0, 0, bt270.2)) else (if bt270.1 = 2 then ((spec_l20Rd_pick.fL x1000 bt270.2 5).bind fun bt272 => ((spec_l20Rd_pick.fL x1000 bt272.2 5).bind fun bt274 => (some (4, x5, bt274.1, wrap64 (bt272.1 - 1), bt274.2)))) else ((spec_l20Value.fL x1000 bt270.2 0).bind fun bt276 => (some (2, x5, Int.tmod bt276.1 1000, 0, bt276.2)))))) := by
  refine LimIs.unique (spec_l20Cmd.j0L_is x5 x1000 x1001) (LimIs.step1 (by simp only [spec_l20Cmd.j0]) ?_)
  simp only [spec_l20Cmd.j0]
  repeat' with_reducible first | exact LimIs.const _ | exact spec_l20Rd_pick.fL_is .. | exact spec_l20Value.fL_is .. | refine LimIs.ite ?_ ?_ | refine LimIs.bind ?_ (fun _ => ?_)
theorem spec_l20Cmd.fL_eq (s0_0 : List Int) (s0_1 a1 : Int) : spec_l20Cmd.fL s0_0 s0_1 a1 = (spec_l20Rd_odd.fL s0_0 s0_1 a1).bind fun bt252 => (if bt252.1 = true then ((some (([(⟨0, (⟨#[]⟩ : ByteArray), 0, 0⟩ : S30), (⟨1, (⟨#[]⟩ : ByteArray), 0, 0⟩ : S30), (⟨1, (⟨#[98]⟩ : ByteArray), 1, 0⟩ : S30), (⟨2, (⟨#[98]⟩ : ByteArray), 1000, 0⟩ : S30), (⟨2, (⟨#[98]⟩ : ByteArray), 0, 1⟩ : S30), (⟨4, (⟨#[98]⟩ : ByteArray), 0, (-2)⟩ : S30), (⟨4, (⟨#[98]⟩ : ByteArray), (-1), 0⟩ : S30), (⟨6, (⟨#[98]⟩ : ByteArray), 0, 0⟩ : S30), (⟨3, (⟨#[65]⟩ : ByteArray), 0, 0⟩ : S30), (⟨5, (⟨#[98, 49]⟩ : ByteArray), 0, 0⟩ : S30)] : List (S30)) : List (S30))).bind fun y254 => ((spec_l20Rd_pick.fL s0_0 bt252.2 10).bind fun bt257 => (if 0 ≤ bt257.1 then (if bt257.1 < (y254.length : Int) then (some ((rd_T30 y254 bt257.1).f0, (rd_T30 y254 bt257.1).f1, (rd_T30 y254 bt257.1).f2, (rd_T30 y254 bt257.1).f3, bt257.2)) else (none)) else (none)))) else ((spec_l20Key.fL s0_0 bt252.2 0).bind fun bt260 => ((spec_l20Rd_pick.fL s0_0 bt260.2 2).bind fun bt262 => (if bt262.1 = 0 then ((some (([(⟨#[98]⟩ : ByteArray), (⟨#[99]⟩ : ByteArray), (⟨#[100]⟩ : ByteArray), (⟨#[109]⟩ : ByteArray)] : List ByteArray) : List ByteArray)).bind fun y264 => ((spec_l20Rd_pick.fL s0_0 bt262.2 4).bind fun bt267 => (if 0 ≤ bt267.1 then (if bt267.1 < (y264.length : Int) then (spec_l20Cmd.j0L (rdOf ByteArray.empty y264 bt267.1) s0_0 bt267.2) else (none)) else (none)))) else (spec_l20Cmd.j0L bt260.1 s0_0 bt262.2))))) := by
  refine LimIs.unique (spec_l20Cmd.fL_is s0_0 s0_1 a1) ?_
  unfold spec_l20Cmd.f
  repeat' with_reducible first | exact LimIs.const _ | exact spec_l20Cmd.j0L_is .. | exact spec_l20Key.fL_is .. | exact spec_l20Rd_odd.fL_is .. | exact spec_l20Rd_pick.fL_is .. | refine LimIs.ite ?_ ?_ | refine LimIs.bind ?_ (fun _ => ?_)
/-! ### spec_l20Reply -/
noncomputable def spec_l20Reply.fL (s0_0 : List Int) (s0_1 a1 : Int) : Option (Int × Int) := Lim (fun k => spec_l20Reply.f k s0_0 s0_1 a1)
theorem spec_l20Reply.fL_is (s0_0 : List Int) (s0_1 a1 : Int) : LimIs (fun k => spec_l20Reply.f k s0_0 s0_1 a1) (spec_l20Reply.fL s0_0 s0_1 a1) := LimIs.of_mono (fun k r h => spec_l20Reply.mono s0_0 s0_1 a1 k r h)
theorem spec_l20Reply.fL_eq (s0_0 : List Int) (s0_1 a1 : Int) : spec_l20Reply.fL s0_0 s0_1 a1 = (spec_l20Rd_odd.fL s0_0 s0_1 a1).bind fun bt278 => (if bt278.1 = true then ((some (([(-5), 1000] : List Int) : List Int)).bind fun y280 => ((spec_l20Rd_pick.fL s0_0 bt278.2 2).bind fun bt283 => (if 0 ≤ bt283.1 then (if bt283.1 < (y280.length : Int) then (some (rd y280 bt283.1, bt283.2)) else (none)) else (none)))) else ((spec_l20Rd_pick.fL s0_0 bt278.2 256).bind fun bt286 => ((some (([(-1), (-2), (-3), (-4), wrap64 (bt286.1 * 3), 999, 0] : List Int) : List Int)).bind fun y288 => ((spec_l20Rd_pick.fL s0_0 bt286.2 7).bind fun bt291 => (if 0 ≤ bt291.1 then (if bt291.1 < (y288.length : Int) then (some (rd y288 bt291.1, bt291.2)) else (none)) else (none)))))) := by
  refine LimIs.unique (spec_l20Reply.fL_is s0_0 s0_1 a1) ?_
  unfold spec_l20Reply.f
  repeat' with_reducible first | exact LimIs.const _ | exact spec_l20Rd_odd.fL_is .. | exact spec_l20Rd_pick.fL_is .. | refine LimIs.ite ?_ ?_ | refine LimIs.bind ?_ (fun _ => ?_)
/-! ### spec_l20Any -/
noncomputable def spec_l20Any.fL (s0_0 : List Int) (s0_1 a1 : Int) : Option (Int × ByteArray × Int × Int × Int) := Lim (fun k => spec_l20Any.f k s0_0 s0_1 a1)
theorem spec_l20Any.fL_is (s0_0 : List Int) (s0_1 a1 : Int) : LimIs (fun k => spec_l20Any.f k s0_0 s0_1 a1) (spec_l20Any.fL s0_0 s0_1 a1) := LimIs.of_mono (fun k r h => spec_l20Any.mono s0_0 s0_1 a1 k r h)
theorem spec_l20Any.fL_eq (s0_0 : List Int) (s0_1 a1 : Int) : spec_l20Any.fL s0_0 s0_1 a1 = (spec_l20Cmd.fL s0_0 s0_1 a1).bind fun bt295 => ((spec_l20Rd_pick.fL s0_0 bt295.2.2.2.2 5).bind fun bt301 => (if bt301.1 = 0 then ((spec_l20Key.fL s0_0 bt301.2 0).bind fun bt303 => ((some (([(⟨#[]⟩ : ByteArray), (⟨#[98]⟩ : ByteArray), (⟨#[99]⟩ : ByteArray), bt303.1] : List ByteArray) : List ByteArray)).bind fun y305 => ((spec_l20Rd_pick.fL s0_0 bt303.2 4).bind fun bt308 => (if 0 ≤ bt308.1 then (if bt308.1 < (y305.length : Int) then (some (5, rdOf ByteArray.empty y305 bt308.1, 0, 0, bt308.2)) else (none)) else (none))))) else (some (bt295.1, bt295.2.1, bt295.2.2.1, bt295.2.2.2.1, bt301.2)))) := by
  refine LimIs.unique (spec_l20Any.fL_is s0_0 s0_1 a1) ?_
  unfold spec_l20Any.f
  repeat' with_reducible first | exact LimIs.const _ | exact spec_l20Cmd.fL_is .. | exact spec_l20Key.fL_is .. | exact spec_l20Rd_pick.fL_is .. | refine LimIs.ite ?_ ?_ | refine LimIs.bind ?_ (fun _ => ?_)
/-! ### spec_l20Results -/
noncomputable def spec_l20Results.l0L (x1 : Int) (x5 : List (S32)) (x6 : List (S181)) (x7 x8 : Int) (x1000 : List Int) (x1001 : Int) : Option ((List (S32)) × Int) := Lim (fun k => spec_l20Results.l0 k x1 x5 x6 x7 x8 x1000 x1001)
theorem spec_l20Results.l0L_is (x1 : Int) (x5 : List (S32)) (x6 : List (S181)) (x7 x8 : Int) (x1000 : List Int) (x1001 : Int) : LimIs (fun k => spec_l20Results.l0 k x1 x5 x6 x7 x8 x1000 x1001) (spec_l20Results.l0L x1 x5 x6 x7 x8 x1000 x1001) := LimIs.of_mono (fun k r h => (spec_l20Results.mono_l k).1 x1 x5 x6 x7 x8 x1000 x1001 r h)
noncomputable def spec_l20Results.j1L (x1 : Int) (x5 : List (S32)) (x68 : Bool) (x1000 : List Int) (x1001 : Int) : Option ((List (S32)) × Int) := Lim (fun k => spec_l20Results.j1 k x1 x5 x68 x1000 x1001)
theorem spec_l20Results.j1L_is (x1 : Int) (x5 : List (S32)) (x68 : Bool) (x1000 : List Int) (x1001 : Int) : LimIs (fun k => spec_l20Results.j1 k x1 x5 x68 x1000 x1001) (spec_l20Results.j1L x1 x5 x68 x1000 x1001) := LimIs.of_mono (fun k r h => (spec_l20Results.mono_l k).2.1 x1 x5 x68 x1000 x1001 r h)
noncomputable def spec_l20Results.j2L (x1 : Int) (x5 : List (S32)) (x1000 : List Int) (x1001 : Int) : Option ((List (S32)) × Int) := Lim (fun k => spec_l20Results.j2 k x1 x5 x1000 x1001)
theorem spec_l20Results.j2L_is (x1 : Int) (x5 : List (S32)) (x1000 : List Int) (x1001 : Int) : LimIs (fun k => spec_l20Results.j2 k x1 x5 x1000 x1001) (spec_l20Results.j2L x1 x5 x1000 x1001) := LimIs.of_mono (fun k r h => (spec_l20Results.mono_l k).2.2.1 x1 x5 x1000 x1001 r h)
noncomputable def spec_l20Results.j3L (x1 : Int) (x5 : List (S32)) (x93 : Bool) (x1000 : List Int) (x1001 : Int) : Option ((List (S32)) × Int) := Lim (fun k => spec_l20Results.j3 k x1 x5 x93 x1000 x1001)
theorem spec_l20Results.j3L_is (x1 : Int) (x5 : List (S32)) (x93 : Bool) (x1000 : List Int) (x1001 : Int) : LimIs (fun k => spec_l20Results.j3 k x1 x5 x93 x1000 x1001) (spec_l20Results.j3L x1 x5 x93 x1000 x1001) := LimIs.of_mono (fun k r h => (spec_l20Results.mono_l k).2.2.2.1 x1 x5 x93 x1000 x1001 r h)
noncomputable def spec_l20Results.j4L (x1 : Int) (x5 : List (S32)) (x1000 : List Int) (x1001 : Int) : Option ((List (S32)) × Int) := Lim (fun k => spec_l20Results.j4 k x1 x5 x1000 x1001)
theorem spec_l20Results.j4L_is (x1 : Int) (x5 : List (S32)) (x1000 : List Int) (x1001 : Int) : LimIs (fun k => spec_l20Results.j4 k x1 x5 x1000 x1001) (spec_l20Results.j4L x1 x5 x1000 x1001) := LimIs.of_mono (fun k r h => (spec_l20Results.mono_l k).2.2.2.2 x1 x5 x1000 x1001 r h)
noncomputable def spec_l20Results.fL (s0_0 : List Int) (s0_1 a1 : Int) : Option ((List (S32)) × Int) := Lim (fun k => spec_l20Results.f k s0_0 s0_1 a1)
theorem spec_l20Results.fL_is (s0_0 : List Int) (s0_1 a1 : Int) : LimIs (fun k => spec_l20Results.f k s0_0 s0_1 a1) (spec_l20Results.fL s0_0 s0_1 a1) := LimIs.of_mono (fun k r h => spec_l20Results.mono s0_0 s0_1 a1 k r h)
theorem spec_l20Results.l0L_eq (x1 : Int) (x5 : List (S32)) (x6 : List (S181)) (x7 x8 : Int) (x1000 : List Int) (x1001 : Int) : spec_l20Results.l0L x1 x5 x6 x7 x8 x1000 x1001 = if x8 > 0 then ((spec_l20Cmd.fL x1000 x1001 0).bind fun bt319 => ((some (([(⟨#[98]⟩ : ByteArray), (⟨#[99]⟩ : ByteArray)] : List ByteArray) : List ByteArray)).bind fun y325 => ((spec_l20Rd_pick.fL x1000 bt319.2.2.2.2 4).bind fun bt328 => (if 0 ≤ (wrap64 (Int.tdiv bt328.1 3)) then (if (wrap64 (Int.tdiv bt328.1 3)) < (y325.length : Int) then ((spec_ApplyCommand.fL x6 bt319.1 (rdOf ByteArray.empty y325 (wrap64 (Int.tdiv bt328.1 3))) bt319.2.2.1 bt319.2.2.2.1).bind fun bt331 => ((spec_l20Rd_pick.fL x1000 bt328.2 4).bind fun bt335 => ((spec_l20Rd_pick.fL x1000 bt335.2 3).bind fun bt337 => ((spec_l20Rd_pick.fL x1000 bt337.2 4).bind fun bt339 => (if x5.length < 1759218604441 then (spec_l20Results.l0L x1 (x5 ++ [(⟨wrap64 (1 + bt337.1), x8, (⟨bt319.1, rdOf ByteArray.empty y325 (wrap64 (Int.tdiv bt328.1 3)), bt319.2.2.1, bt319.2.2.2.1⟩ : S30), bt331.2, mx 0 (wrap64 (x7 - bt335.1)), wrap64 (x7 + bt339.1)⟩ : S32)]) bt331.1 (wrap64 (x7 + 1)) (wrap64 (x8 - 1)) x1000 bt339.2) else (none)))))) else (none)) else (none))))) else (if (x5.length : Int) > 1 then ((spec_l20Rd_pick.fL x1000 x1001 2).bind fun bt344 => (spec_l20Results.j1L x1 x5 (bt344.1 == 0) x1000 bt344.2)) else (spec_l20Results.j1L x1 x5 false x1000 x1001)) := by
  refine LimIs.unique (spec_l20Results.l0L_is x1 x5 x6 x7 x8 x1000 x1001) (LimIs.step1 (by simp only [spec_l20Results.l0]) ?_)
  simp only [spec_l20Results.l0]
  repeat' with_reducible first | exact LimIs.const _ | exact spec_ApplyCommand.fL_is .. | exact spec_l20Cmd.fL_is .. | exact spec_l20Rd_pick.fL_is .. | exact spec_l20Results.j1L_is .. | exact spec_l20Results.l0L_is .. | refine LimIs.ite ?_ ?_ | refine LimIs.bind ?_ (fun _ => ?_)
theorem spec_l20Results.j1L_eq (x1 : Int) (x5 : List (S32)) (x68 : Bool) (x1000 : List Int) (x1001 : Int) : spec_l20Results.j1L x1 x5 x68 x1000 x1001 = if x68 = true then ((spec_l20Rd_pick.fL x1000 x1001 (x5.length : Int)).bind fun bt346 => (if 0 < (x5.length : Int) then (if 0 ≤ bt346.1 then (if bt346.1 < (x5.length : Int) then (spec_l20Results.j2L x1 ((x5.set (0 : Int).toNat (⟨(rd_T32 x5 bt346.1).f0, (rd_T32 x5 bt346.1).f1, (⟨(rd_T32 x5 bt346.1).f2.f0, (rd_T32 x5 bt346.1).f2.f1, (rd_T32 x5 bt346.1).f2.f2, (rd_T32 x5 bt346.1).f2.f3⟩ : S30), (rd_T32 x5 bt346.1).f3, (rd_T32 x5 bt346.1).f4, (rd_T32 x5 bt346.1).f5⟩ : S32)).set (bt346.1 : Int).toNat (⟨(rd_T32 x5 0).f0, (rd_T32 x5 0).f1, (⟨(rd_T32 x5 0).f2.f0, (rd_T32 x5 0).f2.f1, (rd_T32 x5 0).f2.f2, (rd_T32 x5 0).f2.f3⟩ : S30), (rd_T32 x5 0).f3, (rd_T32 x5 0).f4, (rd_T32 x5 0).f5⟩ : S32)) x1000 bt346.2) else (none)) else (none)) else (none))) else (spec_l20Results.j2L x1 x5 x1000 x1001) := by
  refine LimIs.unique (spec_l20Results.j1L_is x1 x5 x68 x1000 x1001) (LimIs.step1 (by simp only [spec_l20Results.j1]) ?_)
  simp only [spec_l20Results.j1]
  repeat' with_reducible first | exact LimIs.const _ | exact spec_l20Rd_pick.fL_is .. | exact spec_l20Results.j2L_is .. | refine LimIs.ite ?_ ?_ | refine LimIs.bind ?_ (fun _ => ?_)
theorem spec_l20Results.j2L_eq (x1 : Int) (x5 : List (S32)) (x1000 : List Int) (x1001 : Int) : spec_l20Results.j2L x1 x5 x1000 x1001 = if (x5.length : Int) > 0 then ((spec_l20Rd_pick.fL x1000 x1001 4).bind fun bt353 => (spec_l20Results.j3L x1 x5 (bt353.1 == 0) x1000 bt353.2)) else (spec_l20Results.j3L x1 x5 false x1000 x1001) := by
  refine LimIs.unique (spec_l20Results.j2L_is x1 x5 x1000 x1001) (LimIs.step1 (by simp only [spec_l20Results.j2]) ?_)
  simp only [spec_l20Results.j2]
  repeat' with_reducible first | exact LimIs.const _ | exact spec_l20Rd_pick.fL_is .. | exact spec_l20Results.j3L_is .. | refine LimIs.ite ?_ ?_ | refine LimIs.bind ?_ (fun _ => ?_)
theorem spec_l20Results.j3L_eq (x1 : Int) (x5 : List (S32)) (x93 : Bool) (x1000 : List Int) (x1001 : Int) : spec_l20Results.j3L x1 x5 x93 x1000 x1001 = if x93 = true then ((spec_l20Rd_pick.fL x1000 x1001 (x5.length : Int)).bind fun bt355 => ((spec_l20Reply.fL x1000 bt355.2 0).bind fun bt357 => (if 0 ≤ bt355.1 then (if bt355.1 < (x5.length : Int) then (spec_l20Results.j4L x1 (x5.set (bt355.1 : Int).toNat (⟨(rd_T32 x5 bt355.1).f0, (rd_T32 x5 bt355.1).f1, (⟨(rd_T32 x5 bt355.1).f2.f0, (rd_T32 x5 bt355.1).f2.f1, (rd_T32 x5 bt355.1).f2.f2, (rd_T32 x5 bt355.1).f2.f3⟩ : S30), bt357.1, (rd_T32 x5 bt355.1).f4, (rd_T32 x5 bt355.1).f5⟩ : S32)) x1000 bt357.2) else (none)) else (none)))) else (spec_l20Results.j4L x1 x5 x1000 x1001) := by
  refine LimIs.unique (spec_l20Results.j3L_is x1 x5 x93 x1000 x1001) (LimIs.step1 (by simp only [spec_l20Results.j3]) ?_)
  simp only [spec_l20Results.j3]
  repeat' with_reducible first | exact LimIs.const _ | exact spec_l20Rd_pick.fL_is .. | exact spec_l20Reply.fL_is .. | exact spec_l20Results.j4L_is .. | refine LimIs.ite ?_ ?_ | refine LimIs.bind ?_ (fun _ => ?_)
theorem spec_l20Results.j4L_eq (x1 : Int) (x5 : List (S32)) (x1000 : List Int) (x1001 : Int) : spec_l20Results.j4L x1 x5 x1000 x1001 = (spec_l20Rd_odd.fL x1000 x1001 x1).bind fun bt360 => (if bt360.1 = true then ((spec_l20Rd_pick.fL x1000 bt360.2 4).bind fun bt362 => ((spec_l20Any.fL x1000 bt362.2 0).bind fun bt364 => ((spec_l20Rd_pick.fL x1000 bt364.2.2.2.2 2).bind fun bt369 => (if x5.length < 1759218604441 then (some ((x5 ++ [(⟨bt362.1, 1, (⟨bt364.1, bt364.2.1, bt364.2.2.1, bt364.2.2.2.1⟩ : S30), 0, bt369.1, 0⟩ : S32)]), bt369.2)) else (none))))) else (some (x5, bt360.2))) := by
  refine LimIs.unique (spec_l20Results.j4L_is x1 x5 x1000 x1001) (LimIs.step1 (by simp only [spec_l20Results.j4]) ?_)
  simp only [spec_l20Results.j4]
  repeat' with_reducible first | exact LimIs.const _ | exact spec_l20Any.fL_is .. | exact spec_l20Rd_odd.fL_is .. | exact spec_l20Rd_pick.fL_is .. | refine LimIs.ite ?_ ?_ | refine LimIs.bind ?_ (fun _ => ?_)
theorem spec_l20Results.fL_eq (s0_0 : List Int) (s0_1 a1 : Int) : spec_l20Results.fL s0_0 s0_1 a1 = (spec_l20Rd_pick.fL s0_0 s0_1 6).bind fun bt317 => (spec_l20Results.l0L a1 (([] : List (S32))) (([] : List (S181))) 1 bt317.1 s0_0 bt317.2) := by
  refine LimIs.unique (spec_l20Results.fL_is s0_0 s0_1 a1) ?_
  unfold spec_l20Results.f
  repeat' with_reducible first | exact LimIs.const _ | exact spec_l20Rd_pick.fL_is .. | exact spec_l20Results.l0L_is .. | refine LimIs.ite ?_ ?_ | refine LimIs.bind ?_ (fun _ => ?_)
/-! ### spec_l20Order -/
noncomputable def spec_l20Order.l0L (x1 x2 : Int) (x7 : List Int) (x8 : Int) (x1000 : List Int) (x1001 : Int) : Option (List Int × Int) := Lim (fun k => spec_l20Order.l0 k x1 x2 x7 x8 x1000 x1001)
theorem spec_l20Order.l0L_is (x1 x2 : Int) (x7 : List Int) (x8 : Int) (x1000 : List Int) (x1001 : Int) : LimIs (fun k => spec_l20Order.l0 k x1 x2 x7 x8 x1000 x1001) (spec_l20Order.l0L x1 x2 x7 x8 x1000 x1001) := LimIs.of_mono (fun k r h => (spec_l20Order.mono_l k).1 x1 x2 x7 x8 x1000 x1001 r h)
noncomputable def spec_l20Order.l1L (x1 x2 : Int) (x7 : List Int) (x9 : Int) (x1000 : List Int) (x1001 : Int) : Option (List Int × Int) := Lim (fun k => spec_l20Order.l1 k x1 x2 x7 x9 x1000 x1001)
theorem spec_l20Order.l1L_is (x1 x2 : Int) (x7 : List Int) (x9 : Int) (x1000 : List Int) (x1001 : Int) : LimIs (fun k => spec_l20Order.l1 k x1 x2 x7 x9 x1000 x1001) (spec_l20Order.l1L x1 x2 x7 x9 x1000 x1001) := LimIs.of_mono (fun k r h => (spec_l20Order.mono_l k).2 x1 x2 x7 x9 x1000 x1001 r h)
noncomputable def spec_l20Order.fL (s0_0 : List Int) (s0_1 a1 a2 : Int) : Option (List Int × Int) := Lim (fun k => spec_l20Order.f k s0_0 s0_1 a1 a2)
theorem spec_l20Order.fL_is (s0_0 : List Int) (s0_1 a1 a2 : Int) : LimIs (fun k => spec_l20Order.f k s0_0 s0_1 a1 a2) (spec_l20Order.fL s0_0 s0_1 a1 a2) := LimIs.of_mono (fun k r h => spec_l20Order.mono s0_0 s0_1 a1 a2 k r h)
theorem spec_l20Order.l0L_eq (x1 x2 : Int) (x7 : List Int) (x8 : Int) (x1000 : List Int) (x1001 : Int) : spec_l20Order.l0L x1 x2 x7 x8 x1000 x1001 = if x8 < x1 then (if x7.length < 17592186044416 then (spec_l20Order.l0L x1 x2 (x7 ++ [x8]) (wrap64 (x8 + 1)) x1000 x1001) else (none)) else (spec_l20Order.l1L x1 x2 x7 0 x1000 x1001) := by
  refine LimIs.unique (spec_l20Order.l0L_is x1 x2 x7 x8 x1000 x1001) (LimIs.step1 (by simp only [spec_l20Order.l0]) ?_)
  simp only [spec_l20Order.l0]
  repeat' with_reducible first | exact LimIs.const _ | exact spec_l20Order.l0L_is .. | exact spec_l20Order.l1L_is .. | refine LimIs.ite ?_ ?_ | refine LimIs.bind ?_ (fun _ => ?_)
theorem spec_l20Order.l1L_eq (x1 x2 : Int) (x7 : List Int) (x9 : Int) (x1000 : List Int) (x1001 : Int) : spec_l20Order.l1L x1 x2 x7 x9 x1000 x1001 = if x9 < x1 then ((spec_l20Rd_pick.fL x1000 x1001 x1).bind fun bt380 => (if 0 ≤ x9 then (if x9 < (x7.length : Int) then (if 0 ≤ bt380.1 then (if bt380.1 < (x7.length : Int) then (spec_l20Order.l1L x1 x2 ((x7.set (x9 : Int).toNat (rd x7 bt380.1)).set (bt380.1 : Int).toNat (rd x7 x9)) (wrap64 (x9 + 1)) x1000 bt380.2) else (none)) else (none)) else (none)) else (none))) else ((spec_l20Rd_odd.fL x1000 x1001 x2).bind fun bt386 => (if bt386.1 = true then ((some (([0, (-1), x1] : List Int) : List Int)).bind fun y388 => ((spec_l20Rd_pick.fL x1000 bt386.2 3).bind fun bt391 => (if 0 ≤ bt391.1 then (if bt391.1 < (y388.length : Int) then (if x7.length < 17592186044416 then (some ((x7 ++ [rd y388 bt391.1]), bt391.2)) else (none)) else (none)) else (none)))) else (some (x7, bt386.2)))) := by
  refine LimIs.unique (spec_l20Order.l1L_is x1 x2 x7 x9 x1000 x1001) (LimIs.step1 (by simp only [spec_l20Order.l1]) ?_)
  simp only [spec_l20Order.l1]
  repeat' with_reducible first | exact LimIs.const _ | exact spec_l20Order.l1L_is .. | exact spec_l20Rd_odd.fL_is .. | exact spec_l20Rd_pick.fL_is .. | refine LimIs.ite ?_ ?_ | refine LimIs.bind ?_ (fun _ => ?_)
theorem spec_l20Order.fL_eq (s0_0 : List Int) (s0_1 a1 a2 : Int) : spec_l20Order.fL s0_0 s0_1 a1 a2 = spec_l20Order.l0L a1 a2 (([] : List Int)) 0 s0_0 s0_1 := by
  refine LimIs.unique (spec_l20Order.fL_is s0_0 s0_1 a1 a2) ?_
  unfold spec_l20Order.f
  repeat' with_reducible first | exact LimIs.const _ | exact spec_l20Order.l0L_is .. | refine LimIs.ite ?_ ?_ | refine LimIs.bind ?_ (fun _ => ?_)
/-! ### spec_DrawRealTime -/
noncomputable def spec_DrawRealTime.l0L (x5 : List (S32)) (x6 : List Int) (x7 : Int) : Option ((List (S32)) × List Int) := Lim (fun k => spec_DrawRealTime.l0 k x5 x6 x7)
theorem spec_DrawRealTime.l0L_is (x5 : List (S32)) (x6 : List Int) (x7 : Int) : LimIs (fun k => spec_DrawRealTime.l0 k x5 x6 x7) (spec_DrawRealTime.l0L x5 x6 x7) := LimIs.of_mono (fun k r h => (spec_DrawRealTime.mono_l k) x5 x6 x7 r h)
noncomputable def spec_DrawRealTime.fL (l0 : List Int) : Option ((List (S32)) × List Int) := Lim (fun k => spec_DrawRealTime.f k l0)
theorem spec_DrawRealTime.fL_is (l0 : List Int) : LimIs (fun k => spec_DrawRealTime.f k l0) (spec_DrawRealTime.fL l0) := LimIs.of_mono (fun k r h => spec_DrawRealTime.mono l0 k r h)
theorem spec_DrawRealTime.l0L_eq (x5 : List (S32)) (x6 : List Int) (x7 : Int) : spec_DrawRealTime.l0L x5 x6 x7 = if x7 < (x5.length : Int) then (if x6.length < 17592186044416 then (spec_DrawRealTime.l0L x5 (x6 ++ [x7]) (wrap64 (x7 + 1))) else (none)) else (some (x5, x6)) := by
  refine LimIs.unique (spec_DrawRealTime.l0L_is x5 x6 x7) (LimIs.step1 (by simp only [spec_DrawRealTime.l0]) ?_)
  simp only [spec_DrawRealTime.l0]
  repeat' with_reducible first | exact LimIs.const _ | exact spec_DrawRealTime.l0L_is .. | refine LimIs.ite ?_ ?_ | refine LimIs.bind ?_ (fun _ => ?_)
theorem spec_DrawRealTime.fL_eq (l0 : List Int) : spec_DrawRealTime.fL l0 = (spec_l20Open.f l0).bind fun bt397 => ((spec_l20Results.fL bt397.1 bt397.2 12).bind fun bt400 => ((spec_l20Rd_pick.fL bt397.1 bt400.2 3).bind fun bt404 => (if bt404.1 = 0 then (spec_DrawRealTime.l0L bt400.1 (([] : List Int)) 0) else ((spec_l20Order.fL bt397.1 bt404.2 (bt400.1.length : Int) 12).bind fun bt412 => (some (bt400.1, bt412.1)))))) := by
  refine LimIs.unique (spec_DrawRealTime.fL_is l0) ?_
  unfold spec_DrawRealTime.f
  repeat' with_reducible first | exact LimIs.const _ | exact spec_DrawRealTime.l0L_is .. | exact spec_l20Order.fL_is .. | exact spec_l20Rd_pick.fL_is .. | exact spec_l20Results.fL_is .. | refine LimIs.ite ?_ ?_ | refine LimIs.bind ?_ (fun _ => ?_)
/-! ### spec_DrawRepliesRight -/
noncomputable def spec_DrawRepliesRight.fL (l0 : List Int) : Option ((List (S32)) × List Int) := Lim (fun k => spec_DrawRepliesRight.f k l0)
theorem spec_DrawRepliesRight.fL_is (l0 : List Int) : LimIs (fun k => spec_DrawRepliesRight.f k l0) (spec_DrawRepliesRight.fL l0) := LimIs.of_mono (fun k r h => spec_DrawRepliesRight.mono l0 k r h)
theorem spec_DrawRepliesRight.fL_eq (l0 : List Int) : spec_DrawRepliesRight.fL l0 = (spec_DrawRealTime.fL l0).bind fun bt416 => (some (bt416.1, bt416.2)) := by
  refine LimIs.unique (spec_DrawRepliesRight.fL_is l0) ?_
  unfold spec_DrawRepliesRight.f
  repeat' with_reducible first | exact LimIs.const _ | exact spec_DrawRealTime.fL_is .. | refine LimIs.ite ?_ ?_ | refine LimIs.bind ?_ (fun _ => ?_)
/-! ### impl_lettersOnly -/
noncomputable def impl_lettersOnly.fL (a0 : ByteArray) : Option (Bool) := Lim (fun k => impl_lettersOnly.f k a0)
theorem impl_lettersOnly.fL_is (a0 : ByteArray) : LimIs (fun k => impl_lettersOnly.f k a0) (impl_lettersOnly.fL a0) := LimIs.of_mono (fun k r h => impl_lettersOnly.mono a0 k r h)
theorem impl_lettersOnly.fL_eq (a0 : ByteArray) : impl_lettersOnly.fL a0 = if a0.toList = ([] : List UInt8) then (some true) else (if 0 < (a0.size : Int) then (if (bt a0 0) ≥ 97 then (if (bt a0 0) ≤ 122 then (if 1 ≤ (a0.size : Int) then ((impl_lettersOnly.fL (a0.extract 1 a0.size)).bind fun t422 => (some t422)) else (none)) else (some false)) else (some false)) else (none)) := by
  refine LimIs.unique (impl_lettersOnly.fL_is a0) (LimIs.step1 (by simp only [impl_lettersOnly.f]) ?_)
  simp only [impl_lettersOnly.f]
  repeat' with_reducible first | exact LimIs.const _ | exact impl_lettersOnly.fL_is .. | refine LimIs.ite ?_ ?_ | refine LimIs.bind ?_ (fun _ => ?_)
/-! ### impl_KeyValid -/
noncomputable def impl_KeyValid.fL (a0 : ByteArray) : Option (Bool) := Lim (fun k => impl_KeyValid.f k a0)
theorem impl_KeyValid.fL_is (a0 : ByteArray) : LimIs (fun k => impl_KeyValid.f k a0) (impl_KeyValid.fL a0) := LimIs.of_mono (fun k r h => impl_KeyValid.mono a0 k r h)
theorem impl_KeyValid.fL_eq (a0 : ByteArray) : impl_KeyValid.fL a0 = if (a0.size : Int) < 1 then (some false) else (if (a0.size : Int) > 4 then (some false) else ((impl_lettersOnly.fL a0).bind fun t423 => (some t423))) := by
  refine LimIs.unique (impl_KeyValid.fL_is a0) ?_
  unfold impl_KeyValid.f
  repeat' with_reducible first | exact LimIs.const _ | exact impl_lettersOnly.fL_is .. | refine LimIs.ite ?_ ?_ | refine LimIs.bind ?_ (fun _ => ?_)
/-! ### impl_CommandValid -/
noncomputable def impl_CommandValid.j0L (x10 : Bool) (x425000 : Int) (x425001 : ByteArray) (x425002 x425003 : Int) : Option (Bool) := Lim (fun k => impl_CommandValid.j0 k x10 x425000 x425001 x425002 x425003)
theorem impl_CommandValid.j0L_is (x10 : Bool) (x425000 : Int) (x425001 : ByteArray) (x425002 x425003 : Int) : LimIs (fun k => impl_CommandValid.j0 k x10 x425000 x425001 x425002 x425003) (impl_CommandValid.j0L x10 x425000 x425001 x425002 x425003) := LimIs.of_mono (fun k r h => (impl_CommandValid.mono_l k).1 x10 x425000 x425001 x425002 x425003 r h)
noncomputable def impl_CommandValid.j1L (x24 : Bool) (x425000 : Int) (x425001 : ByteArray) (x425002 x425003 : Int) : Option (Bool) := Lim (fun k => impl_CommandValid.j1 k x24 x425000 x425001 x425002 x425003)
theorem impl_CommandValid.j1L_is (x24 : Bool) (x425000 : Int) (x425001 : ByteArray) (x425002 x425003 : Int) : LimIs (fun k => impl_CommandValid.j1 k x24 x425000 x425001 x425002 x425003) (impl_CommandValid.j1L x24 x425000 x425001 x425002 x425003) := LimIs.of_mono (fun k r h => (impl_CommandValid.mono_l k).2 x24 x425000 x425001 x425002 x425003 r h)
noncomputable def impl_CommandValid.fL (a0_0 : Int) (a0_1 : ByteArray) (a0_2 a0_3 : Int) : Option (Bool) := Lim (fun k => impl_CommandValid.f k a0_0 a0_1 a0_2 a0_3)
theorem impl_CommandValid.fL_is (a0_0 : Int) (a0_1 : ByteArray) (a0_2 a0_3 : Int) : LimIs (fun k => impl_CommandValid.f k a0_0 a0_1 a0_2 a0_3) (impl_CommandValid.fL a0_0 a0_1 a0_2 a0_3) := LimIs.of_mono (fun k r h => impl_CommandValid.mono a0_0 a0_1 a0_2 a0_3 k r h)
theorem impl_CommandValid.j0L_eq (x10 : Bool) (x425000 : Int) (x425001 : ByteArray) (x425002 x425003 : Int) : impl_CommandValid.j0L x10 x425000 x425001 x425002 x425003 = if x10 = true then (some false) else ((impl_KeyValid.fL x425001).bind fun t425 => (if t425 = true then (impl_CommandValid.j1L false x425000 x425001 x425002 x425003) else (if x425000 = 5 then (impl_CommandValid.j1L (x425001.toList != ([] : List UInt8)) x425000 x425001 x425002 x425003) else (impl_CommandValid.j1L true x425000 x425001 x425002 x425003)))) := by
  refine LimIs.unique (impl_CommandValid.j0L_is x10 x425000 x425001 x425002 x425003) (LimIs.step1 (by simp only [impl_CommandValid.j0]) ?_)
  simp only [impl_CommandValid.j0]
  repeat' with_reducible first | exact LimIs.const _ | exact impl_CommandValid.j1L_is .. | exact impl_KeyValid.fL_is .. | refine LimIs.ite ?_ ?_ | refine LimIs.bind ?_ (fun _ => ?_)
theorem impl_CommandValid.j1L_eq (x24 : Bool) (x425000 : Int) (x425001 : ByteArray) (x425002 x425003 : Int) : impl_CommandValid.j1L x24 x425000 x425001 x425002 x425003 = if x24 = true then (some false) else (if x425000 = 2 then ((impl_valueValid.f x425002).bind fun t426 => (if t426 = true then (some (x425003 == 0)) else (some false))) else (if x425000 = 4 then ((impl_valueValid.f x425002).bind fun t427 => (if t427 = true then (if x425003 = (-1) then (some true) else ((impl_valueValid.f x425003).bind fun t428 => (some t428))) else (some false))) else (if x425002 = 0 then (some (x425003 == 0)) else (some false)))) := by
  refine LimIs.unique (impl_CommandValid.j1L_is x24 x425000 x425001 x425002 x425003) (LimIs.step1 (by simp only [impl_CommandValid.j1]) ?_)
  simp only [impl_CommandValid.j1]
  repeat' with_reducible first | exact LimIs.const _ | refine LimIs.ite ?_ ?_ | refine LimIs.bind ?_ (fun _ => ?_)
theorem impl_CommandValid.fL_eq (a0_0 : Int) (a0_1 : ByteArray) (a0_2 a0_3 : Int) : impl_CommandValid.fL a0_0 a0_1 a0_2 a0_3 = if a0_0 < 1 then (impl_CommandValid.j0L true a0_0 a0_1 a0_2 a0_3) else (impl_CommandValid.j0L (decide (a0_0 > 5)) a0_0 a0_1 a0_2 a0_3) := by
  refine LimIs.unique (impl_CommandValid.fL_is a0_0 a0_1 a0_2 a0_3) ?_
  unfold impl_CommandValid.f
  repeat' with_reducible first | exact LimIs.const _ | exact impl_CommandValid.j0L_is .. | refine LimIs.ite ?_ ?_ | refine LimIs.bind ?_ (fun _ => ?_)
/-! ### impl_wishValid -/
noncomputable def impl_wishValid.fL (a0_0 : Int) (a0_1 : ByteArray) (a0_2 a0_3 : Int) : Option (Bool) := Lim (fun k => impl_wishValid.f k a0_0 a0_1 a0_2 a0_3)
theorem impl_wishValid.fL_is (a0_0 : Int) (a0_1 : ByteArray) (a0_2 a0_3 : Int) : LimIs (fun k => impl_wishValid.f k a0_0 a0_1 a0_2 a0_3) (impl_wishValid.fL a0_0 a0_1 a0_2 a0_3) := LimIs.of_mono (fun k r h => impl_wishValid.mono a0_0 a0_1 a0_2 a0_3 k r h)
theorem impl_wishValid.fL_eq (a0_0 : Int) (a0_1 : ByteArray) (a0_2 a0_3 : Int) : impl_wishValid.fL a0_0 a0_1 a0_2 a0_3 = (impl_CommandValid.fL a0_0 a0_1 a0_2 a0_3).bind fun t430 => (if t430 = true then (some (a0_0 != 5)) else (some false)) := by
  refine LimIs.unique (impl_wishValid.fL_is a0_0 a0_1 a0_2 a0_3) ?_
  unfold impl_wishValid.f
  repeat' with_reducible first | exact LimIs.const _ | exact impl_CommandValid.fL_is .. | refine LimIs.ite ?_ ?_ | refine LimIs.bind ?_ (fun _ => ?_)
/-! ### impl_ResultValid -/
noncomputable def impl_ResultValid.fL (a0_0 a0_1 a0_2 : Int) (a0_3 : ByteArray) (a0_4 a0_5 a0_6 a0_7 a0_8 : Int) : Option (Bool) := Lim (fun k => impl_ResultValid.f k a0_0 a0_1 a0_2 a0_3 a0_4 a0_5 a0_6 a0_7 a0_8)
theorem impl_ResultValid.fL_is (a0_0 a0_1 a0_2 : Int) (a0_3 : ByteArray) (a0_4 a0_5 a0_6 a0_7 a0_8 : Int) : LimIs (fun k => impl_ResultValid.f k a0_0 a0_1 a0_2 a0_3 a0_4 a0_5 a0_6 a0_7 a0_8) (impl_ResultValid.fL a0_0 a0_1 a0_2 a0_3 a0_4 a0_5 a0_6 a0_7 a0_8) := LimIs.of_mono (fun k r h => impl_ResultValid.mono a0_0 a0_1 a0_2 a0_3 a0_4 a0_5 a0_6 a0_7 a0_8 k r h)
theorem impl_ResultValid.fL_eq (a0_0 a0_1 a0_2 : Int) (a0_3 : ByteArray) (a0_4 a0_5 a0_6 a0_7 a0_8 : Int) : impl_ResultValid.fL a0_0 a0_1 a0_2 a0_3 a0_4 a0_5 a0_6 a0_7 a0_8 = (impl_clientNumber.f a0_0).bind fun t432 => (if t432 = true then ((impl_seqValid.f a0_1).bind fun t433 => (if t433 = true then ((impl_wishValid.fL a0_2 a0_3 a0_4 a0_5).bind fun t434 => (if t434 = true then ((impl_replyValid.f a0_6).bind fun t435 => (if t435 = true then ((impl_timeValid.f a0_8).bind fun t436 => (if t436 = true then (if a0_7 ≥ 0 then (some (decide (a0_7 ≤ a0_8))) else (some false)) else (some false))) else (some false))) else (some false))) else (some false))) else (some false)) := by
  refine LimIs.unique (impl_ResultValid.fL_is a0_0 a0_1 a0_2 a0_3 a0_4 a0_5 a0_6 a0_7 a0_8) ?_
  unfold impl_ResultValid.f
  repeat' with_reducible first | exact LimIs.const _ | exact impl_wishValid.fL_is .. | refine LimIs.ite ?_ ?_ | refine LimIs.bind ?_ (fun _ => ?_)
/-! ### impl_resultsValid -/
noncomputable def impl_resultsValid.l0L (x8 : List (S32)) (x9 x10 : Int) : Option (Bool) := Lim (fun k => impl_resultsValid.l0 k x8 x9 x10)
theorem impl_resultsValid.l0L_is (x8 : List (S32)) (x9 x10 : Int) : LimIs (fun k => impl_resultsValid.l0 k x8 x9 x10) (impl_resultsValid.l0L x8 x9 x10) := LimIs.of_mono (fun k r h => (impl_resultsValid.mono_l k) x8 x9 x10 r h)
noncomputable def impl_resultsValid.fL (l0 : List (S32)) : Option (Bool) := Lim (fun k => impl_resultsValid.f k l0)
theorem impl_resultsValid.fL_is (l0 : List (S32)) : LimIs (fun k => impl_resultsValid.f k l0) (impl_resultsValid.fL l0) := LimIs.of_mono (fun k r h => impl_resultsValid.mono l0 k r h)
theorem impl_resultsValid.l0L_eq (x8 : List (S32)) (x9 x10 : Int) : impl_resultsValid.l0L x8 x9 x10 = if x10 < x9 then (if 0 ≤ x10 then (if x10 < (x8.length : Int) then ((impl_ResultValid.fL ((rd_T32 x8 x10).f0) ((rd_T32 x8 x10).f1) ((rd_T32 x8 x10).f2.f0) ((rd_T32 x8 x10).f2.f1) ((rd_T32 x8 x10).f2.f2) ((rd_T32 x8 x10).f2.f3) ((rd_T32 x8 x10).f3) ((rd_T32 x8 x10).f4) ((rd_T32 x8 x10).f5)).bind fun t439 => (if t439 = true then (impl_resultsValid.l0L x8 x9 (wrap64 (x10 + 1))) else (some false))) else (none)) else (none)) else (some true) := by
  refine LimIs.unique (impl_resultsValid.l0L_is x8 x9 x10) (LimIs.step1 (by simp only [impl_resultsValid.l0]) ?_)
  simp only [impl_resultsValid.l0]
  repeat' with_reducible first | exact LimIs.const _ | exact impl_ResultValid.fL_is .. | exact impl_resultsValid.l0L_is .. | refine LimIs.ite ?_ ?_ | refine LimIs.bind ?_ (fun _ => ?_)
theorem impl_resultsValid.fL_eq (l0 : List (S32)) : impl_resultsValid.fL l0 = if (l0.length : Int) > 5 then (some false) else (impl_resultsValid.l0L l0 (l0.length : Int) 0) := by
  refine LimIs.unique (impl_resultsValid.fL_is l0) ?_
  unfold impl_resultsValid.f
  repeat' with_reducible first | exact LimIs.const _ | exact impl_resultsValid.l0L_is .. | refine LimIs.ite ?_ ?_ | refine LimIs.bind ?_ (fun _ => ?_)
/-! ### slices_Index_int_int -/
noncomputable def slices_Index_int_int.l0L (x0 : List Int) (x1 x7 x8 : Int) : Option (Int) := Lim (fun k => slices_Index_int_int.l0 k x0 x1 x7 x8)
theorem slices_Index_int_int.l0L_is (x0 : List Int) (x1 x7 x8 : Int) : LimIs (fun k => slices_Index_int_int.l0 k x0 x1 x7 x8) (slices_Index_int_int.l0L x0 x1 x7 x8) := LimIs.of_mono (fun k r h => (slices_Index_int_int.mono_l k) x0 x1 x7 x8 r h)
noncomputable def slices_Index_int_int.fL (l0 : List Int) (a1 : Int) : Option (Int) := Lim (fun k => slices_Index_int_int.f k l0 a1)
theorem slices_Index_int_int.fL_is (l0 : List Int) (a1 : Int) : LimIs (fun k => slices_Index_int_int.f k l0 a1) (slices_Index_int_int.fL l0 a1) := LimIs.of_mono (fun k r h => slices_Index_int_int.mono l0 a1 k r h)
theorem slices_Index_int_int.l0L_eq (x0 : List Int) (x1 x7 x8 : Int) : slices_Index_int_int.l0L x0 x1 x7 x8 = if x8 < x7 then (if 0 ≤ x8 then (if x8 < (x0.length : Int) then (if x1 = (rd x0 x8) then (some x8) else (slices_Index_int_int.l0L x0 x1 x7 (wrap64 (x8 + 1)))) else (none)) else (none)) else (some (-1)) := by
  refine LimIs.unique (slices_Index_int_int.l0L_is x0 x1 x7 x8) (LimIs.step1 (by simp only [slices_Index_int_int.l0]) ?_)
  simp only [slices_Index_int_int.l0]
  repeat' with_reducible first | exact LimIs.const _ | exact slices_Index_int_int.l0L_is .. | refine LimIs.ite ?_ ?_ | refine LimIs.bind ?_ (fun _ => ?_)
theorem slices_Index_int_int.fL_eq (l0 : List Int) (a1 : Int) : slices_Index_int_int.fL l0 a1 = slices_Index_int_int.l0L l0 a1 (l0.length : Int) 0 := by
  refine LimIs.unique (slices_Index_int_int.fL_is l0 a1) ?_
  unfold slices_Index_int_int.f
  repeat' with_reducible first | exact LimIs.const _ | exact slices_Index_int_int.l0L_is .. | refine LimIs.ite ?_ ?_ | refine LimIs.bind ?_ (fun _ => ?_)
/-! ### slices_Contains_int_int -/
noncomputable def slices_Contains_int_int.fL (l0 : List Int) (a1 : Int) : Option (Bool) := Lim (fun k => slices_Contains_int_int.f k l0 a1)
theorem slices_Contains_int_int.fL_is (l0 : List Int) (a1 : Int) : LimIs (fun k => slices_Contains_int_int.f k l0 a1) (slices_Contains_int_int.fL l0 a1) := LimIs.of_mono (fun k r h => slices_Contains_int_int.mono l0 a1 k r h)
theorem slices_Contains_int_int.fL_eq (l0 : List Int) (a1 : Int) : slices_Contains_int_int.fL l0 a1 = (slices_Index_int_int.fL l0 a1).bind fun t441 => (some (decide (t441 ≥ 0))) := by
  refine LimIs.unique (slices_Contains_int_int.fL_is l0 a1) ?_
  unfold slices_Contains_int_int.f
  repeat' with_reducible first | exact LimIs.const _ | exact slices_Index_int_int.fL_is .. | refine LimIs.ite ?_ ?_ | refine LimIs.bind ?_ (fun _ => ?_)
/-! ### impl_OrderValid -/
noncomputable def impl_OrderValid.j0L (x0 : Int) (x1 : List Int) (x15 : Bool) : Option (Bool) := Lim (fun k => impl_OrderValid.j0 k x0 x1 x15)
theorem impl_OrderValid.j0L_is (x0 : Int) (x1 : List Int) (x15 : Bool) : LimIs (fun k => impl_OrderValid.j0 k x0 x1 x15) (impl_OrderValid.j0L x0 x1 x15) := LimIs.of_mono (fun k r h => (impl_OrderValid.mono_l k).1 x0 x1 x15 r h)
noncomputable def impl_OrderValid.l0L (x0 : Int) (x1 x16 : List Int) (x17 x18 : Int) : Option (Bool) := Lim (fun k => impl_OrderValid.l0 k x0 x1 x16 x17 x18)
theorem impl_OrderValid.l0L_is (x0 : Int) (x1 x16 : List Int) (x17 x18 : Int) : LimIs (fun k => impl_OrderValid.l0 k x0 x1 x16 x17 x18) (impl_OrderValid.l0L x0 x1 x16 x17 x18) := LimIs.of_mono (fun k r h => (impl_OrderValid.mono_l k).2 x0 x1 x16 x17 x18 r h)
noncomputable def impl_OrderValid.fL (a0 : Int) (l1 : List Int) : Option (Bool) := Lim (fun k => impl_OrderValid.f k a0 l1)
theorem impl_OrderValid.fL_is (a0 : Int) (l1 : List Int) : LimIs (fun k => impl_OrderValid.f k a0 l1) (impl_OrderValid.fL a0 l1) := LimIs.of_mono (fun k r h => impl_OrderValid.mono a0 l1 k r h)
theorem impl_OrderValid.j0L_eq (x0 : Int) (x1 : List Int) (x15 : Bool) : impl_OrderValid.j0L x0 x1 x15 = if x15 = true then (some false) else (impl_OrderValid.l0L x0 x1 x1 (x1.length : Int) 0) := by
  refine LimIs.unique (impl_OrderValid.j0L_is x0 x1 x15) (LimIs.step1 (by simp only [impl_OrderValid.j0]) ?_)
  simp only [impl_OrderValid.j0]
  repeat' with_reducible first | exact LimIs.const _ | exact impl_OrderValid.l0L_is .. | refine LimIs.ite ?_ ?_ | refine LimIs.bind ?_ (fun _ => ?_)
theorem impl_OrderValid.l0L_eq (x0 : Int) (x1 x16 : List Int) (x17 x18 : Int) : impl_OrderValid.l0L x0 x1 x16 x17 x18 = if x18 < x17 then (if 0 ≤ x18 then (if x18 < (x16.length : Int) then (if (rd x16 x18) < 0 then (some false) else (if (rd x16 x18) ≥ x0 then (some false) else (if x18 ≤ (x1.length : Int) then ((slices_Contains_int_int.fL (x1.take (x18 : Int).toNat) (rd x16 x18)).bind fun t447 => (if t447 = true then (some false) else (impl_OrderValid.l0L x0 x1 x16 x17 (wrap64 (x18 + 1))))) else (none)))) else (none)) else (none)) else (some true) := by
  refine LimIs.unique (impl_OrderValid.l0L_is x0 x1 x16 x17 x18) (LimIs.step1 (by simp only [impl_OrderValid.l0]) ?_)
  simp only [impl_OrderValid.l0]
  repeat' with_reducible first | exact LimIs.const _ | exact impl_OrderValid.l0L_is .. | exact slices_Contains_int_int.fL_is .. | refine LimIs.ite ?_ ?_ | refine LimIs.bind ?_ (fun _ => ?_)
theorem impl_OrderValid.fL_eq (a0 : Int) (l1 : List Int) : impl_OrderValid.fL a0 l1 = if (l1.length : Int) > 5 then (impl_OrderValid.j0L a0 l1 true) else (impl_OrderValid.j0L a0 l1 ((l1.length : Int) != a0)) := by
  refine LimIs.unique (impl_OrderValid.fL_is a0 l1) ?_
  unfold impl_OrderValid.f
  repeat' with_reducible first | exact LimIs.const _ | exact impl_OrderValid.j0L_is .. | refine LimIs.ite ?_ ?_ | refine LimIs.bind ?_ (fun _ => ?_)
/-! ### impl_EntryValid -/
noncomputable def impl_EntryValid.fL (a0_0 a0_1 a0_2 : Int) (a0_3 : ByteArray) (a0_4 a0_5 : Int) : Option (Bool) := Lim (fun k => impl_EntryValid.f k a0_0 a0_1 a0_2 a0_3 a0_4 a0_5)
theorem impl_EntryValid.fL_is (a0_0 a0_1 a0_2 : Int) (a0_3 : ByteArray) (a0_4 a0_5 : Int) : LimIs (fun k => impl_EntryValid.f k a0_0 a0_1 a0_2 a0_3 a0_4 a0_5) (impl_EntryValid.fL a0_0 a0_1 a0_2 a0_3 a0_4 a0_5) := LimIs.of_mono (fun k r h => impl_EntryValid.mono a0_0 a0_1 a0_2 a0_3 a0_4 a0_5 k r h)
theorem impl_EntryValid.fL_eq (a0_0 a0_1 a0_2 : Int) (a0_3 : ByteArray) (a0_4 a0_5 : Int) : impl_EntryValid.fL a0_0 a0_1 a0_2 a0_3 a0_4 a0_5 = if a0_0 ≥ 0 then (if a0_0 < 4 then ((impl_seqValid.f a0_1).bind fun t449 => (if t449 = true then ((impl_CommandValid.fL a0_2 a0_3 a0_4 a0_5).bind fun t450 => (some t450)) else (some false))) else (some false)) else (some false) := by
  refine LimIs.unique (impl_EntryValid.fL_is a0_0 a0_1 a0_2 a0_3 a0_4 a0_5) ?_
  unfold impl_EntryValid.f
  repeat' with_reducible first | exact LimIs.const _ | exact impl_CommandValid.fL_is .. | refine LimIs.ite ?_ ?_ | refine LimIs.bind ?_ (fun _ => ?_)
/-! ### impl_PairsValid -/
noncomputable def impl_PairsValid.l0L (x0 x8 : List (S181)) (x9 x10 : Int) : Option (Bool) := Lim (fun k => impl_PairsValid.l0 k x0 x8 x9 x10)
theorem impl_PairsValid.l0L_is (x0 x8 : List (S181)) (x9 x10 : Int) : LimIs (fun k => impl_PairsValid.l0 k x0 x8 x9 x10) (impl_PairsValid.l0L x0 x8 x9 x10) := LimIs.of_mono (fun k r h => (impl_PairsValid.mono_l k).1 x0 x8 x9 x10 r h)
noncomputable def impl_PairsValid.j1L (x0 : List (S181)) (x3 : Int) (x8 : List (S181)) (x9 x10 : Int) (x24 : Bool) (x453000 : ByteArray) (x453001 : Int) : Option (Bool) := Lim (fun k => impl_PairsValid.j1 k x0 x3 x8 x9 x10 x24 x453000 x453001)
theorem impl_PairsValid.j1L_is (x0 : List (S181)) (x3 : Int) (x8 : List (S181)) (x9 x10 : Int) (x24 : Bool) (x453000 : ByteArray) (x453001 : Int) : LimIs (fun k => impl_PairsValid.j1 k x0 x3 x8 x9 x10 x24 x453000 x453001) (impl_PairsValid.j1L x0 x3 x8 x9 x10 x24 x453000 x453001) := LimIs.of_mono (fun k r h => (impl_PairsValid.mono_l k).2 x0 x3 x8 x9 x10 x24 x453000 x453001 r h)
noncomputable def impl_PairsValid.fL (l0 : List (S181)) : Option (Bool) := Lim (fun k => impl_PairsValid.f k l0)
theorem impl_PairsValid.fL_is (l0 : List (S181)) : LimIs (fun k => impl_PairsValid.f k l0) (impl_PairsValid.fL l0) := LimIs.of_mono (fun k r h => impl_PairsValid.mono l0 k r h)
theorem impl_PairsValid.l0L_eq (x0 x8 : List (S181)) (x9 x10 : Int) : impl_PairsValid.l0L x0 x8 x9 x10 = if x10 < x9 then (if 0 ≤ x10 then (if x10 < (x8.length : Int) then ((impl_KeyValid.fL ((rd_T181 x8 x10).f0)).bind fun t453 => (if t453 = true then ((impl_valueValid.f ((rd_T181 x8 x10).f1)).bind fun t454 => (impl_PairsValid.j1L x0 x10 x8 x9 x10 (!t454) ((rd_T181 x8 x10).f0) ((rd_T181 x8 x10).f1))) else (impl_PairsValid.j1L x0 x10 x8 x9 x10 true ((rd_T181 x8 x10).f0) ((rd_T181 x8 x10).f1)))) else (none)) else (none)) else (some true) := by
  refine LimIs.unique (impl_PairsValid.l0L_is x0 x8 x9 x10) (LimIs.step1 (by simp only [impl_PairsValid.l0]) ?_)
  simp only [impl_PairsValid.l0]
  repeat' with_reducible first | exact LimIs.const _ | exact impl_KeyValid.fL_is .. | exact impl_PairsValid.j1L_is .. | refine LimIs.ite ?_ ?_ | refine LimIs.bind ?_ (fun _ => ?_)
theorem impl_PairsValid.j1L_eq (x0 : List (S181)) (x3 : Int) (x8 : List (S181)) (x9 x10 : Int) (x24 : Bool) (x453000 : ByteArray) (x453001 : Int) : impl_PairsValid.j1L x0 x3 x8 x9 x10 x24 x453000 x453001 = if x24 = true then (some false) else (if x3 > 0 then (if 0 ≤ (wrap64 (x3 - 1)) then (if (wrap64 (x3 - 1)) < (x0.length : Int) then (if ((Op.bytesLess (((rd_T181 x0 (wrap64 (x3 - 1))).f0).toList) x453000.toList) = true) then (impl_PairsValid.l0L x0 x8 x9 (wrap64 (x10 + 1))) else (some false)) else (none)) else (none)) else (impl_PairsValid.l0L x0 x8 x9 (wrap64 (x10 + 1)))) := by
  refine LimIs.unique (impl_PairsValid.j1L_is x0 x3 x8 x9 x10 x24 x453000 x453001) (LimIs.step1 (by simp only [impl_PairsValid.j1]) ?_)
  simp only [impl_PairsValid.j1]
  repeat' with_reducible first | exact LimIs.const _ | exact impl_PairsValid.l0L_is .. | refine LimIs.ite ?_ ?_ | refine LimIs.bind ?_ (fun _ => ?_)
theorem impl_PairsValid.fL_eq (l0 : List (S181)) : impl_PairsValid.fL l0 = if (l0.length : Int) > 48 then (some false) else (impl_PairsValid.l0L l0 l0 (l0.length : Int) 0) := by
  refine LimIs.unique (impl_PairsValid.fL_is l0) ?_
  unfold impl_PairsValid.f
  repeat' with_reducible first | exact LimIs.const _ | exact impl_PairsValid.l0L_is .. | refine LimIs.ite ?_ ?_ | refine LimIs.bind ?_ (fun _ => ?_)
/-! ### impl_Pair_string -/
noncomputable def impl_Pair_string.l0L (x0 : List (S181)) (x1 : ByteArray) (x8 x9 x10 : Int) : Option (Int × Bool) := Lim (fun k => impl_Pair_string.l0 k x0 x1 x8 x9 x10)
theorem impl_Pair_string.l0L_is (x0 : List (S181)) (x1 : ByteArray) (x8 x9 x10 : Int) : LimIs (fun k => impl_Pair_string.l0 k x0 x1 x8 x9 x10) (impl_Pair_string.l0L x0 x1 x8 x9 x10) := LimIs.of_mono (fun k r h => (impl_Pair_string.mono_l k) x0 x1 x8 x9 x10 r h)
noncomputable def impl_Pair_string.fL (l0 : List (S181)) (a1 : ByteArray) (a2 : Unit) : Option (Int × Bool) := Lim (fun k => impl_Pair_string.f k l0 a1 a2)
theorem impl_Pair_string.fL_is (l0 : List (S181)) (a1 : ByteArray) (a2 : Unit) : LimIs (fun k => impl_Pair_string.f k l0 a1 a2) (impl_Pair_string.fL l0 a1 a2) := LimIs.of_mono (fun k r h => impl_Pair_string.mono l0 a1 a2 k r h)
theorem impl_Pair_string.l0L_eq (x0 : List (S181)) (x1 : ByteArray) (x8 x9 x10 : Int) : impl_Pair_string.l0L x0 x1 x8 x9 x10 = if x9 < x10 then (if 0 ≤ (wrap64 ((IntKind.u64.wrap (wrap64 (x9 + x10))) / 2)) then (if (wrap64 ((IntKind.u64.wrap (wrap64 (x9 + x10))) / 2)) < (x0.length : Int) then ((impl_pairPlace_1.f ((rd_T181 x0 (wrap64 ((IntKind.u64.wrap (wrap64 (x9 + x10))) / 2))).f0) ((rd_T181 x0 (wrap64 ((IntKind.u64.wrap (wrap64 (x9 + x10))) / 2))).f1) x1).bind fun t461 => (if t461 < 0 then (impl_Pair_string.l0L x0 x1 x8 (wrap64 ((wrap64 ((IntKind.u64.wrap (wrap64 (x9 + x10))) / 2)) + 1)) x10) else (impl_Pair_string.l0L x0 x1 x8 x9 (wrap64 ((IntKind.u64.wrap (wrap64 (x9 + x10))) / 2))))) else (none)) else (none)) else (if x9 < x8 then (if 0 ≤ x9 then (if x9 < (x0.length : Int) then ((impl_pairPlace_1.f ((rd_T181 x0 x9).f0) ((rd_T181 x0 x9).f1) x1).bind fun t463 => (some (x9, (t463 == 0)))) else (none)) else (none)) else (some (x9, false))) := by
  refine LimIs.unique (impl_Pair_string.l0L_is x0 x1 x8 x9 x10) (LimIs.step1 (by simp only [impl_Pair_string.l0]) ?_)
  simp only [impl_Pair_string.l0]
  repeat' with_reducible first | exact LimIs.const _ | exact impl_Pair_string.l0L_is .. | refine LimIs.ite ?_ ?_ | refine LimIs.bind ?_ (fun _ => ?_)
theorem impl_Pair_string.fL_eq (l0 : List (S181)) (a1 : ByteArray) (a2 : Unit) : impl_Pair_string.fL l0 a1 a2 = impl_Pair_string.l0L l0 a1 (l0.length : Int) 0 (l0.length : Int) := by
  refine LimIs.unique (impl_Pair_string.fL_is l0 a1 a2) ?_
  unfold impl_Pair_string.f
  repeat' with_reducible first | exact LimIs.const _ | exact impl_Pair_string.l0L_is .. | refine LimIs.ite ?_ ?_ | refine LimIs.bind ?_ (fun _ => ?_)
/-! ### impl_pairPlace -/
noncomputable def impl_pairPlace.fL (l0 : List (S181)) (a1 : ByteArray) : Option (Int × Bool) := Lim (fun k => impl_pairPlace.f k l0 a1)
theorem impl_pairPlace.fL_is (l0 : List (S181)) (a1 : ByteArray) : LimIs (fun k => impl_pairPlace.f k l0 a1) (impl_pairPlace.fL l0 a1) := LimIs.of_mono (fun k r h => impl_pairPlace.mono l0 a1 k r h)
theorem impl_pairPlace.fL_eq (l0 : List (S181)) (a1 : ByteArray) : impl_pairPlace.fL l0 a1 = (impl_Pair_string.fL l0 a1 ()).bind fun bt464 => (some (bt464.1, bt464.2)) := by
  refine LimIs.unique (impl_pairPlace.fL_is l0 a1) ?_
  unfold impl_pairPlace.f
  repeat' with_reducible first | exact LimIs.const _ | exact impl_Pair_string.fL_is .. | refine LimIs.ite ?_ ?_ | refine LimIs.bind ?_ (fun _ => ?_)
/-! ### impl_PairGet -/
noncomputable def impl_PairGet.fL (l0 : List (S181)) (a1 : ByteArray) : Option (Int) := Lim (fun k => impl_PairGet.f k l0 a1)
theorem impl_PairGet.fL_is (l0 : List (S181)) (a1 : ByteArray) : LimIs (fun k => impl_PairGet.f k l0 a1) (impl_PairGet.fL l0 a1) := LimIs.of_mono (fun k r h => impl_PairGet.mono l0 a1 k r h)
theorem impl_PairGet.fL_eq (l0 : List (S181)) (a1 : ByteArray) : impl_PairGet.fL l0 a1 = (impl_PairsValid.fL l0).bind fun t466 => (if t466 = true then ((impl_pairPlace.fL l0 a1).bind fun bt467 => (if bt467.2 = true then (if 0 ≤ bt467.1 then (if bt467.1 < (l0.length : Int) then (some ((rd_T181 l0 bt467.1).f1)) else (none)) else (none)) else (some (-1)))) else (some (-1))) := by
  refine LimIs.unique (impl_PairGet.fL_is l0 a1) ?_
  unfold impl_PairGet.f
  repeat' with_reducible first | exact LimIs.const _ | exact impl_PairsValid.fL_is .. | exact impl_pairPlace.fL_is .. | refine LimIs.ite ?_ ?_ | refine LimIs.bind ?_ (fun _ => ?_)
/-! ### impl_PairDrop -/
noncomputable def impl_PairDrop.fL (l0 : List (S181)) (a1 : ByteArray) : Option ((List (S181)) × Bool) := Lim (fun k => impl_PairDrop.f k l0 a1)
theorem impl_PairDrop.fL_is (l0 : List (S181)) (a1 : ByteArray) : LimIs (fun k => impl_PairDrop.f k l0 a1) (impl_PairDrop.fL l0 a1) := LimIs.of_mono (fun k r h => impl_PairDrop.mono l0 a1 k r h)
theorem impl_PairDrop.fL_eq (l0 : List (S181)) (a1 : ByteArray) : impl_PairDrop.fL l0 a1 = (impl_PairsValid.fL l0).bind fun t493 => (if t493 = true then ((impl_pairPlace.fL l0 a1).bind fun bt494 => (if bt494.2 = true then ((impl_Pair_192.f l0 bt494.1 1 ([] : List (S181))).bind fun t496 => (some (t496, true))) else ((impl_Pair_126.f l0).bind fun t499 => (some (t499, false))))) else (some (([] : List (S181)), false))) := by
  refine LimIs.unique (impl_PairDrop.fL_is l0 a1) ?_
  unfold impl_PairDrop.f
  repeat' with_reducible first | exact LimIs.const _ | exact impl_PairsValid.fL_is .. | exact impl_pairPlace.fL_is .. | refine LimIs.ite ?_ ?_ | refine LimIs.bind ?_ (fun _ => ?_)
/-! ### impl_PairPut -/
noncomputable def impl_PairPut.j0L (x0 : List (S181)) (x1 : ByteArray) (x2 : Int) (x22 : Bool) : Option ((List (S181)) × Bool) := Lim (fun k => impl_PairPut.j0 k x0 x1 x2 x22)
theorem impl_PairPut.j0L_is (x0 : List (S181)) (x1 : ByteArray) (x2 : Int) (x22 : Bool) : LimIs (fun k => impl_PairPut.j0 k x0 x1 x2 x22) (impl_PairPut.j0L x0 x1 x2 x22) := LimIs.of_mono (fun k r h => (impl_PairPut.mono_l k) x0 x1 x2 x22 r h)
noncomputable def impl_PairPut.fL (l0 : List (S181)) (a1 : ByteArray) (a2 : Int) : Option ((List (S181)) × Bool) := Lim (fun k => impl_PairPut.f k l0 a1 a2)
theorem impl_PairPut.fL_is (l0 : List (S181)) (a1 : ByteArray) (a2 : Int) : LimIs (fun k => impl_PairPut.f k l0 a1 a2) (impl_PairPut.fL l0 a1 a2) := LimIs.of_mono (fun k r h => impl_PairPut.mono l0 a1 a2 k r h)
theorem impl_PairPut.j0L_eq (x0 : List (S181)) (x1 : ByteArray) (x2 : Int) (x22 : Bool) : impl_PairPut.j0L x0 x1 x2 x22 = if x22 = true then (some (([] : List (S181)), false)) else ((impl_pairPlace.fL x0 x1).bind fun bt505 => (if bt505.2 = true then ((impl_Pair_192.f x0 bt505.1 1 (([(⟨x1, x2⟩ : S181)] : List (S181)))).bind fun t510 => (some (t510, true))) else (if (x0.length : Int) ≥ 48 then ((impl_Pair_126.f x0).bind fun t513 => (some (t513, false))) else ((impl_Pair_192.f x0 bt505.1 0 (([(⟨x1, x2⟩ : S181)] : List (S181)))).bind fun t519 => (some (t519, true)))))) := by
  refine LimIs.unique (impl_PairPut.j0L_is x0 x1 x2 x22) (LimIs.step1 (by simp only [impl_PairPut.j0]) ?_)
  simp only [impl_PairPut.j0]
  repeat' with_reducible first | exact LimIs.const _ | exact impl_pairPlace.fL_is .. | refine LimIs.ite ?_ ?_ | refine LimIs.bind ?_ (fun _ => ?_)
theorem impl_PairPut.fL_eq (l0 : List (S181)) (a1 : ByteArray) (a2 : Int) : impl_PairPut.fL l0 a1 a2 = (impl_PairsValid.fL l0).bind fun t502 => (if t502 = true then ((impl_KeyValid.fL a1).bind fun t503 => (if t503 = true then ((impl_valueValid.f a2).bind fun t504 => (impl_PairPut.j0L l0 a1 a2 (!t504))) else (impl_PairPut.j0L l0 a1 a2 true))) else (impl_PairPut.j0L l0 a1 a2 true)) := by
  refine LimIs.unique (impl_PairPut.fL_is l0 a1 a2) ?_
  unfold impl_PairPut.f
  repeat' with_reducible first | exact LimIs.const _ | exact impl_KeyValid.fL_is .. | exact impl_PairPut.j0L_is .. | exact impl_PairsValid.fL_is .. | refine LimIs.ite ?_ ?_ | refine LimIs.bind ?_ (fun _ => ?_)
/-! ### impl_mapAfter -/
noncomputable def impl_mapAfter.fL (l0 : List (S181)) (a1_0 : Int) (a1_1 : ByteArray) (a1_2 a1_3 a2 : Int) : Option ((List (S181)) × Bool) := Lim (fun k => impl_mapAfter.f k l0 a1_0 a1_1 a1_2 a1_3 a2)
theorem impl_mapAfter.fL_is (l0 : List (S181)) (a1_0 : Int) (a1_1 : ByteArray) (a1_2 a1_3 a2 : Int) : LimIs (fun k => impl_mapAfter.f k l0 a1_0 a1_1 a1_2 a1_3 a2) (impl_mapAfter.fL l0 a1_0 a1_1 a1_2 a1_3 a2) := LimIs.of_mono (fun k r h => impl_mapAfter.mono l0 a1_0 a1_1 a1_2 a1_3 a2 k r h)
theorem impl_mapAfter.fL_eq (l0 : List (S181)) (a1_0 : Int) (a1_1 : ByteArray) (a1_2 a1_3 a2 : Int) : impl_mapAfter.fL l0 a1_0 a1_1 a1_2 a1_3 a2 = (impl_PairGet.fL l0 a1_1).bind fun t523 => (if a2 = t523 then (if a1_0 = 3 then ((impl_PairDrop.fL l0 a1_1).bind fun bt524 => (some (bt524.1, true))) else (if a1_0 = 2 then ((impl_PairPut.fL l0 a1_1 a1_2).bind fun bt528 => (some (bt528.1, bt528.2))) else (if a1_0 = 4 then (if a1_3 = t523 then ((impl_PairPut.fL l0 a1_1 a1_2).bind fun bt532 => (some (bt532.1, bt532.2))) else (some (l0, true))) else (some (l0, true))))) else (some (([] : List (S181)), false))) := by
  refine LimIs.unique (impl_mapAfter.fL_is l0 a1_0 a1_1 a1_2 a1_3 a2) ?_
  unfold impl_mapAfter.f
  repeat' with_reducible first | exact LimIs.const _ | exact impl_PairDrop.fL_is .. | exact impl_PairGet.fL_is .. | exact impl_PairPut.fL_is .. | refine LimIs.ite ?_ ?_ | refine LimIs.bind ?_ (fun _ => ?_)
/-! ### impl_RunHistory -/
noncomputable def impl_RunHistory.l0L (x4 : List (S181)) (x11 : List (S120)) (x12 x13 : Int) : Option ((List (S181)) × Bool) := Lim (fun k => impl_RunHistory.l0 k x4 x11 x12 x13)
theorem impl_RunHistory.l0L_is (x4 : List (S181)) (x11 : List (S120)) (x12 x13 : Int) : LimIs (fun k => impl_RunHistory.l0 k x4 x11 x12 x13) (impl_RunHistory.l0L x4 x11 x12 x13) := LimIs.of_mono (fun k r h => (impl_RunHistory.mono_l k).1 x4 x11 x12 x13 r h)
noncomputable def impl_RunHistory.j1L (x4 : List (S181)) (x11 : List (S120)) (x12 x13 : Int) (x27 : Bool) (x538000 x538001 x538002 : Int) (x538003 : ByteArray) (x538004 x538005 x538006 : Int) : Option ((List (S181)) × Bool) := Lim (fun k => impl_RunHistory.j1 k x4 x11 x12 x13 x27 x538000 x538001 x538002 x538003 x538004 x538005 x538006)
theorem impl_RunHistory.j1L_is (x4 : List (S181)) (x11 : List (S120)) (x12 x13 : Int) (x27 : Bool) (x538000 x538001 x538002 : Int) (x538003 : ByteArray) (x538004 x538005 x538006 : Int) : LimIs (fun k => impl_RunHistory.j1 k x4 x11 x12 x13 x27 x538000 x538001 x538002 x538003 x538004 x538005 x538006) (impl_RunHistory.j1L x4 x11 x12 x13 x27 x538000 x538001 x538002 x538003 x538004 x538005 x538006) := LimIs.of_mono (fun k r h => (impl_RunHistory.mono_l k).2 x4 x11 x12 x13 x27 x538000 x538001 x538002 x538003 x538004 x538005 x538006 r h)
noncomputable def impl_RunHistory.fL (l0 : List (S120)) : Option ((List (S181)) × Bool) := Lim (fun k => impl_RunHistory.f k l0)
theorem impl_RunHistory.fL_is (l0 : List (S120)) : LimIs (fun k => impl_RunHistory.f k l0) (impl_RunHistory.fL l0) := LimIs.of_mono (fun k r h => impl_RunHistory.mono l0 k r h)
theorem impl_RunHistory.l0L_eq (x4 : List (S181)) (x11 : List (S120)) (x12 x13 : Int) : impl_RunHistory.l0L x4 x11 x12 x13 = if x13 < x12 then (if 0 ≤ x13 then (if x13 < (x11.length : Int) then ((impl_EntryValid.fL ((rd_T120 x11 x13).f0.f0) ((rd_T120 x11 x13).f0.f1) ((rd_T120 x11 x13).f0.f2.f0) ((rd_T120 x11 x13).f0.f2.f1) ((rd_T120 x11 x13).f0.f2.f2) ((rd_T120 x11 x13).f0.f2.f3)).bind fun t538 => (if t538 = true then (impl_RunHistory.j1L x4 x11 x12 x13 (((rd_T120 x11 x13).f0.f2.f0) == 5) ((rd_T120 x11 x13).f0.f0) ((rd_T120 x11 x13).f0.f1) ((rd_T120 x11 x13).f0.f2.f0) ((rd_T120 x11 x13).f0.f2.f1) ((rd_T120 x11 x13).f0.f2.f2) ((rd_T120 x11 x13).f0.f2.f3) ((rd_T120 x11 x13).f1)) else (impl_RunHistory.j1L x4 x11 x12 x13 true ((rd_T120 x11 x13).f0.f0) ((rd_T120 x11 x13).f0.f1) ((rd_T120 x11 x13).f0.f2.f0) ((rd_T120 x11 x13).f0.f2.f1) ((rd_T120 x11 x13).f0.f2.f2) ((rd_T120 x11 x13).f0.f2.f3) ((rd_T120 x11 x13).f1)))) else (none)) else (none)) else (some (x4, true)) := by
  refine LimIs.unique (impl_RunHistory.l0L_is x4 x11 x12 x13) (LimIs.step1 (by simp only [impl_RunHistory.l0]) ?_)
  simp only [impl_RunHistory.l0]
  repeat' with_reducible first | exact LimIs.const _ | exact impl_EntryValid.fL_is .. | exact impl_RunHistory.j1L_is .. | refine LimIs.ite ?_ ?_ | refine LimIs.bind ?_ (fun _ => ?_)
theorem impl_RunHistory.j1L_eq (x4 : List (S181)) (x11 : List (S120)) (x12 x13 : Int) (x27 : Bool) (x538000 x538001 x538002 : Int) (x538003 : ByteArray) (x538004 x538005 x538006 : Int) : impl_RunHistory.j1L x4 x11 x12 x13 x27 x538000 x538001 x538002 x538003 x538004 x538005 x538006 = if x27 = true then (some (([] : List (S181)), false)) else (if x538006 = (-2) then (impl_RunHistory.l0L x4 x11 x12 (wrap64 (x13 + 1))) else ((impl_mapAfter.fL x4 x538002 x538003 x538004 x538005 x538006).bind fun bt539 => (if bt539.2 = true then (impl_RunHistory.l0L bt539.1 x11 x12 (wrap64 (x13 + 1))) else (some (([] : List (S181)), false))))) := by
  refine LimIs.unique (impl_RunHistory.j1L_is x4 x11 x12 x13 x27 x538000 x538001 x538002 x538003 x538004 x538005 x538006) (LimIs.step1 (by simp only [impl_RunHistory.j1]) ?_)
  simp only [impl_RunHistory.j1]
  repeat' with_reducible first | exact LimIs.const _ | exact impl_RunHistory.l0L_is .. | exact impl_mapAfter.fL_is .. | refine LimIs.ite ?_ ?_ | refine LimIs.bind ?_ (fun _ => ?_)
theorem impl_RunHistory.fL_eq (l0 : List (S120)) : impl_RunHistory.fL l0 = if (l0.length : Int) > 200 then (some (([] : List (S181)), false)) else (impl_RunHistory.l0L ([] : List (S181)) l0 (l0.length : Int) 0) := by
  refine LimIs.unique (impl_RunHistory.fL_is l0) ?_
  unfold impl_RunHistory.f
  repeat' with_reducible first | exact LimIs.const _ | exact impl_RunHistory.l0L_is .. | refine LimIs.ite ?_ ?_ | refine LimIs.bind ?_ (fun _ => ?_)
/-! ### impl_RepliesRight -/
noncomputable def impl_RepliesRight.j0L (x0 : List (S32)) (x1 : List Int) (x20 : Bool) : Option (Bool) := Lim (fun k => impl_RepliesRight.j0 k x0 x1 x20)
theorem impl_RepliesRight.j0L_is (x0 : List (S32)) (x1 : List Int) (x20 : Bool) : LimIs (fun k => impl_RepliesRight.j0 k x0 x1 x20) (impl_RepliesRight.j0L x0 x1 x20) := LimIs.of_mono (fun k r h => (impl_RepliesRight.mono_l k).1 x0 x1 x20 r h)
noncomputable def impl_RepliesRight.l0L (x0 : List (S32)) (x5 : List (S120)) (x21 : List Int) (x22 x23 : Int) : Option (Bool) := Lim (fun k => impl_RepliesRight.l0 k x0 x5 x21 x22 x23)
theorem impl_RepliesRight.l0L_is (x0 : List (S32)) (x5 : List (S120)) (x21 : List Int) (x22 x23 : Int) : LimIs (fun k => impl_RepliesRight.l0 k x0 x5 x21 x22 x23) (impl_RepliesRight.l0L x0 x5 x21 x22 x23) := LimIs.of_mono (fun k r h => (impl_RepliesRight.mono_l k).2 x0 x5 x21 x22 x23 r h)
noncomputable def impl_RepliesRight.fL (l0 : List (S32)) (l1 : List Int) : Option (Bool) := Lim (fun k => impl_RepliesRight.f k l0 l1)
theorem impl_RepliesRight.fL_is (l0 : List (S32)) (l1 : List Int) : LimIs (fun k => impl_RepliesRight.f k l0 l1) (impl_RepliesRight.fL l0 l1) := LimIs.of_mono (fun k r h => impl_RepliesRight.mono l0 l1 k r h)
theorem impl_RepliesRight.j0L_eq (x0 : List (S32)) (x1 : List Int) (x20 : Bool) : impl_RepliesRight.j0L x0 x1 x20 = if x20 = true then (some false) else (impl_RepliesRight.l0L x0 ([] : List (S120)) x1 (x1.length : Int) 0) := by
  refine LimIs.unique (impl_RepliesRight.j0L_is x0 x1 x20) (LimIs.step1 (by simp only [impl_RepliesRight.j0]) ?_)
  simp only [impl_RepliesRight.j0]
  repeat' with_reducible first | exact LimIs.const _ | exact impl_RepliesRight.l0L_is .. | refine LimIs.ite ?_ ?_ | refine LimIs.bind ?_ (fun _ => ?_)
theorem impl_RepliesRight.l0L_eq (x0 : List (S32)) (x5 : List (S120)) (x21 : List Int) (x22 x23 : Int) : impl_RepliesRight.l0L x0 x5 x21 x22 x23 = if x23 < x22 then (if 0 ≤ x23 then (if x23 < (x21.length : Int) then (if 0 ≤ (rd x21 x23) then (if (rd x21 x23) < (x0.length : Int) then (if x5.length < 2199023255552 then (impl_RepliesRight.l0L x0 (x5 ++ [(⟨(⟨(rd_T32 x0 (rd x21 x23)).f0, (rd_T32 x0 (rd x21 x23)).f1, (⟨(rd_T32 x0 (rd x21 x23)).f2.f0, (rd_T32 x0 (rd x21 x23)).f2.f1, (rd_T32 x0 (rd x21 x23)).f2.f2, (rd_T32 x0 (rd x21 x23)).f2.f3⟩ : S30)⟩ : S118), (rd_T32 x0 (rd x21 x23)).f3⟩ : S120)]) x21 x22 (wrap64 (x23 + 1))) else (none)) else (none)) else (none)) else (none)) else (none)) else ((impl_RunHistory.fL x5).bind fun bt551 => (some bt551.2)) := by
  refine LimIs.unique (impl_RepliesRight.l0L_is x0 x5 x21 x22 x23) (LimIs.step1 (by simp only [impl_RepliesRight.l0]) ?_)
  simp only [impl_RepliesRight.l0]
  repeat' with_reducible first | exact LimIs.const _ | exact impl_RepliesRight.l0L_is .. | exact impl_RunHistory.fL_is .. | refine LimIs.ite ?_ ?_ | refine LimIs.bind ?_ (fun _ => ?_)
theorem impl_RepliesRight.fL_eq (l0 : List (S32)) (l1 : List Int) : impl_RepliesRight.fL l0 l1 = (impl_resultsValid.fL l0).bind fun t543 => (if t543 = true then ((impl_OrderValid.fL (l0.length : Int) l1).bind fun t544 => (impl_RepliesRight.j0L l0 l1 (!t544))) else (impl_RepliesRight.j0L l0 l1 true)) := by
  refine LimIs.unique (impl_RepliesRight.fL_is l0 l1) ?_
  unfold impl_RepliesRight.f
  repeat' with_reducible first | exact LimIs.const _ | exact impl_OrderValid.fL_is .. | exact impl_RepliesRight.j0L_is .. | exact impl_resultsValid.fL_is .. | refine LimIs.ite ?_ ?_ | refine LimIs.bind ?_ (fun _ => ?_)
/-! ### spec_OrderValid -/
noncomputable def spec_OrderValid.j0L (x0 : Int) (x1 : List Int) (x14 : Bool) : Option (Bool) := Lim (fun k => spec_OrderValid.j0 k x0 x1 x14)
theorem spec_OrderValid.j0L_is (x0 : Int) (x1 : List Int) (x14 : Bool) : LimIs (fun k => spec_OrderValid.j0 k x0 x1 x14) (spec_OrderValid.j0L x0 x1 x14) := LimIs.of_mono (fun k r h => (spec_OrderValid.mono_l k).1 x0 x1 x14 r h)
noncomputable def spec_OrderValid.l0L (x0 : Int) (x1 : List Int) (x5 : Int) : Option (Bool) := Lim (fun k => spec_OrderValid.l0 k x0 x1 x5)
theorem spec_OrderValid.l0L_is (x0 : Int) (x1 : List Int) (x5 : Int) : LimIs (fun k => spec_OrderValid.l0 k x0 x1 x5) (spec_OrderValid.l0L x0 x1 x5) := LimIs.of_mono (fun k r h => (spec_OrderValid.mono_l k).2.1 x0 x1 x5 r h)
noncomputable def spec_OrderValid.l1L (x0 : Int) (x1 : List Int) (x5 x6 : Int) : Option (Bool) := Lim (fun k => spec_OrderValid.l1 k x0 x1 x5 x6)
theorem spec_OrderValid.l1L_is (x0 : Int) (x1 : List Int) (x5 x6 : Int) : LimIs (fun k => spec_OrderValid.l1 k x0 x1 x5 x6) (spec_OrderValid.l1L x0 x1 x5 x6) := LimIs.of_mono (fun k r h => (spec_OrderValid.mono_l k).2.2 x0 x1 x5 x6 r h)
noncomputable def spec_OrderValid.fL (a0 : Int) (l1 : List Int) : Option (Bool) := Lim (fun k => spec_OrderValid.f k a0 l1)
theorem spec_OrderValid.fL_is (a0 : Int) (l1 : List Int) : LimIs (fun k => spec_OrderValid.f k a0 l1) (spec_OrderValid.fL a0 l1) := LimIs.of_mono (fun k r h => spec_OrderValid.mono a0 l1 k r h)
theorem spec_OrderValid.j0L_eq (x0 : Int) (x1 : List Int) (x14 : Bool) : spec_OrderValid.j0L x0 x1 x14 = if x14 = true then (some false) else (spec_OrderValid.l0L x0 x1 0) := by
  refine LimIs.unique (spec_OrderValid.j0L_is x0 x1 x14) (LimIs.step1 (by simp only [spec_OrderValid.j0]) ?_)
  simp only [spec_OrderValid.j0]
  repeat' with_reducible first | exact LimIs.const _ | exact spec_OrderValid.l0L_is .. | refine LimIs.ite ?_ ?_ | refine LimIs.bind ?_ (fun _ => ?_)
theorem spec_OrderValid.l0L_eq (x0 : Int) (x1 : List Int) (x5 : Int) : spec_OrderValid.l0L x0 x1 x5 = if x5 < (x1.length : Int) then (if 0 ≤ x5 then ((spec_l1In.f (rd x1 x5) 0 (wrap64 (x0 - 1))).bind fun t556 => (if t556 = true then (spec_OrderValid.l1L x0 x1 x5 0) else (some false))) else (none)) else (some true) := by
  refine LimIs.unique (spec_OrderValid.l0L_is x0 x1 x5) (LimIs.step1 (by simp only [spec_OrderValid.l0]) ?_)
  simp only [spec_OrderValid.l0]
  repeat' with_reducible first | exact LimIs.const _ | exact spec_OrderValid.l1L_is .. | refine LimIs.ite ?_ ?_ | refine LimIs.bind ?_ (fun _ => ?_)
theorem spec_OrderValid.l1L_eq (x0 : Int) (x1 : List Int) (x5 x6 : Int) : spec_OrderValid.l1L x0 x1 x5 x6 = if x6 < x5 then (if 0 ≤ x6 then (if x6 < (x1.length : Int) then (if 0 ≤ x5 then (if x5 < (x1.length : Int) then (if (rd x1 x6) = (rd x1 x5) then (some false) else (spec_OrderValid.l1L x0 x1 x5 (wrap64 (x6 + 1)))) else (none)) else (none)) else (none)) else (none)) else (spec_OrderValid.l0L x0 x1 (wrap64 (x5 + 1))) := by
  refine LimIs.unique (spec_OrderValid.l1L_is x0 x1 x5 x6) (LimIs.step1 (by simp only [spec_OrderValid.l1]) ?_)
  simp only [spec_OrderValid.l1]
  repeat' with_reducible first | exact LimIs.const _ | exact spec_OrderValid.l0L_is .. | exact spec_OrderValid.l1L_is .. | refine LimIs.ite ?_ ?_ | refine LimIs.bind ?_ (fun _ => ?_)
theorem spec_OrderValid.fL_eq (a0 : Int) (l1 : List Int) : spec_OrderValid.fL a0 l1 = if a0 > 5 then (spec_OrderValid.j0L a0 l1 true) else (spec_OrderValid.j0L a0 l1 ((l1.length : Int) != a0)) := by
  refine LimIs.unique (spec_OrderValid.fL_is a0 l1) ?_
  unfold spec_OrderValid.f
  repeat' with_reducible first | exact LimIs.const _ | exact spec_OrderValid.j0L_is .. | refine LimIs.ite ?_ ?_ | refine LimIs.bind ?_ (fun _ => ?_)
/-! ### spec_l25Wish -/
noncomputable def spec_l25Wish.fL (a0_0 : Int) (a0_1 : ByteArray) (a0_2 a0_3 : Int) : Option (Bool) := Lim (fun k => spec_l25Wish.f k a0_0 a0_1 a0_2 a0_3)
theorem spec_l25Wish.fL_is (a0_0 : Int) (a0_1 : ByteArray) (a0_2 a0_3 : Int) : LimIs (fun k => spec_l25Wish.f k a0_0 a0_1 a0_2 a0_3) (spec_l25Wish.fL a0_0 a0_1 a0_2 a0_3) := LimIs.of_mono (fun k r h => spec_l25Wish.mono a0_0 a0_1 a0_2 a0_3 k r h)
theorem spec_l25Wish.fL_eq (a0_0 : Int) (a0_1 : ByteArray) (a0_2 a0_3 : Int) : spec_l25Wish.fL a0_0 a0_1 a0_2 a0_3 = (spec_CommandValid.fL a0_0 a0_1 a0_2 a0_3).bind fun t560 => (if t560 = true then (some (a0_0 != 5)) else (some false)) := by
  refine LimIs.unique (spec_l25Wish.fL_is a0_0 a0_1 a0_2 a0_3) ?_
  unfold spec_l25Wish.f
  repeat' with_reducible first | exact LimIs.const _ | exact spec_CommandValid.fL_is .. | refine LimIs.ite ?_ ?_ | refine LimIs.bind ?_ (fun _ => ?_)
/-! ### spec_ResultValid -/
noncomputable def spec_ResultValid.fL (a0_0 a0_1 a0_2 : Int) (a0_3 : ByteArray) (a0_4 a0_5 a0_6 a0_7 a0_8 : Int) : Option (Bool) := Lim (fun k => spec_ResultValid.f k a0_0 a0_1 a0_2 a0_3 a0_4 a0_5 a0_6 a0_7 a0_8)
theorem spec_ResultValid.fL_is (a0_0 a0_1 a0_2 : Int) (a0_3 : ByteArray) (a0_4 a0_5 a0_6 a0_7 a0_8 : Int) : LimIs (fun k => spec_ResultValid.f k a0_0 a0_1 a0_2 a0_3 a0_4 a0_5 a0_6 a0_7 a0_8) (spec_ResultValid.fL a0_0 a0_1 a0_2 a0_3 a0_4 a0_5 a0_6 a0_7 a0_8) := LimIs.of_mono (fun k r h => spec_ResultValid.mono a0_0 a0_1 a0_2 a0_3 a0_4 a0_5 a0_6 a0_7 a0_8 k r h)
theorem spec_ResultValid.fL_eq (a0_0 a0_1 a0_2 : Int) (a0_3 : ByteArray) (a0_4 a0_5 a0_6 a0_7 a0_8 : Int) : spec_ResultValid.fL a0_0 a0_1 a0_2 a0_3 a0_4 a0_5 a0_6 a0_7 a0_8 = (spec_l1In.f a0_0 1 3).bind fun t562 => (if t562 = true then ((spec_l1In.f a0_1 1 999).bind fun t563 => (if t563 = true then ((spec_l25Wish.fL a0_2 a0_3 a0_4 a0_5).bind fun t564 => (if t564 = true then ((spec_l1In.f a0_6 (-4) 999).bind fun t565 => (if t565 = true then ((spec_l1In.f a0_8 0 200).bind fun t566 => (if t566 = true then ((spec_l1In.f a0_7 0 a0_8).bind fun t567 => (some t567)) else (some false))) else (some false))) else (some false))) else (some false))) else (some false)) := by
  refine LimIs.unique (spec_ResultValid.fL_is a0_0 a0_1 a0_2 a0_3 a0_4 a0_5 a0_6 a0_7 a0_8) ?_
  unfold spec_ResultValid.f
  repeat' with_reducible first | exact LimIs.const _ | exact spec_l25Wish.fL_is .. | refine LimIs.ite ?_ ?_ | refine LimIs.bind ?_ (fun _ => ?_)
/-! ### spec_EntryValid -/
noncomputable def spec_EntryValid.fL (a0_0 a0_1 a0_2 : Int) (a0_3 : ByteArray) (a0_4 a0_5 : Int) : Option (Bool) := Lim (fun k => spec_EntryValid.f k a0_0 a0_1 a0_2 a0_3 a0_4 a0_5)
theorem spec_EntryValid.fL_is (a0_0 a0_1 a0_2 : Int) (a0_3 : ByteArray) (a0_4 a0_5 : Int) : LimIs (fun k => spec_EntryValid.f k a0_0 a0_1 a0_2 a0_3 a0_4 a0_5) (spec_EntryValid.fL a0_0 a0_1 a0_2 a0_3 a0_4 a0_5) := LimIs.of_mono (fun k r h => spec_EntryValid.mono a0_0 a0_1 a0_2 a0_3 a0_4 a0_5 k r h)
theorem spec_EntryValid.fL_eq (a0_0 a0_1 a0_2 : Int) (a0_3 : ByteArray) (a0_4 a0_5 : Int) : spec_EntryValid.fL a0_0 a0_1 a0_2 a0_3 a0_4 a0_5 = (spec_l1In.f a0_0 0 3).bind fun t569 => (if t569 = true then ((spec_l1In.f a0_1 1 999).bind fun t570 => (if t570 = true then ((spec_CommandValid.fL a0_2 a0_3 a0_4 a0_5).bind fun t571 => (some t571)) else (some false))) else (some false)) := by
  refine LimIs.unique (spec_EntryValid.fL_is a0_0 a0_1 a0_2 a0_3 a0_4 a0_5) ?_
  unfold spec_EntryValid.f
  repeat' with_reducible first | exact LimIs.const _ | exact spec_CommandValid.fL_is .. | refine LimIs.ite ?_ ?_ | refine LimIs.bind ?_ (fun _ => ?_)
/-! ### spec_l29one -/
noncomputable def spec_l29one.fL (l0 : List (S181)) (a1_0 a1_1 a1_2 : Int) (a1_3 : ByteArray) (a1_4 a1_5 a1_6 : Int) : Option ((List (S181)) × Bool) := Lim (fun k => spec_l29one.f k l0 a1_0 a1_1 a1_2 a1_3 a1_4 a1_5 a1_6)
theorem spec_l29one.fL_is (l0 : List (S181)) (a1_0 a1_1 a1_2 : Int) (a1_3 : ByteArray) (a1_4 a1_5 a1_6 : Int) : LimIs (fun k => spec_l29one.f k l0 a1_0 a1_1 a1_2 a1_3 a1_4 a1_5 a1_6) (spec_l29one.fL l0 a1_0 a1_1 a1_2 a1_3 a1_4 a1_5 a1_6) := LimIs.of_mono (fun k r h => spec_l29one.mono l0 a1_0 a1_1 a1_2 a1_3 a1_4 a1_5 a1_6 k r h)
theorem spec_l29one.fL_eq (l0 : List (S181)) (a1_0 a1_1 a1_2 : Int) (a1_3 : ByteArray) (a1_4 a1_5 a1_6 : Int) : spec_l29one.fL l0 a1_0 a1_1 a1_2 a1_3 a1_4 a1_5 a1_6 = (spec_PairGet.fL l0 a1_3).bind fun t573 => (if a1_6 = (-2) then (some (l0, true)) else (if a1_6 = t573 then (if a1_2 = 3 then ((spec_PairDrop.fL l0 a1_3).bind fun bt574 => (some (bt574.1, true))) else (if a1_2 = 4 then (if a1_5 = t573 then ((spec_PairPut.fL l0 a1_3 a1_4).bind fun bt578 => (some (bt578.1, bt578.2))) else (some (l0, true))) else (if a1_2 = 1 then (some (l0, true)) else ((spec_PairPut.fL l0 a1_3 a1_4).bind fun bt582 => (some (bt582.1, bt582.2)))))) else (some (l0, false)))) := by
  refine LimIs.unique (spec_l29one.fL_is l0 a1_0 a1_1 a1_2 a1_3 a1_4 a1_5 a1_6) ?_
  unfold spec_l29one.f
  repeat' with_reducible first | exact LimIs.const _ | exact spec_PairDrop.fL_is .. | exact spec_PairGet.fL_is .. | exact spec_PairPut.fL_is .. | refine LimIs.ite ?_ ?_ | refine LimIs.bind ?_ (fun _ => ?_)
/-! ### spec_RunHistory -/
noncomputable def spec_RunHistory.l0L (x0 : List (S120)) (x4 : List (S181)) (x5 : Int) : Option ((List (S181)) × Bool) := Lim (fun k => spec_RunHistory.l0 k x0 x4 x5)
theorem spec_RunHistory.l0L_is (x0 : List (S120)) (x4 : List (S181)) (x5 : Int) : LimIs (fun k => spec_RunHistory.l0 k x0 x4 x5) (spec_RunHistory.l0L x0 x4 x5) := LimIs.of_mono (fun k r h => (spec_RunHistory.mono_l k).1 x0 x4 x5 r h)
noncomputable def spec_RunHistory.l1L (x0 : List (S120)) (x4 : List (S181)) (x6 : Int) : Option ((List (S181)) × Bool) := Lim (fun k => spec_RunHistory.l1 k x0 x4 x6)
theorem spec_RunHistory.l1L_is (x0 : List (S120)) (x4 : List (S181)) (x6 : Int) : LimIs (fun k => spec_RunHistory.l1 k x0 x4 x6) (spec_RunHistory.l1L x0 x4 x6) := LimIs.of_mono (fun k r h => (spec_RunHistory.mono_l k).2 x0 x4 x6 r h)
noncomputable def spec_RunHistory.fL (l0 : List (S120)) : Option ((List (S181)) × Bool) := Lim (fun k => spec_RunHistory.f k l0)
theorem spec_RunHistory.fL_is (l0 : List (S120)) : LimIs (fun k => spec_RunHistory.f k l0) (spec_RunHistory.fL l0) := LimIs.of_mono (fun k r h => spec_RunHistory.mono l0 k r h)
theorem spec_RunHistory.l0L_eq (x0 : List (S120)) (x4 : List (S181)) (x5 : Int) : spec_RunHistory.l0L x0 x4 x5 = if x5 < (x0.length : Int) then (if x5 ≥ 200 then (some ((([] : List (S181))), false)) else (if 0 ≤ x5 then ((spec_EntryValid.fL ((rd_T120 x0 x5).f0.f0) ((rd_T120 x0 x5).f0.f1) ((rd_T120 x0 x5).f0.f2.f0) ((rd_T120 x0 x5).f0.f2.f1) ((rd_T120 x0 x5).f0.f2.f2) ((rd_T120 x0 x5).f0.f2.f3)).bind fun t593 => (if t593 = true then (if ((rd_T120 x0 x5).f0.f2.f0) = 5 then (some ((([] : List (S181))), false)) else (spec_RunHistory.l0L x0 x4 (wrap64 (x5 + 1)))) else (some ((([] : List (S181))), false)))) else (none))) else (spec_RunHistory.l1L x0 x4 0) := by
  refine LimIs.unique (spec_RunHistory.l0L_is x0 x4 x5) (LimIs.step1 (by simp only [spec_RunHistory.l0]) ?_)
  simp only [spec_RunHistory.l0]
  repeat' with_reducible first | exact LimIs.const _ | exact spec_EntryValid.fL_is .. | exact spec_RunHistory.l0L_is .. | exact spec_RunHistory.l1L_is .. | refine LimIs.ite ?_ ?_ | refine LimIs.bind ?_ (fun _ => ?_)
theorem spec_RunHistory.l1L_eq (x0 : List (S120)) (x4 : List (S181)) (x6 : Int) : spec_RunHistory.l1L x0 x4 x6 = if x6 < (x0.length : Int) then (if 0 ≤ x6 then ((spec_l29one.fL x4 ((rd_T120 x0 x6).f0.f0) ((rd_T120 x0 x6).f0.f1) ((rd_T120 x0 x6).f0.f2.f0) ((rd_T120 x0 x6).f0.f2.f1) ((rd_T120 x0 x6).f0.f2.f2) ((rd_T120 x0 x6).f0.f2.f3) ((rd_T120 x0 x6).f1)).bind fun bt602 => (if bt602.2 = true then (spec_RunHistory.l1L x0 bt602.1 (wrap64 (x6 + 1))) else (some ((([] : List (S181))), false)))) else (none)) else (some (x4, true)) := by
  refine LimIs.unique (spec_RunHistory.l1L_is x0 x4 x6) (LimIs.step1 (by simp only [spec_RunHistory.l1]) ?_)
  simp only [spec_RunHistory.l1]
  repeat' with_reducible first | exact LimIs.const _ | exact spec_RunHistory.l1L_is .. | exact spec_l29one.fL_is .. | refine LimIs.ite ?_ ?_ | refine LimIs.bind ?_ (fun _ => ?_)
theorem spec_RunHistory.fL_eq (l0 : List (S120)) : spec_RunHistory.fL l0 = spec_RunHistory.l0L l0 (([] : List (S181))) 0 := by
  refine LimIs.unique (spec_RunHistory.fL_is l0) ?_
  unfold spec_RunHistory.f
  repeat' with_reducible first | exact LimIs.const _ | exact spec_RunHistory.l0L_is .. | refine LimIs.ite ?_ ?_ | refine LimIs.bind ?_ (fun _ => ?_)
/-! ### spec_RepliesRight -/
noncomputable def spec_RepliesRight.l0L (x0 : List (S32)) (x1 : List Int) (x5 : List (S120)) (x6 : Int) : Option (Bool) := Lim (fun k => spec_RepliesRight.l0 k x0 x1 x5 x6)
theorem spec_RepliesRight.l0L_is (x0 : List (S32)) (x1 : List Int) (x5 : List (S120)) (x6 : Int) : LimIs (fun k => spec_RepliesRight.l0 k x0 x1 x5 x6) (spec_RepliesRight.l0L x0 x1 x5 x6) := LimIs.of_mono (fun k r h => (spec_RepliesRight.mono_l k) x0 x1 x5 x6 r h)
noncomputable def spec_RepliesRight.fL (l0 : List (S32)) (l1 : List Int) : Option (Bool) := Lim (fun k => spec_RepliesRight.f k l0 l1)
theorem spec_RepliesRight.fL_is (l0 : List (S32)) (l1 : List Int) : LimIs (fun k => spec_RepliesRight.f k l0 l1) (spec_RepliesRight.fL l0 l1) := LimIs.of_mono (fun k r h => spec_RepliesRight.mono l0 l1 k r h)
theorem spec_RepliesRight.l0L_eq (x0 : List (S32)) (x1 : List Int) (x5 : List (S120)) (x6 : Int) : spec_RepliesRight.l0L x0 x1 x5 x6 = if x6 < (x1.length : Int) then (if 0 ≤ x6 then (if 0 ≤ (rd x1 x6) then (if (rd x1 x6) < (x0.length : Int) then ((spec_ResultValid.fL ((rd_T32 x0 (rd x1 x6)).f0) ((rd_T32 x0 (rd x1 x6)).f1) ((rd_T32 x0 (rd x1 x6)).f2.f0) ((rd_T32 x0 (rd x1 x6)).f2.f1) ((rd_T32 x0 (rd x1 x6)).f2.f2) ((rd_T32 x0 (rd x1 x6)).f2.f3) ((rd_T32 x0 (rd x1 x6)).f3) ((rd_T32 x0 (rd x1 x6)).f4) ((rd_T32 x0 (rd x1 x6)).f5)).bind fun t616 => (if t616 = true then (if x5.length < 2199023255552 then (spec_RepliesRight.l0L x0 x1 (x5 ++ [(⟨(⟨(rd_T32 x0 (rd x1 x6)).f0, (rd_T32 x0 (rd x1 x6)).f1, (⟨(rd_T32 x0 (rd x1 x6)).f2.f0, (rd_T32 x0 (rd x1 x6)).f2.f1, (rd_T32 x0 (rd x1 x6)).f2.f2, (rd_T32 x0 (rd x1 x6)).f2.f3⟩ : S30)⟩ : S118), (rd_T32 x0 (rd x1 x6)).f3⟩ : S120)]) (wrap64 (x6 + 1))) else (none)) else (some false))) else (none)) else (none)) else (none)) else ((spec_RunHistory.fL x5).bind fun bt620 => (some bt620.2)) := by
  refine LimIs.unique (spec_RepliesRight.l0L_is x0 x1 x5 x6) (LimIs.step1 (by simp only [spec_RepliesRight.l0]) ?_)
  simp only [spec_RepliesRight.l0]
  repeat' with_reducible first | exact LimIs.const _ | exact spec_RepliesRight.l0L_is .. | exact spec_ResultValid.fL_is .. | exact spec_RunHistory.fL_is .. | refine LimIs.ite ?_ ?_ | refine LimIs.bind ?_ (fun _ => ?_)
theorem spec_RepliesRight.fL_eq (l0 : List (S32)) (l1 : List Int) : spec_RepliesRight.fL l0 l1 = (spec_OrderValid.fL (l0.length : Int) l1).bind fun t609 => (if t609 = true then (spec_RepliesRight.l0L l0 l1 (([] : List (S120))) 0) else (some false)) := by
  refine LimIs.unique (spec_RepliesRight.fL_is l0 l1) ?_
  unfold spec_RepliesRight.f
  repeat' with_reducible first | exact LimIs.const _ | exact spec_OrderValid.fL_is .. | exact spec_RepliesRight.l0L_is .. | refine LimIs.ite ?_ ?_ | refine LimIs.bind ?_ (fun _ => ?_)
/-! ### impl_keysFrom -/
noncomputable def impl_keysFrom.fL (a0 : Int) : Option (Int) := Lim (fun k => impl_keysFrom.f k a0)
theorem impl_keysFrom.fL_is (a0 : Int) : LimIs (fun k => impl_keysFrom.f k a0) (impl_keysFrom.fL a0) := LimIs.of_mono (fun k r h => impl_keysFrom.mono a0 k r h)
theorem impl_keysFrom.fL_eq (a0 : Int) : impl_keysFrom.fL a0 = if a0 ≥ 4 then (some 1) else ((impl_keysFrom.fL (wrap64 (a0 + 1))).bind fun t624 => (some (wrap64 (1 + (wrap64 (26 * t624)))))) := by
  refine LimIs.unique (impl_keysFrom.fL_is a0) (LimIs.step1 (by simp only [impl_keysFrom.f]) ?_)
  simp only [impl_keysFrom.f]
  repeat' with_reducible first | exact LimIs.const _ | exact impl_keysFrom.fL_is .. | refine LimIs.ite ?_ ?_ | refine LimIs.bind ?_ (fun _ => ?_)
/-! ### impl_rankBelow -/
noncomputable def impl_rankBelow.fL (a0 : ByteArray) (a1 : Int) : Option (Int) := Lim (fun k => impl_rankBelow.f k a0 a1)
theorem impl_rankBelow.fL_is (a0 : ByteArray) (a1 : Int) : LimIs (fun k => impl_rankBelow.f k a0 a1) (impl_rankBelow.fL a0 a1) := LimIs.of_mono (fun k r h => impl_rankBelow.mono a0 a1 k r h)
theorem impl_rankBelow.fL_eq (a0 : ByteArray) (a1 : Int) : impl_rankBelow.fL a0 a1 = if a0.toList = ([] : List UInt8) then (some 0) else (if 0 < (a0.size : Int) then ((impl_keysFrom.fL a1).bind fun t625 => (if 1 ≤ (a0.size : Int) then ((impl_rankBelow.fL (a0.extract 1 a0.size) (wrap64 (a1 + 1))).bind fun t626 => (some (wrap64 ((wrap64 (1 + (wrap64 ((((bt a0 0) - 97) % 256) * t625)))) + t626)))) else (none))) else (none)) := by
  refine LimIs.unique (impl_rankBelow.fL_is a0 a1) (LimIs.step1 (by simp only [impl_rankBelow.f]) ?_)
  simp only [impl_rankBelow.f]
  repeat' with_reducible first | exact LimIs.const _ | exact impl_keysFrom.fL_is .. | exact impl_rankBelow.fL_is .. | refine LimIs.ite ?_ ?_ | refine LimIs.bind ?_ (fun _ => ?_)
/-! ### impl_KeyRank -/
noncomputable def impl_KeyRank.fL (a0 : ByteArray) : Option (Int) := Lim (fun k => impl_KeyRank.f k a0)
theorem impl_KeyRank.fL_is (a0 : ByteArray) : LimIs (fun k => impl_KeyRank.f k a0) (impl_KeyRank.fL a0) := LimIs.of_mono (fun k r h => impl_KeyRank.mono a0 k r h)
theorem impl_KeyRank.fL_eq (a0 : ByteArray) : impl_KeyRank.fL a0 = (impl_KeyValid.fL a0).bind fun t627 => (if t627 = true then ((impl_rankBelow.fL a0 1).bind fun t628 => (some (wrap64 (t628 - 1)))) else (some (-1))) := by
  refine LimIs.unique (impl_KeyRank.fL_is a0) ?_
  unfold impl_KeyRank.f
  repeat' with_reducible first | exact LimIs.const _ | exact impl_KeyValid.fL_is .. | exact impl_rankBelow.fL_is .. | refine LimIs.ite ?_ ?_ | refine LimIs.bind ?_ (fun _ => ?_)
/-! ### laws_alive -/
noncomputable def laws_alive.fL : Option (Bool) := Lim (fun k => laws_alive.f k)
theorem laws_alive.fL_is : LimIs (fun k => laws_alive.f k) (laws_alive.fL) := LimIs.of_mono (fun k r h => laws_alive.mono k r h)
theorem laws_alive.fL_eq : laws_alive.fL = (impl_KeyRank.fL (⟨#[97, 97]⟩ : ByteArray)).bind fun t629 => (if t629 = 1 then ((impl_KeyRank.fL (⟨#[]⟩ : ByteArray)).bind fun t630 => (some (t630 == (-1)))) else (some false)) := by
  refine LimIs.unique (laws_alive.fL_is) ?_
  unfold laws_alive.f
  repeat' with_reducible first | exact LimIs.const _ | exact impl_KeyRank.fL_is .. | refine LimIs.ite ?_ ?_ | refine LimIs.bind ?_ (fun _ => ?_)
/-! ### laws_FnRepliesRight -/
noncomputable def laws_FnRepliesRight.j0L (x3 : List (S32)) (x4 : List Int) (x36 : Bool) : Option (Bool) := Lim (fun k => laws_FnRepliesRight.j0 k x3 x4 x36)
theorem laws_FnRepliesRight.j0L_is (x3 : List (S32)) (x4 : List Int) (x36 : Bool) : LimIs (fun k => laws_FnRepliesRight.j0 k x3 x4 x36) (laws_FnRepliesRight.j0L x3 x4 x36) := LimIs.of_mono (fun k r h => (laws_FnRepliesRight.mono_l k).1 x3 x4 x36 r h)
noncomputable def laws_FnRepliesRight.l0L (x3 : List (S32)) (x4 : List Int) (x6 : Int) : Option (Bool) := Lim (fun k => laws_FnRepliesRight.l0 k x3 x4 x6)
theorem laws_FnRepliesRight.l0L_is (x3 : List (S32)) (x4 : List Int) (x6 : Int) : LimIs (fun k => laws_FnRepliesRight.l0 k x3 x4 x6) (laws_FnRepliesRight.l0L x3 x4 x6) := LimIs.of_mono (fun k r h => (laws_FnRepliesRight.mono_l k).2.1 x3 x4 x6 r h)
noncomputable def laws_FnRepliesRight.j2L (x3 : List (S32)) (x4 : List Int) (x6 : Int) (x57 : Bool) : Option (Bool) := Lim (fun k => laws_FnRepliesRight.j2 k x3 x4 x6 x57)
theorem laws_FnRepliesRight.j2L_is (x3 : List (S32)) (x4 : List Int) (x6 : Int) (x57 : Bool) : LimIs (fun k => laws_FnRepliesRight.j2 k x3 x4 x6 x57) (laws_FnRepliesRight.j2L x3 x4 x6 x57) := LimIs.of_mono (fun k r h => (laws_FnRepliesRight.mono_l k).2.2 x3 x4 x6 x57 r h)
noncomputable def laws_FnRepliesRight.fL (l0 : List Int) : Option (Bool) := Lim (fun k => laws_FnRepliesRight.f k l0)
theorem laws_FnRepliesRight.fL_is (l0 : List Int) : LimIs (fun k => laws_FnRepliesRight.f k l0) (laws_FnRepliesRight.fL l0) := LimIs.of_mono (fun k r h => laws_FnRepliesRight.mono l0 k r h)
theorem laws_FnRepliesRight.j0L_eq (x3 : List (S32)) (x4 : List Int) (x36 : Bool) : laws_FnRepliesRight.j0L x3 x4 x36 = if x36 = true then ((laws_alive.fL).bind fun t639 => (some t639)) else (laws_FnRepliesRight.l0L x3 x4 0) := by
  refine LimIs.unique (laws_FnRepliesRight.j0L_is x3 x4 x36) (LimIs.step1 (by simp only [laws_FnRepliesRight.j0]) ?_)
  simp only [laws_FnRepliesRight.j0]
  repeat' with_reducible first | exact LimIs.const _ | exact laws_FnRepliesRight.l0L_is .. | exact laws_alive.fL_is .. | refine LimIs.ite ?_ ?_ | refine LimIs.bind ?_ (fun _ => ?_)
theorem laws_FnRepliesRight.l0L_eq (x3 : List (S32)) (x4 : List Int) (x6 : Int) : laws_FnRepliesRight.l0L x3 x4 x6 = if x6 < (x4.length : Int) then (if 0 ≤ x6 then (if (rd x4 x6) < 0 then (laws_FnRepliesRight.j2L x3 x4 x6 true) else (laws_FnRepliesRight.j2L x3 x4 x6 (decide ((rd x4 x6) ≥ (x3.length : Int))))) else (none)) else (some true) := by
  refine LimIs.unique (laws_FnRepliesRight.l0L_is x3 x4 x6) (LimIs.step1 (by simp only [laws_FnRepliesRight.l0]) ?_)
  simp only [laws_FnRepliesRight.l0]
  repeat' with_reducible first | exact LimIs.const _ | exact laws_FnRepliesRight.j2L_is .. | refine LimIs.ite ?_ ?_ | refine LimIs.bind ?_ (fun _ => ?_)
theorem laws_FnRepliesRight.j2L_eq (x3 : List (S32)) (x4 : List Int) (x6 : Int) (x57 : Bool) : laws_FnRepliesRight.j2L x3 x4 x6 x57 = if x57 = true then (some false) else (if 0 ≤ x6 then (if x6 < (x4.length : Int) then (if 0 ≤ (rd x4 x6) then (if (rd x4 x6) < (x3.length : Int) then (if ((rd_T32 x3 (rd x4 x6)).f3) = (-2) then (laws_FnRepliesRight.l0L x3 x4 (wrap64 (x6 + 1))) else (some (((rd_T32 x3 (rd x4 x6)).f3) == (-1)))) else (none)) else (none)) else (none)) else (none)) := by
  refine LimIs.unique (laws_FnRepliesRight.j2L_is x3 x4 x6 x57) (LimIs.step1 (by simp only [laws_FnRepliesRight.j2]) ?_)
  simp only [laws_FnRepliesRight.j2]
  repeat' with_reducible first | exact LimIs.const _ | exact laws_FnRepliesRight.l0L_is .. | refine LimIs.ite ?_ ?_ | refine LimIs.bind ?_ (fun _ => ?_)
theorem laws_FnRepliesRight.fL_eq (l0 : List Int) : laws_FnRepliesRight.fL l0 = if (l0.length : Int) > 1048576 then (some true) else ((spec_DrawRepliesRight.fL l0).bind fun bt631 => ((impl_RepliesRight.fL bt631.1 bt631.2).bind fun t637 => ((spec_RepliesRight.fL bt631.1 bt631.2).bind fun t638 => (if (t637 != t638) = true then (some false) else (if t637 = true then (if (bt631.2.length : Int) = 0 then (laws_FnRepliesRight.j0L bt631.1 bt631.2 true) else (laws_FnRepliesRight.j0L bt631.1 bt631.2 (decide ((bt631.2.length : Int) > (bt631.1.length : Int))))) else (laws_FnRepliesRight.j0L bt631.1 bt631.2 true)))))) := by
  refine LimIs.unique (laws_FnRepliesRight.fL_is l0) ?_
  unfold laws_FnRepliesRight.f
  repeat' with_reducible first | exact LimIs.const _ | exact impl_RepliesRight.fL_is .. | exact laws_FnRepliesRight.j0L_is .. | exact spec_DrawRepliesRight.fL_is .. | exact spec_RepliesRight.fL_is .. | refine LimIs.ite ?_ ?_ | refine LimIs.bind ?_ (fun _ => ?_)
end Go.Proofs.Ytcciackemicbbaa.PFnRepliesRight
