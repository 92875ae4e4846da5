/- The limits of the printed functions, and their equations. Written by lim.py out of the print. No condition. -/
import Derived.Test.YtpeifepnaecjiaaPFnTokenStepx2
import Derived.Test.YtpeifepnaecjiaaLim
namespace Go.Proofs.Ytpeifepnaecjiaa.PFnTokenStep
open Go.RowKit Go.Proofs.YtpeifepnaecjiaaW.PrintWords Go.Proofs.YtpeifepnaecjiaaW.PrintLast Go.Proofs.YtpeifepnaecjiaaW.PrintMore Go.Proofs.Ytpeifepnaecjiaa.Lim
set_option linter.unusedVariables false

/-! ### impl_TokenStep -/
noncomputable def impl_TokenStep.j0L (x0 : Int) (x1 : Bool) (x6 : Bool) : Option (Int × Bool) := Lim (fun k => impl_TokenStep.j0 k x0 x1 x6)
theorem impl_TokenStep.j0L_is (x0 : Int) (x1 : Bool) (x6 : Bool) : LimIs (fun k => impl_TokenStep.j0 k x0 x1 x6) (impl_TokenStep.j0L x0 x1 x6) := LimIs.of_mono (fun k r h => (impl_TokenStep.mono_l k) x0 x1 x6 r h)
noncomputable def impl_TokenStep.fL (a0 : Int) (a1 : Bool) : Option (Int × Bool) := Lim (fun k => impl_TokenStep.f k a0 a1)
theorem impl_TokenStep.fL_is (a0 : Int) (a1 : Bool) : LimIs (fun k => impl_TokenStep.f k a0 a1) (impl_TokenStep.fL a0 a1) := LimIs.of_mono (fun k r h => impl_TokenStep.mono a0 a1 k r h)
theorem impl_TokenStep.j0L_eq (x0 : Int) (x1 : Bool) (x6 : Bool) : impl_TokenStep.j0L x0 x1 x6 = if x6 = true then (some ((-1), false)) else (if x1 = true then (some (mn (wrap64 (x0 + 1)) 10, false)) else (if x0 ≥ 3 then (some (wrap64 (x0 - 3), true)) else (some (x0, false)))) := by
  refine LimIs.unique (impl_TokenStep.j0L_is x0 x1 x6) (LimIs.step (f := fun k => if x6 = true then (some ((-1), false)) else (if x1 = true then (some (mn (wrap64 (x0 + 1)) 10, false)) else (if x0 ≥ 3 then (some (wrap64 (x0 - 3), true)) else (some (x0, false))))) (by simp only [impl_TokenStep.j0]) (fun k => by simp only [impl_TokenStep.j0]) ?_)
  repeat' first
    | (with_reducible exact LimIs.const _)
    | (with_reducible refine LimIs.ite ?_ ?_)
    | (with_reducible refine LimIs.bind ?_ (fun _ => ?_))
theorem impl_TokenStep.fL_eq (a0 : Int) (a1 : Bool) : impl_TokenStep.fL a0 a1 = if a0 < 0 then (impl_TokenStep.j0L a0 a1 true) else (impl_TokenStep.j0L a0 a1 (decide (a0 > 10))) := by
  refine LimIs.unique (impl_TokenStep.fL_is a0 a1) ?_
  unfold impl_TokenStep.f
  repeat' first
    | (with_reducible exact LimIs.const _)
    | (with_reducible exact impl_TokenStep.j0L_is _ _ _)
    | (with_reducible refine LimIs.ite ?_ ?_)
    | (with_reducible refine LimIs.bind ?_ (fun _ => ?_))
/-! ### impl_lettersOnly -/
noncomputable def impl_lettersOnly.fL (a0 : ByteArray) : Option (Bool) := Lim (fun k => impl_lettersOnly.f k a0)
theorem impl_lettersOnly.fL_is (a0 : ByteArray) : LimIs (fun k => impl_lettersOnly.f k a0) (impl_lettersOnly.fL a0) := LimIs.of_mono (fun k r h => impl_lettersOnly.mono a0 k r h)
theorem impl_lettersOnly.fL_eq (a0 : ByteArray) : impl_lettersOnly.fL a0 = if a0.toList = ([] : List UInt8) then (some true) else (if 0 < (a0.size : Int) then (if (bt a0 0) ≥ 97 then (if (bt a0 0) ≤ 122 then (if 1 ≤ (a0.size : Int) then ((impl_lettersOnly.fL (a0.extract 1 a0.size)).bind fun t102 => (some t102)) else (none)) else (some false)) else (some false)) else (none)) := by
  refine LimIs.unique (impl_lettersOnly.fL_is a0) (LimIs.step (f := fun k => if a0.toList = ([] : List UInt8) then (some true) else (if 0 < (a0.size : Int) then (if (bt a0 0) ≥ 97 then (if (bt a0 0) ≤ 122 then (if 1 ≤ (a0.size : Int) then ((impl_lettersOnly.f k (a0.extract 1 a0.size)).bind fun t102 => (some t102)) else (none)) else (some false)) else (some false)) else (none))) (by simp only [impl_lettersOnly.f]) (fun k => by simp only [impl_lettersOnly.f]) ?_)
  repeat' first
    | (with_reducible exact LimIs.const _)
    | (with_reducible exact impl_lettersOnly.fL_is _)
    | (with_reducible refine LimIs.ite ?_ ?_)
    | (with_reducible refine LimIs.bind ?_ (fun _ => ?_))
/-! ### impl_KeyValid -/
noncomputable def impl_KeyValid.fL (a0 : ByteArray) : Option (Bool) := Lim (fun k => impl_KeyValid.f k a0)
theorem impl_KeyValid.fL_is (a0 : ByteArray) : LimIs (fun k => impl_KeyValid.f k a0) (impl_KeyValid.fL a0) := LimIs.of_mono (fun k r h => impl_KeyValid.mono a0 k r h)
theorem impl_KeyValid.fL_eq (a0 : ByteArray) : impl_KeyValid.fL a0 = if (a0.size : Int) < 1 then (some false) else (if (a0.size : Int) > 4 then (some false) else ((impl_lettersOnly.fL a0).bind fun t103 => (some t103))) := by
  refine LimIs.unique (impl_KeyValid.fL_is a0) ?_
  unfold impl_KeyValid.f
  repeat' first
    | (with_reducible exact LimIs.const _)
    | (with_reducible exact impl_lettersOnly.fL_is _)
    | (with_reducible refine LimIs.ite ?_ ?_)
    | (with_reducible refine LimIs.bind ?_ (fun _ => ?_))
/-! ### impl_keysFrom -/
noncomputable def impl_keysFrom.fL (a0 : Int) : Option (Int) := Lim (fun k => impl_keysFrom.f k a0)
theorem impl_keysFrom.fL_is (a0 : Int) : LimIs (fun k => impl_keysFrom.f k a0) (impl_keysFrom.fL a0) := LimIs.of_mono (fun k r h => impl_keysFrom.mono a0 k r h)
theorem impl_keysFrom.fL_eq (a0 : Int) : impl_keysFrom.fL a0 = if a0 ≥ 4 then (some 1) else ((impl_keysFrom.fL (wrap64 (a0 + 1))).bind fun t104 => (some (wrap64 (1 + (wrap64 (26 * t104)))))) := by
  refine LimIs.unique (impl_keysFrom.fL_is a0) (LimIs.step (f := fun k => if a0 ≥ 4 then (some 1) else ((impl_keysFrom.f k (wrap64 (a0 + 1))).bind fun t104 => (some (wrap64 (1 + (wrap64 (26 * t104))))))) (by simp only [impl_keysFrom.f]) (fun k => by simp only [impl_keysFrom.f]) ?_)
  repeat' first
    | (with_reducible exact LimIs.const _)
    | (with_reducible exact impl_keysFrom.fL_is _)
    | (with_reducible refine LimIs.ite ?_ ?_)
    | (with_reducible refine LimIs.bind ?_ (fun _ => ?_))
/-! ### impl_rankBelow -/
noncomputable def impl_rankBelow.fL (a0 : ByteArray) (a1 : Int) : Option (Int) := Lim (fun k => impl_rankBelow.f k a0 a1)
theorem impl_rankBelow.fL_is (a0 : ByteArray) (a1 : Int) : LimIs (fun k => impl_rankBelow.f k a0 a1) (impl_rankBelow.fL a0 a1) := LimIs.of_mono (fun k r h => impl_rankBelow.mono a0 a1 k r h)
theorem impl_rankBelow.fL_eq (a0 : ByteArray) (a1 : Int) : impl_rankBelow.fL a0 a1 = if a0.toList = ([] : List UInt8) then (some 0) else (if 0 < (a0.size : Int) then ((impl_keysFrom.fL a1).bind fun t105 => (if 1 ≤ (a0.size : Int) then ((impl_rankBelow.fL (a0.extract 1 a0.size) (wrap64 (a1 + 1))).bind fun t106 => (some (wrap64 ((wrap64 (1 + (wrap64 ((((bt a0 0) - 97) % 256) * t105)))) + t106)))) else (none))) else (none)) := by
  refine LimIs.unique (impl_rankBelow.fL_is a0 a1) (LimIs.step (f := fun k => if a0.toList = ([] : List UInt8) then (some 0) else (if 0 < (a0.size : Int) then ((impl_keysFrom.f k a1).bind fun t105 => (if 1 ≤ (a0.size : Int) then ((impl_rankBelow.f k (a0.extract 1 a0.size) (wrap64 (a1 + 1))).bind fun t106 => (some (wrap64 ((wrap64 (1 + (wrap64 ((((bt a0 0) - 97) % 256) * t105)))) + t106)))) else (none))) else (none))) (by simp only [impl_rankBelow.f]) (fun k => by simp only [impl_rankBelow.f]) ?_)
  repeat' first
    | (with_reducible exact LimIs.const _)
    | (with_reducible exact impl_keysFrom.fL_is _)
    | (with_reducible exact impl_rankBelow.fL_is _ _)
    | (with_reducible refine LimIs.ite ?_ ?_)
    | (with_reducible refine LimIs.bind ?_ (fun _ => ?_))
/-! ### impl_KeyRank -/
noncomputable def impl_KeyRank.fL (a0 : ByteArray) : Option (Int) := Lim (fun k => impl_KeyRank.f k a0)
theorem impl_KeyRank.fL_is (a0 : ByteArray) : LimIs (fun k => impl_KeyRank.f k a0) (impl_KeyRank.fL a0) := LimIs.of_mono (fun k r h => impl_KeyRank.mono a0 k r h)
theorem impl_KeyRank.fL_eq (a0 : ByteArray) : impl_KeyRank.fL a0 = (impl_KeyValid.fL a0).bind fun t107 => (if t107 = true then ((impl_rankBelow.fL a0 1).bind fun t108 => (some (wrap64 (t108 - 1)))) else (some (-1))) := by
  refine LimIs.unique (impl_KeyRank.fL_is a0) ?_
  unfold impl_KeyRank.f
  repeat' first
    | (with_reducible exact LimIs.const _)
    | (with_reducible exact impl_KeyValid.fL_is _)
    | (with_reducible exact impl_rankBelow.fL_is _ _)
    | (with_reducible refine LimIs.ite ?_ ?_)
    | (with_reducible refine LimIs.bind ?_ (fun _ => ?_))
/-! ### laws_alive -/
noncomputable def laws_alive.fL : Option (Bool) := Lim (fun k => laws_alive.f k)
theorem laws_alive.fL_is : LimIs (fun k => laws_alive.f k) (laws_alive.fL) := LimIs.of_mono (fun k r h => laws_alive.mono k r h)
theorem laws_alive.fL_eq : laws_alive.fL = (impl_KeyRank.fL (⟨#[97, 97]⟩ : ByteArray)).bind fun t109 => (if t109 = 1 then ((impl_KeyRank.fL (⟨#[]⟩ : ByteArray)).bind fun t110 => (some (t110 == (-1)))) else (some false)) := by
  refine LimIs.unique (laws_alive.fL_is) ?_
  unfold laws_alive.f
  repeat' first
    | (with_reducible exact LimIs.const _)
    | (with_reducible exact impl_KeyRank.fL_is _)
    | (with_reducible refine LimIs.ite ?_ ?_)
    | (with_reducible refine LimIs.bind ?_ (fun _ => ?_))
/-! ### spec_l20Rd_pick -/
noncomputable def spec_l20Rd_pick.j0L (x1 : Int) (x24 : Bool) (x1000 : List Int) (x1001 : Int) : Option (Int × Int) := Lim (fun k => spec_l20Rd_pick.j0 k x1 x24 x1000 x1001)
theorem spec_l20Rd_pick.j0L_is (x1 : Int) (x24 : Bool) (x1000 : List Int) (x1001 : Int) : LimIs (fun k => spec_l20Rd_pick.j0 k x1 x24 x1000 x1001) (spec_l20Rd_pick.j0L x1 x24 x1000 x1001) := LimIs.of_mono (fun k r h => (spec_l20Rd_pick.mono_l k) x1 x24 x1000 x1001 r h)
noncomputable def spec_l20Rd_pick.fL (s0_0 : List Int) (s0_1 : Int) (a1 : Int) : Option (Int × Int) := Lim (fun k => spec_l20Rd_pick.f k s0_0 s0_1 a1)
theorem spec_l20Rd_pick.fL_is (s0_0 : List Int) (s0_1 : Int) (a1 : Int) : LimIs (fun k => spec_l20Rd_pick.f k s0_0 s0_1 a1) (spec_l20Rd_pick.fL s0_0 s0_1 a1) := LimIs.of_mono (fun k r h => spec_l20Rd_pick.mono s0_0 s0_1 a1 k r h)
theorem spec_l20Rd_pick.j0L_eq (x1 : Int) (x24 : Bool) (x1000 : List Int) (x1001 : Int) : spec_l20Rd_pick.j0L x1 x24 x1000 x1001 = if x24 = true then (some (0, x1001)) else (if (wrap64 (x1001 - 1)) < (x1000.length : Int) then (if 0 ≤ (wrap64 (x1001 - 1)) then (if x1 = 0 then (none) else (some (Int.tmod (wrap64 (rd x1000 (wrap64 (x1001 - 1)))) x1, x1001))) else (none)) else (if (x1000.length : Int) = 0 then (none) else (if 0 ≤ (Int.tmod (wrap64 (x1001 - 1)) (x1000.length : Int)) then (if (Int.tmod (wrap64 (x1001 - 1)) (x1000.length : Int)) < (x1000.length : Int) then (if 0 ≤ (Int.tmod (wrap64 ((wrap64 ((wrap64 (x1001 - 1)) * 7)) + 3)) (x1000.length : Int)) then (if (Int.tmod (wrap64 ((wrap64 ((wrap64 (x1001 - 1)) * 7)) + 3)) (x1000.length : Int)) < (x1000.length : Int) then (if x1 = 0 then (none) else (some (Int.tmod (Go.bits .xor .i64 (wrap64 ((wrap64 ((wrap64 ((wrap64 ((wrap64 (rd x1000 (Int.tmod (wrap64 (x1001 - 1)) (x1000.length : Int)))) * 131)) + (wrap64 ((wrap64 (rd x1000 (Int.tmod (wrap64 ((wrap64 ((wrap64 (x1001 - 1)) * 7)) + 3)) (x1000.length : Int)))) * 1117)))) + (wrap64 ((wrap64 (x1001 - 1)) * 29)))) + (wrap64 ((wrap64 (Int.tdiv (wrap64 (x1001 - 1)) (x1000.length : Int))) * 53)))) (wrap64 (Int.tdiv (wrap64 ((wrap64 ((wrap64 ((wrap64 ((wrap64 (rd x1000 (Int.tmod (wrap64 (x1001 - 1)) (x1000.length : Int)))) * 131)) + (wrap64 ((wrap64 (rd x1000 (Int.tmod (wrap64 ((wrap64 ((wrap64 (x1001 - 1)) * 7)) + 3)) (x1000.length : Int)))) * 1117)))) + (wrap64 ((wrap64 (x1001 - 1)) * 29)))) + (wrap64 ((wrap64 (Int.tdiv (wrap64 (x1001 - 1)) (x1000.length : Int))) * 53)))) 64))) x1, x1001))) else (none)) else (none)) else (none)) else (none)))) := by
  refine LimIs.unique (spec_l20Rd_pick.j0L_is x1 x24 x1000 x1001) (LimIs.step (f := fun k => if x24 = true then (some (0, x1001)) else (if (wrap64 (x1001 - 1)) < (x1000.length : Int) then (if 0 ≤ (wrap64 (x1001 - 1)) then (if x1 = 0 then (none) else (some (Int.tmod (wrap64 (rd x1000 (wrap64 (x1001 - 1)))) x1, x1001))) else (none)) else (if (x1000.length : Int) = 0 then (none) else (if 0 ≤ (Int.tmod (wrap64 (x1001 - 1)) (x1000.length : Int)) then (if (Int.tmod (wrap64 (x1001 - 1)) (x1000.length : Int)) < (x1000.length : Int) then (if 0 ≤ (Int.tmod (wrap64 ((wrap64 ((wrap64 (x1001 - 1)) * 7)) + 3)) (x1000.length : Int)) then (if (Int.tmod (wrap64 ((wrap64 ((wrap64 (x1001 - 1)) * 7)) + 3)) (x1000.length : Int)) < (x1000.length : Int) then (if x1 = 0 then (none) else (some (Int.tmod (Go.bits .xor .i64 (wrap64 ((wrap64 ((wrap64 ((wrap64 ((wrap64 (rd x1000 (Int.tmod (wrap64 (x1001 - 1)) (x1000.length : Int)))) * 131)) + (wrap64 ((wrap64 (rd x1000 (Int.tmod (wrap64 ((wrap64 ((wrap64 (x1001 - 1)) * 7)) + 3)) (x1000.length : Int)))) * 1117)))) + (wrap64 ((wrap64 (x1001 - 1)) * 29)))) + (wrap64 ((wrap64 (Int.tdiv (wrap64 (x1001 - 1)) (x1000.length : Int))) * 53)))) (wrap64 (Int.tdiv (wrap64 ((wrap64 ((wrap64 ((wrap64 ((wrap64 (rd x1000 (Int.tmod (wrap64 (x1001 - 1)) (x1000.length : Int)))) * 131)) + (wrap64 ((wrap64 (rd x1000 (Int.tmod (wrap64 ((wrap64 ((wrap64 (x1001 - 1)) * 7)) + 3)) (x1000.length : Int)))) * 1117)))) + (wrap64 ((wrap64 (x1001 - 1)) * 29)))) + (wrap64 ((wrap64 (Int.tdiv (wrap64 (x1001 - 1)) (x1000.length : Int))) * 53)))) 64))) x1, x1001))) else (none)) else (none)) else (none)) else (none))))) (by simp only [spec_l20Rd_pick.j0]) (fun k => by simp only [spec_l20Rd_pick.j0]) ?_)
  repeat' first
    | (with_reducible exact LimIs.const _)
    | (with_reducible refine LimIs.ite ?_ ?_)
    | (with_reducible refine LimIs.bind ?_ (fun _ => ?_))
theorem spec_l20Rd_pick.fL_eq (s0_0 : List Int) (s0_1 : Int) (a1 : Int) : spec_l20Rd_pick.fL s0_0 s0_1 a1 = if a1 < 1 then (spec_l20Rd_pick.j0L a1 true s0_0 (wrap64 (s0_1 + 1))) else (spec_l20Rd_pick.j0L a1 ((s0_0.length : Int) == 0) s0_0 (wrap64 (s0_1 + 1))) := by
  refine LimIs.unique (spec_l20Rd_pick.fL_is s0_0 s0_1 a1) ?_
  unfold spec_l20Rd_pick.f
  repeat' first
    | (with_reducible exact LimIs.const _)
    | (with_reducible exact spec_l20Rd_pick.j0L_is _ _ _ _)
    | (with_reducible refine LimIs.ite ?_ ?_)
    | (with_reducible refine LimIs.bind ?_ (fun _ => ?_))
/-! ### spec_DrawTokenStep -/
noncomputable def spec_DrawTokenStep.fL (l0 : List Int) : Option (Int × Bool) := Lim (fun k => spec_DrawTokenStep.f k l0)
theorem spec_DrawTokenStep.fL_is (l0 : List Int) : LimIs (fun k => spec_DrawTokenStep.f k l0) (spec_DrawTokenStep.fL l0) := LimIs.of_mono (fun k r h => spec_DrawTokenStep.mono l0 k r h)
theorem spec_DrawTokenStep.fL_eq (l0 : List Int) : spec_DrawTokenStep.fL l0 = (spec_l20Open.f l0).bind fun bt120 => ((spec_l20Rd_pick.fL bt120.1 bt120.2 13).bind fun bt123 => ((spec_l20Rd_pick.fL bt120.1 bt123.2 2).bind fun bt125 => (some (wrap64 (bt123.1 - 1), (bt125.1 == 0))))) := by
  refine LimIs.unique (spec_DrawTokenStep.fL_is l0) ?_
  unfold spec_DrawTokenStep.f
  repeat' first
    | (with_reducible exact LimIs.const _)
    | (with_reducible exact spec_l20Rd_pick.fL_is _ _ _)
    | (with_reducible refine LimIs.ite ?_ ?_)
    | (with_reducible refine LimIs.bind ?_ (fun _ => ?_))
/-! ### laws_FnTokenStep -/
noncomputable def laws_FnTokenStep.j0L (x3 : Int) (x4 : Bool) (x5 : Int) (x6 : Bool) (x36 : Bool) : Option (Bool) := Lim (fun k => laws_FnTokenStep.j0 k x3 x4 x5 x6 x36)
theorem laws_FnTokenStep.j0L_is (x3 : Int) (x4 : Bool) (x5 : Int) (x6 : Bool) (x36 : Bool) : LimIs (fun k => laws_FnTokenStep.j0 k x3 x4 x5 x6 x36) (laws_FnTokenStep.j0L x3 x4 x5 x6 x36) := LimIs.of_mono (fun k r h => (laws_FnTokenStep.mono_l k) x3 x4 x5 x6 x36 r h)
noncomputable def laws_FnTokenStep.fL (l0 : List Int) : Option (Bool) := Lim (fun k => laws_FnTokenStep.f k l0)
theorem laws_FnTokenStep.fL_is (l0 : List Int) : LimIs (fun k => laws_FnTokenStep.f k l0) (laws_FnTokenStep.fL l0) := LimIs.of_mono (fun k r h => laws_FnTokenStep.mono l0 k r h)
theorem laws_FnTokenStep.j0L_eq (x3 : Int) (x4 : Bool) (x5 : Int) (x6 : Bool) (x36 : Bool) : laws_FnTokenStep.j0L x3 x4 x5 x6 x36 = if x36 = true then (some false) else (if x5 < 0 then (if x5 = (-1) then (if x6 = true then (some false) else ((laws_alive.fL).bind fun t133 => (some t133))) else (some false)) else (if x5 ≤ 10 then (if (x6 == (x5 == (wrap64 (x3 - 3)))) = true then (if x4 = true then (if x6 = true then (some false) else (some (decide (x5 ≥ x3)))) else (some true)) else (some false)) else (some false))) := by
  refine LimIs.unique (laws_FnTokenStep.j0L_is x3 x4 x5 x6 x36) (LimIs.step (f := fun k => if x36 = true then (some false) else (if x5 < 0 then (if x5 = (-1) then (if x6 = true then (some false) else ((laws_alive.f k).bind fun t133 => (some t133))) else (some false)) else (if x5 ≤ 10 then (if (x6 == (x5 == (wrap64 (x3 - 3)))) = true then (if x4 = true then (if x6 = true then (some false) else (some (decide (x5 ≥ x3)))) else (some true)) else (some false)) else (some false)))) (by simp only [laws_FnTokenStep.j0]) (fun k => by simp only [laws_FnTokenStep.j0]) ?_)
  repeat' first
    | (with_reducible exact LimIs.const _)
    | (with_reducible exact laws_alive.fL_is)
    | (with_reducible refine LimIs.ite ?_ ?_)
    | (with_reducible refine LimIs.bind ?_ (fun _ => ?_))
theorem laws_FnTokenStep.fL_eq (l0 : List Int) : laws_FnTokenStep.fL l0 = if (l0.length : Int) > 1048576 then (some true) else ((spec_DrawTokenStep.fL l0).bind fun bt127 => ((impl_TokenStep.fL bt127.1 bt127.2).bind fun bt129 => ((spec_TokenStep.f bt127.1 bt127.2).bind fun bt131 => (if bt129.1 = bt131.1 then (laws_FnTokenStep.j0L bt127.1 bt127.2 bt129.1 bt129.2 (bt129.2 != bt131.2)) else (laws_FnTokenStep.j0L bt127.1 bt127.2 bt129.1 bt129.2 true))))) := by
  refine LimIs.unique (laws_FnTokenStep.fL_is l0) ?_
  unfold laws_FnTokenStep.f
  repeat' first
    | (with_reducible exact LimIs.const _)
    | (with_reducible exact impl_TokenStep.fL_is _ _)
    | (with_reducible exact laws_FnTokenStep.j0L_is _ _ _ _ _)
    | (with_reducible exact spec_DrawTokenStep.fL_is _)
    | (with_reducible refine LimIs.ite ?_ ?_)
    | (with_reducible refine LimIs.bind ?_ (fun _ => ?_))
end Go.Proofs.Ytpeifepnaecjiaa.PFnTokenStep
