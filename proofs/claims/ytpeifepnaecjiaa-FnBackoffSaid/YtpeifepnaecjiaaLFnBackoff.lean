/- The limits of the printed functions, and their equations. Written by lim.py out of the print. No condition. -/
import Derived.Test.YtpeifepnaecjiaaPFnBackoffx2
import Derived.Test.YtpeifepnaecjiaaLim
namespace Go.Proofs.Ytpeifepnaecjiaa.PFnBackoff
open Go.RowKit Go.Proofs.YtpeifepnaecjiaaW.PrintWords Go.Proofs.YtpeifepnaecjiaaW.PrintLast Go.Proofs.YtpeifepnaecjiaaW.PrintMore Go.Proofs.Ytpeifepnaecjiaa.Lim
set_option linter.unusedVariables false

/-! ### spec_Backoff -/
noncomputable def spec_Backoff.l0L (x0 : Int) (x3 : Int) (x4 : Int) : Option (Int) := Lim (fun k => spec_Backoff.l0 k x0 x3 x4)
theorem spec_Backoff.l0L_is (x0 : Int) (x3 : Int) (x4 : Int) : LimIs (fun k => spec_Backoff.l0 k x0 x3 x4) (spec_Backoff.l0L x0 x3 x4) := LimIs.of_mono (fun k r h => (spec_Backoff.mono_l k) x0 x3 x4 r h)
noncomputable def spec_Backoff.fL (a0 : Int) : Option (Int) := Lim (fun k => spec_Backoff.f k a0)
theorem spec_Backoff.fL_is (a0 : Int) : LimIs (fun k => spec_Backoff.f k a0) (spec_Backoff.fL a0) := LimIs.of_mono (fun k r h => spec_Backoff.mono a0 k r h)
theorem spec_Backoff.l0L_eq (x0 : Int) (x3 : Int) (x4 : Int) : spec_Backoff.l0L x0 x3 x4 = if x4 < x0 then (spec_Backoff.l0L x0 (mn 32 (wrap64 (2 * x3))) (wrap64 (x4 + 1))) else (some x3) := by
  refine LimIs.unique (spec_Backoff.l0L_is x0 x3 x4) (LimIs.step (f := fun k => if x4 < x0 then (spec_Backoff.l0 k x0 (mn 32 (wrap64 (2 * x3))) (wrap64 (x4 + 1))) else (some x3)) (by simp only [spec_Backoff.l0]) (fun k => by simp only [spec_Backoff.l0]) ?_)
  repeat' first
    | (with_reducible exact LimIs.const _)
    | (with_reducible exact spec_Backoff.l0L_is _ _ _)
    | (with_reducible refine LimIs.ite ?_ ?_)
    | (with_reducible refine LimIs.bind ?_ (fun _ => ?_))
theorem spec_Backoff.fL_eq (a0 : Int) : spec_Backoff.fL a0 = (spec_l1In.f a0 1 10).bind fun t101 => (if t101 = true then (spec_Backoff.l0L a0 1 1) else (some (-1))) := by
  refine LimIs.unique (spec_Backoff.fL_is a0) ?_
  unfold spec_Backoff.f
  repeat' first
    | (with_reducible exact LimIs.const _)
    | (with_reducible exact spec_Backoff.l0L_is _ _ _)
    | (with_reducible refine LimIs.ite ?_ ?_)
    | (with_reducible refine LimIs.bind ?_ (fun _ => ?_))
/-! ### impl_Backoff -/
noncomputable def impl_Backoff.j0L (x0 : Int) (x9 : Bool) : Option (Int) := Lim (fun k => impl_Backoff.j0 k x0 x9)
theorem impl_Backoff.j0L_is (x0 : Int) (x9 : Bool) : LimIs (fun k => impl_Backoff.j0 k x0 x9) (impl_Backoff.j0L x0 x9) := LimIs.of_mono (fun k r h => (impl_Backoff.mono_l k).1 x0 x9 r h)
noncomputable def impl_Backoff.l0L (x3 : Int) (x11 : Int) (x12 : Int) : Option (Int) := Lim (fun k => impl_Backoff.l0 k x3 x11 x12)
theorem impl_Backoff.l0L_is (x3 : Int) (x11 : Int) (x12 : Int) : LimIs (fun k => impl_Backoff.l0 k x3 x11 x12) (impl_Backoff.l0L x3 x11 x12) := LimIs.of_mono (fun k r h => (impl_Backoff.mono_l k).2 x3 x11 x12 r h)
noncomputable def impl_Backoff.fL (a0 : Int) : Option (Int) := Lim (fun k => impl_Backoff.f k a0)
theorem impl_Backoff.fL_is (a0 : Int) : LimIs (fun k => impl_Backoff.f k a0) (impl_Backoff.fL a0) := LimIs.of_mono (fun k r h => impl_Backoff.mono a0 k r h)
theorem impl_Backoff.j0L_eq (x0 : Int) (x9 : Bool) : impl_Backoff.j0L x0 x9 = if x9 = true then (some (-1)) else (impl_Backoff.l0L 1 (wrap64 (x0 - 1)) 0) := by
  refine LimIs.unique (impl_Backoff.j0L_is x0 x9) (LimIs.step (f := fun k => if x9 = true then (some (-1)) else (impl_Backoff.l0 k 1 (wrap64 (x0 - 1)) 0)) (by simp only [impl_Backoff.j0]) (fun k => by simp only [impl_Backoff.j0]) ?_)
  repeat' first
    | (with_reducible exact LimIs.const _)
    | (with_reducible exact impl_Backoff.l0L_is _ _ _)
    | (with_reducible refine LimIs.ite ?_ ?_)
    | (with_reducible refine LimIs.bind ?_ (fun _ => ?_))
theorem impl_Backoff.l0L_eq (x3 : Int) (x11 : Int) (x12 : Int) : impl_Backoff.l0L x3 x11 x12 = if x12 < x11 then (impl_Backoff.l0L (mn (wrap64 (2 * x3)) 32) x11 (wrap64 (x12 + 1))) else (some x3) := by
  refine LimIs.unique (impl_Backoff.l0L_is x3 x11 x12) (LimIs.step (f := fun k => if x12 < x11 then (impl_Backoff.l0 k (mn (wrap64 (2 * x3)) 32) x11 (wrap64 (x12 + 1))) else (some x3)) (by simp only [impl_Backoff.l0]) (fun k => by simp only [impl_Backoff.l0]) ?_)
  repeat' first
    | (with_reducible exact LimIs.const _)
    | (with_reducible exact impl_Backoff.l0L_is _ _ _)
    | (with_reducible refine LimIs.ite ?_ ?_)
    | (with_reducible refine LimIs.bind ?_ (fun _ => ?_))
theorem impl_Backoff.fL_eq (a0 : Int) : impl_Backoff.fL a0 = if a0 < 1 then (impl_Backoff.j0L a0 true) else (impl_Backoff.j0L a0 (decide (a0 > 10))) := by
  refine LimIs.unique (impl_Backoff.fL_is a0) ?_
  unfold impl_Backoff.f
  repeat' first
    | (with_reducible exact LimIs.const _)
    | (with_reducible exact impl_Backoff.j0L_is _ _)
    | (with_reducible refine LimIs.ite ?_ ?_)
    | (with_reducible refine LimIs.bind ?_ (fun _ => ?_))
/-! ### spec_l20Rd_pick -/
noncomputable def spec_l20Rd_pick.j0L (x1 : Int) (x24 : Bool) (x1000 : List Int) (x1001 : Int) : Option (Int × Int) := Lim (fun k => spec_l20Rd_pick.j0 k x1 x24 x1000 x1001)
theorem spec_l20Rd_pick.j0L_is (x1 : Int) (x24 : Bool) (x1000 : List Int) (x1001 : Int) : LimIs (fun k => spec_l20Rd_pick.j0 k x1 x24 x1000 x1001) (spec_l20Rd_pick.j0L x1 x24 x1000 x1001) := LimIs.of_mono (fun k r h => (spec_l20Rd_pick.mono_l k) x1 x24 x1000 x1001 r h)
noncomputable def spec_l20Rd_pick.fL (s0_0 : List Int) (s0_1 : Int) (a1 : Int) : Option (Int × Int) := Lim (fun k => spec_l20Rd_pick.f k s0_0 s0_1 a1)
theorem spec_l20Rd_pick.fL_is (s0_0 : List Int) (s0_1 : Int) (a1 : Int) : LimIs (fun k => spec_l20Rd_pick.f k s0_0 s0_1 a1) (spec_l20Rd_pick.fL s0_0 s0_1 a1) := LimIs.of_mono (fun k r h => spec_l20Rd_pick.mono s0_0 s0_1 a1 k r h)
theorem spec_l20Rd_pick.j0L_eq (x1 : Int) (x24 : Bool) (x1000 : List Int) (x1001 : Int) : spec_l20Rd_pick.j0L x1 x24 x1000 x1001 = if x24 = true then (some (0, x1001)) else (if (wrap64 (x1001 - 1)) < (x1000.length : Int) then (if 0 ≤ (wrap64 (x1001 - 1)) then (if x1 = 0 then (none) else (some (Int.tmod (wrap64 (rd x1000 (wrap64 (x1001 - 1)))) x1, x1001))) else (none)) else (if (x1000.length : Int) = 0 then (none) else (if 0 ≤ (Int.tmod (wrap64 (x1001 - 1)) (x1000.length : Int)) then (if (Int.tmod (wrap64 (x1001 - 1)) (x1000.length : Int)) < (x1000.length : Int) then (if 0 ≤ (Int.tmod (wrap64 ((wrap64 ((wrap64 (x1001 - 1)) * 7)) + 3)) (x1000.length : Int)) then (if (Int.tmod (wrap64 ((wrap64 ((wrap64 (x1001 - 1)) * 7)) + 3)) (x1000.length : Int)) < (x1000.length : Int) then (if x1 = 0 then (none) else (some (Int.tmod (Go.bits .xor .i64 (wrap64 ((wrap64 ((wrap64 ((wrap64 ((wrap64 (rd x1000 (Int.tmod (wrap64 (x1001 - 1)) (x1000.length : Int)))) * 131)) + (wrap64 ((wrap64 (rd x1000 (Int.tmod (wrap64 ((wrap64 ((wrap64 (x1001 - 1)) * 7)) + 3)) (x1000.length : Int)))) * 1117)))) + (wrap64 ((wrap64 (x1001 - 1)) * 29)))) + (wrap64 ((wrap64 (Int.tdiv (wrap64 (x1001 - 1)) (x1000.length : Int))) * 53)))) (wrap64 (Int.tdiv (wrap64 ((wrap64 ((wrap64 ((wrap64 ((wrap64 (rd x1000 (Int.tmod (wrap64 (x1001 - 1)) (x1000.length : Int)))) * 131)) + (wrap64 ((wrap64 (rd x1000 (Int.tmod (wrap64 ((wrap64 ((wrap64 (x1001 - 1)) * 7)) + 3)) (x1000.length : Int)))) * 1117)))) + (wrap64 ((wrap64 (x1001 - 1)) * 29)))) + (wrap64 ((wrap64 (Int.tdiv (wrap64 (x1001 - 1)) (x1000.length : Int))) * 53)))) 64))) x1, x1001))) else (none)) else (none)) else (none)) else (none)))) := by
  refine LimIs.unique (spec_l20Rd_pick.j0L_is x1 x24 x1000 x1001) (LimIs.step (f := fun k => if x24 = true then (some (0, x1001)) else (if (wrap64 (x1001 - 1)) < (x1000.length : Int) then (if 0 ≤ (wrap64 (x1001 - 1)) then (if x1 = 0 then (none) else (some (Int.tmod (wrap64 (rd x1000 (wrap64 (x1001 - 1)))) x1, x1001))) else (none)) else (if (x1000.length : Int) = 0 then (none) else (if 0 ≤ (Int.tmod (wrap64 (x1001 - 1)) (x1000.length : Int)) then (if (Int.tmod (wrap64 (x1001 - 1)) (x1000.length : Int)) < (x1000.length : Int) then (if 0 ≤ (Int.tmod (wrap64 ((wrap64 ((wrap64 (x1001 - 1)) * 7)) + 3)) (x1000.length : Int)) then (if (Int.tmod (wrap64 ((wrap64 ((wrap64 (x1001 - 1)) * 7)) + 3)) (x1000.length : Int)) < (x1000.length : Int) then (if x1 = 0 then (none) else (some (Int.tmod (Go.bits .xor .i64 (wrap64 ((wrap64 ((wrap64 ((wrap64 ((wrap64 (rd x1000 (Int.tmod (wrap64 (x1001 - 1)) (x1000.length : Int)))) * 131)) + (wrap64 ((wrap64 (rd x1000 (Int.tmod (wrap64 ((wrap64 ((wrap64 (x1001 - 1)) * 7)) + 3)) (x1000.length : Int)))) * 1117)))) + (wrap64 ((wrap64 (x1001 - 1)) * 29)))) + (wrap64 ((wrap64 (Int.tdiv (wrap64 (x1001 - 1)) (x1000.length : Int))) * 53)))) (wrap64 (Int.tdiv (wrap64 ((wrap64 ((wrap64 ((wrap64 ((wrap64 (rd x1000 (Int.tmod (wrap64 (x1001 - 1)) (x1000.length : Int)))) * 131)) + (wrap64 ((wrap64 (rd x1000 (Int.tmod (wrap64 ((wrap64 ((wrap64 (x1001 - 1)) * 7)) + 3)) (x1000.length : Int)))) * 1117)))) + (wrap64 ((wrap64 (x1001 - 1)) * 29)))) + (wrap64 ((wrap64 (Int.tdiv (wrap64 (x1001 - 1)) (x1000.length : Int))) * 53)))) 64))) x1, x1001))) else (none)) else (none)) else (none)) else (none))))) (by simp only [spec_l20Rd_pick.j0]) (fun k => by simp only [spec_l20Rd_pick.j0]) ?_)
  repeat' first
    | (with_reducible exact LimIs.const _)
    | (with_reducible refine LimIs.ite ?_ ?_)
    | (with_reducible refine LimIs.bind ?_ (fun _ => ?_))
theorem spec_l20Rd_pick.fL_eq (s0_0 : List Int) (s0_1 : Int) (a1 : Int) : spec_l20Rd_pick.fL s0_0 s0_1 a1 = if a1 < 1 then (spec_l20Rd_pick.j0L a1 true s0_0 (wrap64 (s0_1 + 1))) else (spec_l20Rd_pick.j0L a1 ((s0_0.length : Int) == 0) s0_0 (wrap64 (s0_1 + 1))) := by
  refine LimIs.unique (spec_l20Rd_pick.fL_is s0_0 s0_1 a1) ?_
  unfold spec_l20Rd_pick.f
  repeat' first
    | (with_reducible exact LimIs.const _)
    | (with_reducible exact spec_l20Rd_pick.j0L_is _ _ _ _)
    | (with_reducible refine LimIs.ite ?_ ?_)
    | (with_reducible refine LimIs.bind ?_ (fun _ => ?_))
/-! ### spec_DrawBackoff -/
noncomputable def spec_DrawBackoff.fL (l0 : List Int) : Option (Int) := Lim (fun k => spec_DrawBackoff.f k l0)
theorem spec_DrawBackoff.fL_is (l0 : List Int) : LimIs (fun k => spec_DrawBackoff.f k l0) (spec_DrawBackoff.fL l0) := LimIs.of_mono (fun k r h => spec_DrawBackoff.mono l0 k r h)
theorem spec_DrawBackoff.fL_eq (l0 : List Int) : spec_DrawBackoff.fL l0 = (spec_l20Open.f l0).bind fun bt111 => ((spec_l20Rd_pick.fL bt111.1 bt111.2 13).bind fun bt114 => (some (wrap64 (bt114.1 - 1)))) := by
  refine LimIs.unique (spec_DrawBackoff.fL_is l0) ?_
  unfold spec_DrawBackoff.f
  repeat' first
    | (with_reducible exact LimIs.const _)
    | (with_reducible exact spec_l20Rd_pick.fL_is _ _ _)
    | (with_reducible refine LimIs.ite ?_ ?_)
    | (with_reducible refine LimIs.bind ?_ (fun _ => ?_))
/-! ### impl_lettersOnly -/
noncomputable def impl_lettersOnly.fL (a0 : ByteArray) : Option (Bool) := Lim (fun k => impl_lettersOnly.f k a0)
theorem impl_lettersOnly.fL_is (a0 : ByteArray) : LimIs (fun k => impl_lettersOnly.f k a0) (impl_lettersOnly.fL a0) := LimIs.of_mono (fun k r h => impl_lettersOnly.mono a0 k r h)
theorem impl_lettersOnly.fL_eq (a0 : ByteArray) : impl_lettersOnly.fL a0 = if a0.toList = ([] : List UInt8) then (some true) else (if 0 < (a0.size : Int) then (if (bt a0 0) ≥ 97 then (if (bt a0 0) ≤ 122 then (if 1 ≤ (a0.size : Int) then ((impl_lettersOnly.fL (a0.extract 1 a0.size)).bind fun t116 => (some t116)) else (none)) else (some false)) else (some false)) else (none)) := by
  refine LimIs.unique (impl_lettersOnly.fL_is a0) (LimIs.step (f := fun k => if a0.toList = ([] : List UInt8) then (some true) else (if 0 < (a0.size : Int) then (if (bt a0 0) ≥ 97 then (if (bt a0 0) ≤ 122 then (if 1 ≤ (a0.size : Int) then ((impl_lettersOnly.f k (a0.extract 1 a0.size)).bind fun t116 => (some t116)) else (none)) else (some false)) else (some false)) else (none))) (by simp only [impl_lettersOnly.f]) (fun k => by simp only [impl_lettersOnly.f]) ?_)
  repeat' first
    | (with_reducible exact LimIs.const _)
    | (with_reducible exact impl_lettersOnly.fL_is _)
    | (with_reducible refine LimIs.ite ?_ ?_)
    | (with_reducible refine LimIs.bind ?_ (fun _ => ?_))
/-! ### impl_KeyValid -/
noncomputable def impl_KeyValid.fL (a0 : ByteArray) : Option (Bool) := Lim (fun k => impl_KeyValid.f k a0)
theorem impl_KeyValid.fL_is (a0 : ByteArray) : LimIs (fun k => impl_KeyValid.f k a0) (impl_KeyValid.fL a0) := LimIs.of_mono (fun k r h => impl_KeyValid.mono a0 k r h)
theorem impl_KeyValid.fL_eq (a0 : ByteArray) : impl_KeyValid.fL a0 = if (a0.size : Int) < 1 then (some false) else (if (a0.size : Int) > 4 then (some false) else ((impl_lettersOnly.fL a0).bind fun t117 => (some t117))) := by
  refine LimIs.unique (impl_KeyValid.fL_is a0) ?_
  unfold impl_KeyValid.f
  repeat' first
    | (with_reducible exact LimIs.const _)
    | (with_reducible exact impl_lettersOnly.fL_is _)
    | (with_reducible refine LimIs.ite ?_ ?_)
    | (with_reducible refine LimIs.bind ?_ (fun _ => ?_))
/-! ### impl_keysFrom -/
noncomputable def impl_keysFrom.fL (a0 : Int) : Option (Int) := Lim (fun k => impl_keysFrom.f k a0)
theorem impl_keysFrom.fL_is (a0 : Int) : LimIs (fun k => impl_keysFrom.f k a0) (impl_keysFrom.fL a0) := LimIs.of_mono (fun k r h => impl_keysFrom.mono a0 k r h)
theorem impl_keysFrom.fL_eq (a0 : Int) : impl_keysFrom.fL a0 = if a0 ≥ 4 then (some 1) else ((impl_keysFrom.fL (wrap64 (a0 + 1))).bind fun t118 => (some (wrap64 (1 + (wrap64 (26 * t118)))))) := by
  refine LimIs.unique (impl_keysFrom.fL_is a0) (LimIs.step (f := fun k => if a0 ≥ 4 then (some 1) else ((impl_keysFrom.f k (wrap64 (a0 + 1))).bind fun t118 => (some (wrap64 (1 + (wrap64 (26 * t118))))))) (by simp only [impl_keysFrom.f]) (fun k => by simp only [impl_keysFrom.f]) ?_)
  repeat' first
    | (with_reducible exact LimIs.const _)
    | (with_reducible exact impl_keysFrom.fL_is _)
    | (with_reducible refine LimIs.ite ?_ ?_)
    | (with_reducible refine LimIs.bind ?_ (fun _ => ?_))
/-! ### impl_rankBelow -/
noncomputable def impl_rankBelow.fL (a0 : ByteArray) (a1 : Int) : Option (Int) := Lim (fun k => impl_rankBelow.f k a0 a1)
theorem impl_rankBelow.fL_is (a0 : ByteArray) (a1 : Int) : LimIs (fun k => impl_rankBelow.f k a0 a1) (impl_rankBelow.fL a0 a1) := LimIs.of_mono (fun k r h => impl_rankBelow.mono a0 a1 k r h)
theorem impl_rankBelow.fL_eq (a0 : ByteArray) (a1 : Int) : impl_rankBelow.fL a0 a1 = if a0.toList = ([] : List UInt8) then (some 0) else (if 0 < (a0.size : Int) then ((impl_keysFrom.fL a1).bind fun t119 => (if 1 ≤ (a0.size : Int) then ((impl_rankBelow.fL (a0.extract 1 a0.size) (wrap64 (a1 + 1))).bind fun t120 => (some (wrap64 ((wrap64 (1 + (wrap64 ((((bt a0 0) - 97) % 256) * t119)))) + t120)))) else (none))) else (none)) := by
  refine LimIs.unique (impl_rankBelow.fL_is a0 a1) (LimIs.step (f := fun k => if a0.toList = ([] : List UInt8) then (some 0) else (if 0 < (a0.size : Int) then ((impl_keysFrom.f k a1).bind fun t119 => (if 1 ≤ (a0.size : Int) then ((impl_rankBelow.f k (a0.extract 1 a0.size) (wrap64 (a1 + 1))).bind fun t120 => (some (wrap64 ((wrap64 (1 + (wrap64 ((((bt a0 0) - 97) % 256) * t119)))) + t120)))) else (none))) else (none))) (by simp only [impl_rankBelow.f]) (fun k => by simp only [impl_rankBelow.f]) ?_)
  repeat' first
    | (with_reducible exact LimIs.const _)
    | (with_reducible exact impl_keysFrom.fL_is _)
    | (with_reducible exact impl_rankBelow.fL_is _ _)
    | (with_reducible refine LimIs.ite ?_ ?_)
    | (with_reducible refine LimIs.bind ?_ (fun _ => ?_))
/-! ### impl_KeyRank -/
noncomputable def impl_KeyRank.fL (a0 : ByteArray) : Option (Int) := Lim (fun k => impl_KeyRank.f k a0)
theorem impl_KeyRank.fL_is (a0 : ByteArray) : LimIs (fun k => impl_KeyRank.f k a0) (impl_KeyRank.fL a0) := LimIs.of_mono (fun k r h => impl_KeyRank.mono a0 k r h)
theorem impl_KeyRank.fL_eq (a0 : ByteArray) : impl_KeyRank.fL a0 = (impl_KeyValid.fL a0).bind fun t121 => (if t121 = true then ((impl_rankBelow.fL a0 1).bind fun t122 => (some (wrap64 (t122 - 1)))) else (some (-1))) := by
  refine LimIs.unique (impl_KeyRank.fL_is a0) ?_
  unfold impl_KeyRank.f
  repeat' first
    | (with_reducible exact LimIs.const _)
    | (with_reducible exact impl_KeyValid.fL_is _)
    | (with_reducible exact impl_rankBelow.fL_is _ _)
    | (with_reducible refine LimIs.ite ?_ ?_)
    | (with_reducible refine LimIs.bind ?_ (fun _ => ?_))
/-! ### laws_alive -/
noncomputable def laws_alive.fL : Option (Bool) := Lim (fun k => laws_alive.f k)
theorem laws_alive.fL_is : LimIs (fun k => laws_alive.f k) (laws_alive.fL) := LimIs.of_mono (fun k r h => laws_alive.mono k r h)
theorem laws_alive.fL_eq : laws_alive.fL = (impl_KeyRank.fL (⟨#[97, 97]⟩ : ByteArray)).bind fun t123 => (if t123 = 1 then ((impl_KeyRank.fL (⟨#[]⟩ : ByteArray)).bind fun t124 => (some (t124 == (-1)))) else (some false)) := by
  refine LimIs.unique (laws_alive.fL_is) ?_
  unfold laws_alive.f
  repeat' first
    | (with_reducible exact LimIs.const _)
    | (with_reducible exact impl_KeyRank.fL_is _)
    | (with_reducible refine LimIs.ite ?_ ?_)
    | (with_reducible refine LimIs.bind ?_ (fun _ => ?_))
/-! ### laws_FnBackoff -/
noncomputable def laws_FnBackoff.fL (l0 : List Int) : Option (Bool) := Lim (fun k => laws_FnBackoff.f k l0)
theorem laws_FnBackoff.fL_is (l0 : List Int) : LimIs (fun k => laws_FnBackoff.f k l0) (laws_FnBackoff.fL l0) := LimIs.of_mono (fun k r h => laws_FnBackoff.mono l0 k r h)
theorem laws_FnBackoff.fL_eq (l0 : List Int) : laws_FnBackoff.fL l0 = if (l0.length : Int) > 1048576 then (some true) else ((spec_DrawBackoff.fL l0).bind fun t125 => ((impl_Backoff.fL t125).bind fun t126 => ((spec_Backoff.fL t125).bind fun t127 => (if t126 = t127 then (if t126 < 0 then (if t126 = (-1) then (if t125 < 1 then ((laws_alive.fL).bind fun t128 => (some t128)) else (if t125 > 10 then ((laws_alive.fL).bind fun t129 => (some t129)) else (some false))) else (some false)) else (if t125 = 10 then (some (t126 == 32)) else ((impl_Backoff.fL (wrap64 (t125 + 1))).bind fun t130 => (if t126 ≥ 1 then (if t130 ≥ t126 then (if t130 ≤ (wrap64 (2 * t126)) then (some (decide (t130 ≤ 32))) else (some false)) else (some false)) else (some false))))) else (some false))))) := by
  refine LimIs.unique (laws_FnBackoff.fL_is l0) ?_
  unfold laws_FnBackoff.f
  repeat' first
    | (with_reducible exact LimIs.const _)
    | (with_reducible exact impl_Backoff.fL_is _)
    | (with_reducible exact laws_alive.fL_is)
    | (with_reducible exact spec_Backoff.fL_is _)
    | (with_reducible exact spec_DrawBackoff.fL_is _)
    | (with_reducible refine LimIs.ite ?_ ?_)
    | (with_reducible refine LimIs.bind ?_ (fun _ => ?_))
end Go.Proofs.Ytpeifepnaecjiaa.PFnBackoff
