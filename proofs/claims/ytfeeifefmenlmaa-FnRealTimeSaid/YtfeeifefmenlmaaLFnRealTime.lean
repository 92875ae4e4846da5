/- The limits of the printed functions, and their equations. Written by lim.py out of the print. No condition. -/
import Derived.Test.YtfeeifefmenlmaaPFnRealTimex12
import Derived.Test.YtfeeifefmenlmaaLim
namespace Go.Proofs.Ytfeeifefmenlmaa.PFnRealTime
open Go.RowKit Go.Proofs.YtfeeifefmenlmaaW.PrintWords Go.Proofs.YtfeeifefmenlmaaW.PrintLast Go.Proofs.YtfeeifefmenlmaaW.PrintMore Go.Proofs.Ytfeeifefmenlmaa.Lim
set_option linter.unusedVariables false

/-! ### impl_lettersOnly -/
noncomputable def impl_lettersOnly.fL (a0 : ByteArray) : Option (Bool) := Lim (fun k => impl_lettersOnly.f k a0)
theorem impl_lettersOnly.fL_is (a0 : ByteArray) : LimIs (fun k => impl_lettersOnly.f k a0) (impl_lettersOnly.fL a0) := LimIs.of_mono (fun k r h => impl_lettersOnly.mono a0 k r h)
theorem impl_lettersOnly.fL_eq (a0 : ByteArray) : impl_lettersOnly.fL a0 = if a0.toList = ([] : List UInt8) then (some true) else (if 0 < (a0.size : Int) then (if (bt a0 0) ≥ 97 then (if (bt a0 0) ≤ 122 then (if 1 ≤ (a0.size : Int) then ((impl_lettersOnly.fL (a0.extract 1 a0.size)).bind fun t101 => (some t101)) else (none)) else (some false)) else (some false)) else (none)) := by
  refine LimIs.unique (impl_lettersOnly.fL_is a0) (LimIs.step (f := fun k => if a0.toList = ([] : List UInt8) then (some true) else (if 0 < (a0.size : Int) then (if (bt a0 0) ≥ 97 then (if (bt a0 0) ≤ 122 then (if 1 ≤ (a0.size : Int) then ((impl_lettersOnly.f k (a0.extract 1 a0.size)).bind fun t101 => (some t101)) else (none)) else (some false)) else (some false)) else (none))) (by simp only [impl_lettersOnly.f]) (fun k => by simp only [impl_lettersOnly.f]) ?_)
  repeat' first
    | (with_reducible exact LimIs.const _)
    | (with_reducible exact impl_lettersOnly.fL_is _)
    | (with_reducible refine LimIs.ite ?_ ?_)
    | (with_reducible refine LimIs.bind ?_ (fun _ => ?_))
/-! ### impl_KeyValid -/
noncomputable def impl_KeyValid.fL (a0 : ByteArray) : Option (Bool) := Lim (fun k => impl_KeyValid.f k a0)
theorem impl_KeyValid.fL_is (a0 : ByteArray) : LimIs (fun k => impl_KeyValid.f k a0) (impl_KeyValid.fL a0) := LimIs.of_mono (fun k r h => impl_KeyValid.mono a0 k r h)
theorem impl_KeyValid.fL_eq (a0 : ByteArray) : impl_KeyValid.fL a0 = if (a0.size : Int) < 1 then (some false) else (if (a0.size : Int) > 4 then (some false) else ((impl_lettersOnly.fL a0).bind fun t102 => (some t102))) := by
  refine LimIs.unique (impl_KeyValid.fL_is a0) ?_
  unfold impl_KeyValid.f
  repeat' first
    | (with_reducible exact LimIs.const _)
    | (with_reducible exact impl_lettersOnly.fL_is _)
    | (with_reducible refine LimIs.ite ?_ ?_)
    | (with_reducible refine LimIs.bind ?_ (fun _ => ?_))
/-! ### impl_keysFrom -/
noncomputable def impl_keysFrom.fL (a0 : Int) : Option (Int) := Lim (fun k => impl_keysFrom.f k a0)
theorem impl_keysFrom.fL_is (a0 : Int) : LimIs (fun k => impl_keysFrom.f k a0) (impl_keysFrom.fL a0) := LimIs.of_mono (fun k r h => impl_keysFrom.mono a0 k r h)
theorem impl_keysFrom.fL_eq (a0 : Int) : impl_keysFrom.fL a0 = if a0 ≥ 4 then (some 1) else ((impl_keysFrom.fL (wrap64 (a0 + 1))).bind fun t103 => (some (wrap64 (1 + (wrap64 (26 * t103)))))) := by
  refine LimIs.unique (impl_keysFrom.fL_is a0) (LimIs.step (f := fun k => if a0 ≥ 4 then (some 1) else ((impl_keysFrom.f k (wrap64 (a0 + 1))).bind fun t103 => (some (wrap64 (1 + (wrap64 (26 * t103))))))) (by simp only [impl_keysFrom.f]) (fun k => by simp only [impl_keysFrom.f]) ?_)
  repeat' first
    | (with_reducible exact LimIs.const _)
    | (with_reducible exact impl_keysFrom.fL_is _)
    | (with_reducible refine LimIs.ite ?_ ?_)
    | (with_reducible refine LimIs.bind ?_ (fun _ => ?_))
/-! ### impl_rankBelow -/
noncomputable def impl_rankBelow.fL (a0 : ByteArray) (a1 : Int) : Option (Int) := Lim (fun k => impl_rankBelow.f k a0 a1)
theorem impl_rankBelow.fL_is (a0 : ByteArray) (a1 : Int) : LimIs (fun k => impl_rankBelow.f k a0 a1) (impl_rankBelow.fL a0 a1) := LimIs.of_mono (fun k r h => impl_rankBelow.mono a0 a1 k r h)
theorem impl_rankBelow.fL_eq (a0 : ByteArray) (a1 : Int) : impl_rankBelow.fL a0 a1 = if a0.toList = ([] : List UInt8) then (some 0) else (if 0 < (a0.size : Int) then ((impl_keysFrom.fL a1).bind fun t104 => (if 1 ≤ (a0.size : Int) then ((impl_rankBelow.fL (a0.extract 1 a0.size) (wrap64 (a1 + 1))).bind fun t105 => (some (wrap64 ((wrap64 (1 + (wrap64 ((((bt a0 0) - 97) % 256) * t104)))) + t105)))) else (none))) else (none)) := by
  refine LimIs.unique (impl_rankBelow.fL_is a0 a1) (LimIs.step (f := fun k => if a0.toList = ([] : List UInt8) then (some 0) else (if 0 < (a0.size : Int) then ((impl_keysFrom.f k a1).bind fun t104 => (if 1 ≤ (a0.size : Int) then ((impl_rankBelow.f k (a0.extract 1 a0.size) (wrap64 (a1 + 1))).bind fun t105 => (some (wrap64 ((wrap64 (1 + (wrap64 ((((bt a0 0) - 97) % 256) * t104)))) + t105)))) else (none))) else (none))) (by simp only [impl_rankBelow.f]) (fun k => by simp only [impl_rankBelow.f]) ?_)
  repeat' first
    | (with_reducible exact LimIs.const _)
    | (with_reducible exact impl_keysFrom.fL_is _)
    | (with_reducible exact impl_rankBelow.fL_is _ _)
    | (with_reducible refine LimIs.ite ?_ ?_)
    | (with_reducible refine LimIs.bind ?_ (fun _ => ?_))
/-! ### impl_KeyRank -/
noncomputable def impl_KeyRank.fL (a0 : ByteArray) : Option (Int) := Lim (fun k => impl_KeyRank.f k a0)
theorem impl_KeyRank.fL_is (a0 : ByteArray) : LimIs (fun k => impl_KeyRank.f k a0) (impl_KeyRank.fL a0) := LimIs.of_mono (fun k r h => impl_KeyRank.mono a0 k r h)
theorem impl_KeyRank.fL_eq (a0 : ByteArray) : impl_KeyRank.fL a0 = (impl_KeyValid.fL a0).bind fun t106 => (if t106 = true then ((impl_rankBelow.fL a0 1).bind fun t107 => (some (wrap64 (t107 - 1)))) else (some (-1))) := by
  refine LimIs.unique (impl_KeyRank.fL_is a0) ?_
  unfold impl_KeyRank.f
  repeat' first
    | (with_reducible exact LimIs.const _)
    | (with_reducible exact impl_KeyValid.fL_is _)
    | (with_reducible exact impl_rankBelow.fL_is _ _)
    | (with_reducible refine LimIs.ite ?_ ?_)
    | (with_reducible refine LimIs.bind ?_ (fun _ => ?_))
/-! ### laws_alive -/
noncomputable def laws_alive.fL : Option (Bool) := Lim (fun k => laws_alive.f k)
theorem laws_alive.fL_is : LimIs (fun k => laws_alive.f k) (laws_alive.fL) := LimIs.of_mono (fun k r h => laws_alive.mono k r h)
theorem laws_alive.fL_eq : laws_alive.fL = (impl_KeyRank.fL (⟨#[97, 97]⟩ : ByteArray)).bind fun t108 => (if t108 = 1 then ((impl_KeyRank.fL (⟨#[]⟩ : ByteArray)).bind fun t109 => (some (t109 == (-1)))) else (some false)) := by
  refine LimIs.unique (laws_alive.fL_is) ?_
  unfold laws_alive.f
  repeat' first
    | (with_reducible exact LimIs.const _)
    | (with_reducible exact impl_KeyRank.fL_is _)
    | (with_reducible refine LimIs.ite ?_ ?_)
    | (with_reducible refine LimIs.bind ?_ (fun _ => ?_))
/-! ### spec_l20Rd_pick -/
noncomputable def spec_l20Rd_pick.j0L (x1 : Int) (x24 : Bool) (x1000 : List Int) (x1001 : Int) : Option (Int × Int) := Lim (fun k => spec_l20Rd_pick.j0 k x1 x24 x1000 x1001)
theorem spec_l20Rd_pick.j0L_is (x1 : Int) (x24 : Bool) (x1000 : List Int) (x1001 : Int) : LimIs (fun k => spec_l20Rd_pick.j0 k x1 x24 x1000 x1001) (spec_l20Rd_pick.j0L x1 x24 x1000 x1001) := LimIs.of_mono (fun k r h => (spec_l20Rd_pick.mono_l k) x1 x24 x1000 x1001 r h)
noncomputable def spec_l20Rd_pick.fL (s0_0 : List Int) (s0_1 : Int) (a1 : Int) : Option (Int × Int) := Lim (fun k => spec_l20Rd_pick.f k s0_0 s0_1 a1)
theorem spec_l20Rd_pick.fL_is (s0_0 : List Int) (s0_1 : Int) (a1 : Int) : LimIs (fun k => spec_l20Rd_pick.f k s0_0 s0_1 a1) (spec_l20Rd_pick.fL s0_0 s0_1 a1) := LimIs.of_mono (fun k r h => spec_l20Rd_pick.mono s0_0 s0_1 a1 k r h)
theorem spec_l20Rd_pick.j0L_eq (x1 : Int) (x24 : Bool) (x1000 : List Int) (x1001 : Int) : spec_l20Rd_pick.j0L x1 x24 x1000 x1001 = if x24 = true then (some (0, x1001)) else (if (wrap64 (x1001 - 1)) < (x1000.length : Int) then (if 0 ≤ (wrap64 (x1001 - 1)) then (if x1 = 0 then (none) else (some (Int.tmod (wrap64 (rd x1000 (wrap64 (x1001 - 1)))) x1, x1001))) else (none)) else (if (x1000.length : Int) = 0 then (none) else (if 0 ≤ (Int.tmod (wrap64 (x1001 - 1)) (x1000.length : Int)) then (if (Int.tmod (wrap64 (x1001 - 1)) (x1000.length : Int)) < (x1000.length : Int) then (if 0 ≤ (Int.tmod (wrap64 ((wrap64 ((wrap64 (x1001 - 1)) * 7)) + 3)) (x1000.length : Int)) then (if (Int.tmod (wrap64 ((wrap64 ((wrap64 (x1001 - 1)) * 7)) + 3)) (x1000.length : Int)) < (x1000.length : Int) then (if x1 = 0 then (none) else (some (Int.tmod (Go.bits .xor .i64 (wrap64 ((wrap64 ((wrap64 ((wrap64 ((wrap64 (rd x1000 (Int.tmod (wrap64 (x1001 - 1)) (x1000.length : Int)))) * 131)) + (wrap64 ((wrap64 (rd x1000 (Int.tmod (wrap64 ((wrap64 ((wrap64 (x1001 - 1)) * 7)) + 3)) (x1000.length : Int)))) * 1117)))) + (wrap64 ((wrap64 (x1001 - 1)) * 29)))) + (wrap64 ((wrap64 (Int.tdiv (wrap64 (x1001 - 1)) (x1000.length : Int))) * 53)))) (wrap64 (Int.tdiv (wrap64 ((wrap64 ((wrap64 ((wrap64 ((wrap64 (rd x1000 (Int.tmod (wrap64 (x1001 - 1)) (x1000.length : Int)))) * 131)) + (wrap64 ((wrap64 (rd x1000 (Int.tmod (wrap64 ((wrap64 ((wrap64 (x1001 - 1)) * 7)) + 3)) (x1000.length : Int)))) * 1117)))) + (wrap64 ((wrap64 (x1001 - 1)) * 29)))) + (wrap64 ((wrap64 (Int.tdiv (wrap64 (x1001 - 1)) (x1000.length : Int))) * 53)))) 64))) x1, x1001))) else (none)) else (none)) else (none)) else (none)))) := by
  refine LimIs.unique (spec_l20Rd_pick.j0L_is x1 x24 x1000 x1001) (LimIs.step (f := fun k => if x24 = true then (some (0, x1001)) else (if (wrap64 (x1001 - 1)) < (x1000.length : Int) then (if 0 ≤ (wrap64 (x1001 - 1)) then (if x1 = 0 then (none) else (some (Int.tmod (wrap64 (rd x1000 (wrap64 (x1001 - 1)))) x1, x1001))) else (none)) else (if (x1000.length : Int) = 0 then (none) else (if 0 ≤ (Int.tmod (wrap64 (x1001 - 1)) (x1000.length : Int)) then (if (Int.tmod (wrap64 (x1001 - 1)) (x1000.length : Int)) < (x1000.length : Int) then (if 0 ≤ (Int.tmod (wrap64 ((wrap64 ((wrap64 (x1001 - 1)) * 7)) + 3)) (x1000.length : Int)) then (if (Int.tmod (wrap64 ((wrap64 ((wrap64 (x1001 - 1)) * 7)) + 3)) (x1000.length : Int)) < (x1000.length : Int) then (if x1 = 0 then (none) else (some (Int.tmod (Go.bits .xor .i64 (wrap64 ((wrap64 ((wrap64 ((wrap64 ((wrap64 (rd x1000 (Int.tmod (wrap64 (x1001 - 1)) (x1000.length : Int)))) * 131)) + (wrap64 ((wrap64 (rd x1000 (Int.tmod (wrap64 ((wrap64 ((wrap64 (x1001 - 1)) * 7)) + 3)) (x1000.length : Int)))) * 1117)))) + (wrap64 ((wrap64 (x1001 - 1)) * 29)))) + (wrap64 ((wrap64 (Int.tdiv (wrap64 (x1001 - 1)) (x1000.length : Int))) * 53)))) (wrap64 (Int.tdiv (wrap64 ((wrap64 ((wrap64 ((wrap64 ((wrap64 (rd x1000 (Int.tmod (wrap64 (x1001 - 1)) (x1000.length : Int)))) * 131)) + (wrap64 ((wrap64 (rd x1000 (Int.tmod (wrap64 ((wrap64 ((wrap64 (x1001 - 1)) * 7)) + 3)) (x1000.length : Int)))) * 1117)))) + (wrap64 ((wrap64 (x1001 - 1)) * 29)))) + (wrap64 ((wrap64 (Int.tdiv (wrap64 (x1001 - 1)) (x1000.length : Int))) * 53)))) 64))) x1, x1001))) else (none)) else (none)) else (none)) else (none))))) (by simp only [spec_l20Rd_pick.j0]) (fun k => by simp only [spec_l20Rd_pick.j0]) ?_)
  repeat' first
    | (with_reducible exact LimIs.const _)
    | (with_reducible refine LimIs.ite ?_ ?_)
    | (with_reducible refine LimIs.bind ?_ (fun _ => ?_))
theorem spec_l20Rd_pick.fL_eq (s0_0 : List Int) (s0_1 : Int) (a1 : Int) : spec_l20Rd_pick.fL s0_0 s0_1 a1 = if a1 < 1 then (spec_l20Rd_pick.j0L a1 true s0_0 (wrap64 (s0_1 + 1))) else (spec_l20Rd_pick.j0L a1 ((s0_0.length : Int) == 0) s0_0 (wrap64 (s0_1 + 1))) := by
  refine LimIs.unique (spec_l20Rd_pick.fL_is s0_0 s0_1 a1) ?_
  unfold spec_l20Rd_pick.f
  repeat' first
    | (with_reducible exact LimIs.const _)
    | (with_reducible exact spec_l20Rd_pick.j0L_is _ _ _ _)
    | (with_reducible refine LimIs.ite ?_ ?_)
    | (with_reducible refine LimIs.bind ?_ (fun _ => ?_))
/-! ### spec_l20Rd_odd -/
noncomputable def spec_l20Rd_odd.fL (s0_0 : List Int) (s0_1 : Int) (a1 : Int) : Option (Bool × Int) := Lim (fun k => spec_l20Rd_odd.f k s0_0 s0_1 a1)
theorem spec_l20Rd_odd.fL_is (s0_0 : List Int) (s0_1 : Int) (a1 : Int) : LimIs (fun k => spec_l20Rd_odd.f k s0_0 s0_1 a1) (spec_l20Rd_odd.fL s0_0 s0_1 a1) := LimIs.of_mono (fun k r h => spec_l20Rd_odd.mono s0_0 s0_1 a1 k r h)
theorem spec_l20Rd_odd.fL_eq (s0_0 : List Int) (s0_1 : Int) (a1 : Int) : spec_l20Rd_odd.fL s0_0 s0_1 a1 = if a1 > 0 then ((spec_l20Rd_pick.fL s0_0 s0_1 a1).bind fun bt119 => (some ((bt119.1 == (wrap64 (a1 - 1))), bt119.2))) else (some (false, s0_1)) := by
  refine LimIs.unique (spec_l20Rd_odd.fL_is s0_0 s0_1 a1) ?_
  unfold spec_l20Rd_odd.f
  repeat' first
    | (with_reducible exact LimIs.const _)
    | (with_reducible exact spec_l20Rd_pick.fL_is _ _ _)
    | (with_reducible refine LimIs.ite ?_ ?_)
    | (with_reducible refine LimIs.bind ?_ (fun _ => ?_))
/-! ### spec_l20Key -/
noncomputable def spec_l20Key.l0L (x5 : ByteArray) (x6 : Int) (x1000 : List Int) (x1001 : Int) : Option (ByteArray × Int) := Lim (fun k => spec_l20Key.l0 k x5 x6 x1000 x1001)
theorem spec_l20Key.l0L_is (x5 : ByteArray) (x6 : Int) (x1000 : List Int) (x1001 : Int) : LimIs (fun k => spec_l20Key.l0 k x5 x6 x1000 x1001) (spec_l20Key.l0L x5 x6 x1000 x1001) := LimIs.of_mono (fun k r h => (spec_l20Key.mono_l k) x5 x6 x1000 x1001 r h)
noncomputable def spec_l20Key.fL (s0_0 : List Int) (s0_1 : Int) (a1 : Int) : Option (ByteArray × Int) := Lim (fun k => spec_l20Key.f k s0_0 s0_1 a1)
theorem spec_l20Key.fL_is (s0_0 : List Int) (s0_1 : Int) (a1 : Int) : LimIs (fun k => spec_l20Key.f k s0_0 s0_1 a1) (spec_l20Key.fL s0_0 s0_1 a1) := LimIs.of_mono (fun k r h => spec_l20Key.mono s0_0 s0_1 a1 k r h)
theorem spec_l20Key.l0L_eq (x5 : ByteArray) (x6 : Int) (x1000 : List Int) (x1001 : Int) : spec_l20Key.l0L x5 x6 x1000 x1001 = if x6 > 0 then ((spec_l20Rd_pick.fL x1000 x1001 4).bind fun bt139 => ((some (([(wrap64 (97 + bt139.1)) % 256] : List Int) : List Int)).bind fun y141 => (if x5.size + (strOfNums y141).size ≤ 9223372036854775807 then (spec_l20Key.l0L (x5 ++ (strOfNums y141)) (wrap64 (x6 - 1)) x1000 bt139.2) else (none)))) else (some (x5, x1001)) := by
  refine LimIs.unique (spec_l20Key.l0L_is x5 x6 x1000 x1001) (LimIs.step (f := fun k => if x6 > 0 then ((spec_l20Rd_pick.f k x1000 x1001 4).bind fun bt139 => ((some (([(wrap64 (97 + bt139.1)) % 256] : List Int) : List Int)).bind fun y141 => (if x5.size + (strOfNums y141).size ≤ 9223372036854775807 then (spec_l20Key.l0 k (x5 ++ (strOfNums y141)) (wrap64 (x6 - 1)) x1000 bt139.2) else (none)))) else (some (x5, x1001))) (by simp only [spec_l20Key.l0]) (fun k => by simp only [spec_l20Key.l0]) ?_)
  repeat' first
    | (with_reducible exact LimIs.const _)
    | (with_reducible exact spec_l20Key.l0L_is _ _ _ _)
    | (with_reducible exact spec_l20Rd_pick.fL_is _ _ _)
    | (with_reducible refine LimIs.ite ?_ ?_)
    | (with_reducible refine LimIs.bind ?_ (fun _ => ?_))
theorem spec_l20Key.fL_eq (s0_0 : List Int) (s0_1 : Int) (a1 : Int) : spec_l20Key.fL s0_0 s0_1 a1 = (spec_l20Rd_odd.fL s0_0 s0_1 a1).bind fun bt121 => (if bt121.1 = true then ((some (([(⟨#[]⟩ : ByteArray), (⟨#[65]⟩ : ByteArray), (⟨#[97, 49]⟩ : ByteArray), (⟨#[97, 98, 99, 100, 101]⟩ : ByteArray), (⟨#[98, 123]⟩ : ByteArray), (⟨#[97, 32, 98]⟩ : ByteArray)] : List ByteArray) : List ByteArray)).bind fun y123 => ((spec_l20Rd_pick.fL s0_0 bt121.2 6).bind fun bt126 => (if 0 ≤ bt126.1 then (if bt126.1 < (y123.length : Int) then (some (rdOf ByteArray.empty y123 bt126.1, bt126.2)) else (none)) else (none)))) else ((spec_l20Rd_pick.fL s0_0 bt121.2 12).bind fun bt129 => (if bt129.1 = 11 then ((some (([(⟨#[122, 122, 122, 122]⟩ : ByteArray), (⟨#[122, 122, 122]⟩ : ByteArray), (⟨#[97, 122, 122, 122]⟩ : ByteArray), (⟨#[122]⟩ : ByteArray), (⟨#[97, 97, 97, 97]⟩ : ByteArray)] : List ByteArray) : List ByteArray)).bind fun y131 => ((spec_l20Rd_pick.fL s0_0 bt129.2 5).bind fun bt134 => (if 0 ≤ bt134.1 then (if bt134.1 < (y131.length : Int) then (some (rdOf ByteArray.empty y131 bt134.1, bt134.2)) else (none)) else (none)))) else ((spec_l20Rd_pick.fL s0_0 bt129.2 2).bind fun bt137 => (spec_l20Key.l0L (⟨#[]⟩ : ByteArray) (wrap64 (1 + bt137.1)) s0_0 bt137.2))))) := by
  refine LimIs.unique (spec_l20Key.fL_is s0_0 s0_1 a1) ?_
  unfold spec_l20Key.f
  repeat' first
    | (with_reducible exact LimIs.const _)
    | (with_reducible exact spec_l20Key.l0L_is _ _ _ _)
    | (with_reducible exact spec_l20Rd_odd.fL_is _ _ _)
    | (with_reducible exact spec_l20Rd_pick.fL_is _ _ _)
    | (with_reducible refine LimIs.ite ?_ ?_)
    | (with_reducible refine LimIs.bind ?_ (fun _ => ?_))
/-! ### spec_l20Value -/
noncomputable def spec_l20Value.fL (s0_0 : List Int) (s0_1 : Int) (a1 : Int) : Option (Int × Int) := Lim (fun k => spec_l20Value.f k s0_0 s0_1 a1)
theorem spec_l20Value.fL_is (s0_0 : List Int) (s0_1 : Int) (a1 : Int) : LimIs (fun k => spec_l20Value.f k s0_0 s0_1 a1) (spec_l20Value.fL s0_0 s0_1 a1) := LimIs.of_mono (fun k r h => spec_l20Value.mono s0_0 s0_1 a1 k r h)
theorem spec_l20Value.fL_eq (s0_0 : List Int) (s0_1 : Int) (a1 : Int) : spec_l20Value.fL s0_0 s0_1 a1 = (spec_l20Rd_odd.fL s0_0 s0_1 a1).bind fun bt144 => (if bt144.1 = true then ((some (([(-1), 1000] : List Int) : List Int)).bind fun y146 => ((spec_l20Rd_pick.fL s0_0 bt144.2 2).bind fun bt149 => (if 0 ≤ bt149.1 then (if bt149.1 < (y146.length : Int) then (some (rd y146 bt149.1, bt149.2)) else (none)) else (none)))) else ((spec_l20Rd_pick.fL s0_0 bt144.2 20).bind fun bt152 => ((some (([bt152.1, 999] : List Int) : List Int)).bind fun y154 => ((spec_l20Rd_pick.fL s0_0 bt152.2 9).bind fun bt157 => (if 0 ≤ (wrap64 (Int.tdiv bt157.1 8)) then (if (wrap64 (Int.tdiv bt157.1 8)) < (y154.length : Int) then (some (rd y154 (wrap64 (Int.tdiv bt157.1 8)), bt157.2)) else (none)) else (none)))))) := by
  refine LimIs.unique (spec_l20Value.fL_is s0_0 s0_1 a1) ?_
  unfold spec_l20Value.f
  repeat' first
    | (with_reducible exact LimIs.const _)
    | (with_reducible exact spec_l20Rd_odd.fL_is _ _ _)
    | (with_reducible exact spec_l20Rd_pick.fL_is _ _ _)
    | (with_reducible refine LimIs.ite ?_ ?_)
    | (with_reducible refine LimIs.bind ?_ (fun _ => ?_))
/-! ### spec_l20Cmd -/
noncomputable def spec_l20Cmd.j0L (x5 : ByteArray) (x1000 : List Int) (x1001 : Int) : Option (Int × ByteArray × Int × Int × Int) := Lim (fun k => spec_l20Cmd.j0 k x5 x1000 x1001)
theorem spec_l20Cmd.j0L_is (x5 : ByteArray) (x1000 : List Int) (x1001 : Int) : LimIs (fun k => spec_l20Cmd.j0 k x5 x1000 x1001) (spec_l20Cmd.j0L x5 x1000 x1001) := LimIs.of_mono (fun k r h => (spec_l20Cmd.mono_l k) x5 x1000 x1001 r h)
noncomputable def spec_l20Cmd.fL (s0_0 : List Int) (s0_1 : Int) (a1 : Int) : Option (Int × ByteArray × Int × Int × Int) := Lim (fun k => spec_l20Cmd.f k s0_0 s0_1 a1)
theorem spec_l20Cmd.fL_is (s0_0 : List Int) (s0_1 : Int) (a1 : Int) : LimIs (fun k => spec_l20Cmd.f k s0_0 s0_1 a1) (spec_l20Cmd.fL s0_0 s0_1 a1) := LimIs.of_mono (fun k r h => spec_l20Cmd.mono s0_0 s0_1 a1 k r h)
theorem spec_l20Cmd.j0L_eq (x5 : ByteArray) (x1000 : List Int) (x1001 : Int) : spec_l20Cmd.j0L x5 x1000 x1001 = (spec_l20Rd_pick.fL x1000 x1001 8).bind fun bt179 => (if bt179.1 = 0 then (some (1, x5, 0, 0, bt179.2)) else (if bt179.1 = 1 then (some (3, x5, 0, 0, bt179.2)) else (if bt179.1 = 2 then ((spec_l20Rd_pick.fL x1000 bt179.2 5).bind fun bt181 => ((spec_l20Rd_pick.fL x1000 bt181.2 5).bind fun bt183 => (some (4, x5, bt183.1, wrap64 (bt181.1 - 1), bt183.2)))) else ((spec_l20Value.fL x1000 bt179.2 0).bind fun bt185 => (some (2, x5, Int.tmod bt185.1 1000, 0, bt185.2)))))) := by
  refine LimIs.unique (spec_l20Cmd.j0L_is x5 x1000 x1001) (LimIs.step (f := fun k => (spec_l20Rd_pick.f k x1000 x1001 8).bind fun bt179 => (if bt179.1 = 0 then (some (1, x5, 0, 0, bt179.2)) else (if bt179.1 = 1 then (some (3, x5, 0, 0, bt179.2)) else (if bt179.1 = 2 then ((spec_l20Rd_pick.f k x1000 bt179.2 5).bind fun bt181 => ((spec_l20Rd_pick.f k x1000 bt181.2 5).bind fun bt183 => (some (4, x5, bt183.1, wrap64 (bt181.1 - 1), bt183.2)))) else ((spec_l20Value.f k x1000 bt179.2 0).bind fun bt185 => (some (2, x5, Int.tmod bt185.1 1000, 0, bt185.2))))))) (by simp only [spec_l20Cmd.j0]) (fun k => by simp only [spec_l20Cmd.j0]) ?_)
  repeat' first
    | (with_reducible exact LimIs.const _)
    | (with_reducible exact spec_l20Rd_pick.fL_is _ _ _)
    | (with_reducible exact spec_l20Value.fL_is _ _ _)
    | (with_reducible refine LimIs.ite ?_ ?_)
    | (with_reducible refine LimIs.bind ?_ (fun _ => ?_))
theorem spec_l20Cmd.fL_eq (s0_0 : List Int) (s0_1 : Int) (a1 : Int) : spec_l20Cmd.fL s0_0 s0_1 a1 = (spec_l20Rd_odd.fL s0_0 s0_1 a1).bind fun bt161 => (if bt161.1 = true then ((some (([(⟨0, (⟨#[]⟩ : ByteArray), 0, 0⟩ : S40), (⟨1, (⟨#[]⟩ : ByteArray), 0, 0⟩ : S40), (⟨1, (⟨#[98]⟩ : ByteArray), 1, 0⟩ : S40), (⟨2, (⟨#[98]⟩ : ByteArray), 1000, 0⟩ : S40), (⟨2, (⟨#[98]⟩ : ByteArray), 0, 1⟩ : S40), (⟨4, (⟨#[98]⟩ : ByteArray), 0, (-2)⟩ : S40), (⟨4, (⟨#[98]⟩ : ByteArray), (-1), 0⟩ : S40), (⟨6, (⟨#[98]⟩ : ByteArray), 0, 0⟩ : S40), (⟨3, (⟨#[65]⟩ : ByteArray), 0, 0⟩ : S40), (⟨5, (⟨#[98, 49]⟩ : ByteArray), 0, 0⟩ : S40)] : List (S40)) : List (S40))).bind fun y163 => ((spec_l20Rd_pick.fL s0_0 bt161.2 10).bind fun bt166 => (if 0 ≤ bt166.1 then (if bt166.1 < (y163.length : Int) then (some ((rd_T40 y163 bt166.1).f0, (rd_T40 y163 bt166.1).f1, (rd_T40 y163 bt166.1).f2, (rd_T40 y163 bt166.1).f3, bt166.2)) else (none)) else (none)))) else ((spec_l20Key.fL s0_0 bt161.2 0).bind fun bt169 => ((spec_l20Rd_pick.fL s0_0 bt169.2 2).bind fun bt171 => (if bt171.1 = 0 then ((some (([(⟨#[98]⟩ : ByteArray), (⟨#[99]⟩ : ByteArray), (⟨#[100]⟩ : ByteArray), (⟨#[109]⟩ : ByteArray)] : List ByteArray) : List ByteArray)).bind fun y173 => ((spec_l20Rd_pick.fL s0_0 bt171.2 4).bind fun bt176 => (if 0 ≤ bt176.1 then (if bt176.1 < (y173.length : Int) then (spec_l20Cmd.j0L (rdOf ByteArray.empty y173 bt176.1) s0_0 bt176.2) else (none)) else (none)))) else (spec_l20Cmd.j0L bt169.1 s0_0 bt171.2))))) := by
  refine LimIs.unique (spec_l20Cmd.fL_is s0_0 s0_1 a1) ?_
  unfold spec_l20Cmd.f
  repeat' first
    | (with_reducible exact LimIs.const _)
    | (with_reducible exact spec_l20Cmd.j0L_is _ _ _)
    | (with_reducible exact spec_l20Key.fL_is _ _ _)
    | (with_reducible exact spec_l20Rd_odd.fL_is _ _ _)
    | (with_reducible exact spec_l20Rd_pick.fL_is _ _ _)
    | (with_reducible refine LimIs.ite ?_ ?_)
    | (with_reducible refine LimIs.bind ?_ (fun _ => ?_))
/-! ### spec_KeyValid -/
noncomputable def spec_KeyValid.l0L (x0 : ByteArray) (x3 : Int) : Option (Bool) := Lim (fun k => spec_KeyValid.l0 k x0 x3)
theorem spec_KeyValid.l0L_is (x0 : ByteArray) (x3 : Int) : LimIs (fun k => spec_KeyValid.l0 k x0 x3) (spec_KeyValid.l0L x0 x3) := LimIs.of_mono (fun k r h => (spec_KeyValid.mono_l k) x0 x3 r h)
noncomputable def spec_KeyValid.fL (a0 : ByteArray) : Option (Bool) := Lim (fun k => spec_KeyValid.f k a0)
theorem spec_KeyValid.fL_is (a0 : ByteArray) : LimIs (fun k => spec_KeyValid.f k a0) (spec_KeyValid.fL a0) := LimIs.of_mono (fun k r h => spec_KeyValid.mono a0 k r h)
theorem spec_KeyValid.l0L_eq (x0 : ByteArray) (x3 : Int) : spec_KeyValid.l0L x0 x3 = if x3 < (x0.size : Int) then (if 0 ≤ x3 then (if (bt x0 x3) < 97 then (some false) else (if (bt x0 x3) > 122 then (some false) else (spec_KeyValid.l0L x0 (wrap64 (x3 + 1))))) else (none)) else (some true) := by
  refine LimIs.unique (spec_KeyValid.l0L_is x0 x3) (LimIs.step (f := fun k => if x3 < (x0.size : Int) then (if 0 ≤ x3 then (if (bt x0 x3) < 97 then (some false) else (if (bt x0 x3) > 122 then (some false) else (spec_KeyValid.l0 k x0 (wrap64 (x3 + 1))))) else (none)) else (some true)) (by simp only [spec_KeyValid.l0]) (fun k => by simp only [spec_KeyValid.l0]) ?_)
  repeat' first
    | (with_reducible exact LimIs.const _)
    | (with_reducible exact spec_KeyValid.l0L_is _ _)
    | (with_reducible refine LimIs.ite ?_ ?_)
    | (with_reducible refine LimIs.bind ?_ (fun _ => ?_))
theorem spec_KeyValid.fL_eq (a0 : ByteArray) : spec_KeyValid.fL a0 = (spec_l1In.f (a0.size : Int) 1 4).bind fun t187 => (if t187 = true then (spec_KeyValid.l0L a0 0) else (some false)) := by
  refine LimIs.unique (spec_KeyValid.fL_is a0) ?_
  unfold spec_KeyValid.f
  repeat' first
    | (with_reducible exact LimIs.const _)
    | (with_reducible exact spec_KeyValid.l0L_is _ _)
    | (with_reducible refine LimIs.ite ?_ ?_)
    | (with_reducible refine LimIs.bind ?_ (fun _ => ?_))
/-! ### spec_PairsValid -/
noncomputable def spec_PairsValid.l0L (x0 : List (S29)) (x3 : Int) : Option (Bool) := Lim (fun k => spec_PairsValid.l0 k x0 x3)
theorem spec_PairsValid.l0L_is (x0 : List (S29)) (x3 : Int) : LimIs (fun k => spec_PairsValid.l0 k x0 x3) (spec_PairsValid.l0L x0 x3) := LimIs.of_mono (fun k r h => (spec_PairsValid.mono_l k) x0 x3 r h)
noncomputable def spec_PairsValid.fL (l0 : List (S29)) : Option (Bool) := Lim (fun k => spec_PairsValid.f k l0)
theorem spec_PairsValid.fL_is (l0 : List (S29)) : LimIs (fun k => spec_PairsValid.f k l0) (spec_PairsValid.fL l0) := LimIs.of_mono (fun k r h => spec_PairsValid.mono l0 k r h)
theorem spec_PairsValid.l0L_eq (x0 : List (S29)) (x3 : Int) : spec_PairsValid.l0L x0 x3 = if x3 < (x0.length : Int) then (if 0 ≤ x3 then ((spec_KeyValid.fL ((rd_T29 x0 x3).f0)).bind fun t189 => (if t189 = true then ((spec_l1In.f ((rd_T29 x0 x3).f1) 0 999).bind fun t191 => (if t191 = true then (if x3 > 0 then (if 0 ≤ (wrap64 (x3 - 1)) then (if (wrap64 (x3 - 1)) < (x0.length : Int) then (if ((Op.bytesLess (((rd_T29 x0 (wrap64 (x3 - 1))).f0).toList) (((rd_T29 x0 x3).f0).toList)) = true) then (spec_PairsValid.l0L x0 (wrap64 (x3 + 1))) else (some false)) else (none)) else (none)) else (spec_PairsValid.l0L x0 (wrap64 (x3 + 1)))) else (some false))) else (some false))) else (none)) else (some true) := by
  refine LimIs.unique (spec_PairsValid.l0L_is x0 x3) (LimIs.step (f := fun k => if x3 < (x0.length : Int) then (if 0 ≤ x3 then ((spec_KeyValid.f k ((rd_T29 x0 x3).f0)).bind fun t189 => (if t189 = true then ((spec_l1In.f ((rd_T29 x0 x3).f1) 0 999).bind fun t191 => (if t191 = true then (if x3 > 0 then (if 0 ≤ (wrap64 (x3 - 1)) then (if (wrap64 (x3 - 1)) < (x0.length : Int) then (if ((Op.bytesLess (((rd_T29 x0 (wrap64 (x3 - 1))).f0).toList) (((rd_T29 x0 x3).f0).toList)) = true) then (spec_PairsValid.l0 k x0 (wrap64 (x3 + 1))) else (some false)) else (none)) else (none)) else (spec_PairsValid.l0 k x0 (wrap64 (x3 + 1)))) else (some false))) else (some false))) else (none)) else (some true)) (by simp only [spec_PairsValid.l0]) (fun k => by simp only [spec_PairsValid.l0]) ?_)
  repeat' first
    | (with_reducible exact LimIs.const _)
    | (with_reducible exact spec_KeyValid.fL_is _)
    | (with_reducible exact spec_PairsValid.l0L_is _ _)
    | (with_reducible refine LimIs.ite ?_ ?_)
    | (with_reducible refine LimIs.bind ?_ (fun _ => ?_))
theorem spec_PairsValid.fL_eq (l0 : List (S29)) : spec_PairsValid.fL l0 = if (l0.length : Int) > 48 then (some false) else (spec_PairsValid.l0L l0 0) := by
  refine LimIs.unique (spec_PairsValid.fL_is l0) ?_
  unfold spec_PairsValid.f
  repeat' first
    | (with_reducible exact LimIs.const _)
    | (with_reducible exact spec_PairsValid.l0L_is _ _)
    | (with_reducible refine LimIs.ite ?_ ?_)
    | (with_reducible refine LimIs.bind ?_ (fun _ => ?_))
/-! ### spec_l4Place -/
noncomputable def spec_l4Place.l0L (x0 : List (S29)) (x1 : ByteArray) (x5 : Int) : Option (Int) := Lim (fun k => spec_l4Place.l0 k x0 x1 x5)
theorem spec_l4Place.l0L_is (x0 : List (S29)) (x1 : ByteArray) (x5 : Int) : LimIs (fun k => spec_l4Place.l0 k x0 x1 x5) (spec_l4Place.l0L x0 x1 x5) := LimIs.of_mono (fun k r h => (spec_l4Place.mono_l k) x0 x1 x5 r h)
noncomputable def spec_l4Place.fL (l0 : List (S29)) (a1 : ByteArray) : Option (Int) := Lim (fun k => spec_l4Place.f k l0 a1)
theorem spec_l4Place.fL_is (l0 : List (S29)) (a1 : ByteArray) : LimIs (fun k => spec_l4Place.f k l0 a1) (spec_l4Place.fL l0 a1) := LimIs.of_mono (fun k r h => spec_l4Place.mono l0 a1 k r h)
theorem spec_l4Place.l0L_eq (x0 : List (S29)) (x1 : ByteArray) (x5 : Int) : spec_l4Place.l0L x0 x1 x5 = if x5 < (x0.length : Int) then (if 0 ≤ x5 then (if (Op.bytesLess (((rd_T29 x0 x5).f0).toList) x1.toList) = true then (spec_l4Place.l0L x0 x1 (wrap64 (x5 + 1))) else (some x5)) else (none)) else (some x5) := by
  refine LimIs.unique (spec_l4Place.l0L_is x0 x1 x5) (LimIs.step (f := fun k => if x5 < (x0.length : Int) then (if 0 ≤ x5 then (if (Op.bytesLess (((rd_T29 x0 x5).f0).toList) x1.toList) = true then (spec_l4Place.l0 k x0 x1 (wrap64 (x5 + 1))) else (some x5)) else (none)) else (some x5)) (by simp only [spec_l4Place.l0]) (fun k => by simp only [spec_l4Place.l0]) ?_)
  repeat' first
    | (with_reducible exact LimIs.const _)
    | (with_reducible exact spec_l4Place.l0L_is _ _ _)
    | (with_reducible refine LimIs.ite ?_ ?_)
    | (with_reducible refine LimIs.bind ?_ (fun _ => ?_))
theorem spec_l4Place.fL_eq (l0 : List (S29)) (a1 : ByteArray) : spec_l4Place.fL l0 a1 = spec_l4Place.l0L l0 a1 0 := by
  refine LimIs.unique (spec_l4Place.fL_is l0 a1) ?_
  unfold spec_l4Place.f
  repeat' first
    | (with_reducible exact LimIs.const _)
    | (with_reducible exact spec_l4Place.l0L_is _ _ _)
    | (with_reducible refine LimIs.ite ?_ ?_)
    | (with_reducible refine LimIs.bind ?_ (fun _ => ?_))
/-! ### spec_PairGet -/
noncomputable def spec_PairGet.fL (l0 : List (S29)) (a1 : ByteArray) : Option (Int) := Lim (fun k => spec_PairGet.f k l0 a1)
theorem spec_PairGet.fL_is (l0 : List (S29)) (a1 : ByteArray) : LimIs (fun k => spec_PairGet.f k l0 a1) (spec_PairGet.fL l0 a1) := LimIs.of_mono (fun k r h => spec_PairGet.mono l0 a1 k r h)
theorem spec_PairGet.fL_eq (l0 : List (S29)) (a1 : ByteArray) : spec_PairGet.fL l0 a1 = (spec_l4Place.fL l0 a1).bind fun t195 => ((spec_PairsValid.fL l0).bind fun t196 => (if t196 = true then (if t195 = (l0.length : Int) then (some (-1)) else (if 0 ≤ t195 then (if t195 < (l0.length : Int) then (if ((rd_T29 l0 t195).f0).toList = a1.toList then (some ((rd_T29 l0 t195).f1)) else (some (-1))) else (none)) else (none))) else (some (-1)))) := by
  refine LimIs.unique (spec_PairGet.fL_is l0 a1) ?_
  unfold spec_PairGet.f
  repeat' first
    | (with_reducible exact LimIs.const _)
    | (with_reducible exact spec_PairsValid.fL_is _)
    | (with_reducible exact spec_l4Place.fL_is _ _)
    | (with_reducible refine LimIs.ite ?_ ?_)
    | (with_reducible refine LimIs.bind ?_ (fun _ => ?_))
/-! ### spec_PairDrop -/
noncomputable def spec_PairDrop.fL (l0 : List (S29)) (a1 : ByteArray) : Option ((List (S29)) × Bool) := Lim (fun k => spec_PairDrop.f k l0 a1)
theorem spec_PairDrop.fL_is (l0 : List (S29)) (a1 : ByteArray) : LimIs (fun k => spec_PairDrop.f k l0 a1) (spec_PairDrop.fL l0 a1) := LimIs.of_mono (fun k r h => spec_PairDrop.mono l0 a1 k r h)
theorem spec_PairDrop.fL_eq (l0 : List (S29)) (a1 : ByteArray) : spec_PairDrop.fL l0 a1 = (some (([] : List (S29)) : List (S29))).bind fun y199 => ((spec_PairsValid.fL l0).bind fun t202 => (if t202 = true then ((spec_l4Place.fL l0 a1).bind fun t203 => (if t203 = (l0.length : Int) then (if y199.length + l0.length < 5864062014805 then (some ((y199 ++ l0), false)) else (none)) else (if 0 ≤ t203 then (if t203 < (l0.length : Int) then (if ((rd_T29 l0 t203).f0).toList = a1.toList then (if t203 ≤ (l0.length : Int) then ((some (l0.take (t203 : Int).toNat : List (S29))).bind fun y208 => (if y199.length + y208.length < 5864062014805 then ((some (y199 ++ y208 : List (S29))).bind fun y212 => (if 0 ≤ (wrap64 (t203 + 1)) then (if (wrap64 (t203 + 1)) ≤ (l0.length : Int) then ((some (l0.drop ((wrap64 (t203 + 1)) : Int).toNat : List (S29))).bind fun y215 => (if y212.length + y215.length < 5864062014805 then (some ((y212 ++ y215), true)) else (none))) else (none)) else (none))) else (none))) else (none)) else (if y199.length + l0.length < 5864062014805 then (some ((y199 ++ l0), false)) else (none))) else (none)) else (none)))) else (some (y199, false)))) := by
  refine LimIs.unique (spec_PairDrop.fL_is l0 a1) ?_
  unfold spec_PairDrop.f
  repeat' first
    | (with_reducible exact LimIs.const _)
    | (with_reducible exact spec_PairsValid.fL_is _)
    | (with_reducible exact spec_l4Place.fL_is _ _)
    | (with_reducible refine LimIs.ite ?_ ?_)
    | (with_reducible refine LimIs.bind ?_ (fun _ => ?_))
/-! ### spec_PairPut -/
noncomputable def spec_PairPut.j0L (x0 : List (S29)) (x1 : ByteArray) (x2 : Int) (x8 : List (S29)) (x23 : Bool) : Option ((List (S29)) × Bool) := Lim (fun k => spec_PairPut.j0 k x0 x1 x2 x8 x23)
theorem spec_PairPut.j0L_is (x0 : List (S29)) (x1 : ByteArray) (x2 : Int) (x8 : List (S29)) (x23 : Bool) : LimIs (fun k => spec_PairPut.j0 k x0 x1 x2 x8 x23) (spec_PairPut.j0L x0 x1 x2 x8 x23) := LimIs.of_mono (fun k r h => (spec_PairPut.mono_l k).1 x0 x1 x2 x8 x23 r h)
noncomputable def spec_PairPut.j1L (x0 : List (S29)) (x1 : ByteArray) (x2 : Int) (x8 : List (S29)) (x9 : Int) (x40 : Bool) : Option ((List (S29)) × Bool) := Lim (fun k => spec_PairPut.j1 k x0 x1 x2 x8 x9 x40)
theorem spec_PairPut.j1L_is (x0 : List (S29)) (x1 : ByteArray) (x2 : Int) (x8 : List (S29)) (x9 : Int) (x40 : Bool) : LimIs (fun k => spec_PairPut.j1 k x0 x1 x2 x8 x9 x40) (spec_PairPut.j1L x0 x1 x2 x8 x9 x40) := LimIs.of_mono (fun k r h => (spec_PairPut.mono_l k).2 x0 x1 x2 x8 x9 x40 r h)
noncomputable def spec_PairPut.fL (l0 : List (S29)) (a1 : ByteArray) (a2 : Int) : Option ((List (S29)) × Bool) := Lim (fun k => spec_PairPut.f k l0 a1 a2)
theorem spec_PairPut.fL_is (l0 : List (S29)) (a1 : ByteArray) (a2 : Int) : LimIs (fun k => spec_PairPut.f k l0 a1 a2) (spec_PairPut.fL l0 a1 a2) := LimIs.of_mono (fun k r h => spec_PairPut.mono l0 a1 a2 k r h)
theorem spec_PairPut.j0L_eq (x0 : List (S29)) (x1 : ByteArray) (x2 : Int) (x8 : List (S29)) (x23 : Bool) : spec_PairPut.j0L x0 x1 x2 x8 x23 = if x23 = true then (some (x8, false)) else ((spec_l4Place.fL x0 x1).bind fun t231 => (if t231 < (x0.length : Int) then (if 0 ≤ t231 then (spec_PairPut.j1L x0 x1 x2 x8 t231 (((rd_T29 x0 t231).f0).toList == x1.toList)) else (none)) else (spec_PairPut.j1L x0 x1 x2 x8 t231 false))) := by
  refine LimIs.unique (spec_PairPut.j0L_is x0 x1 x2 x8 x23) (LimIs.step (f := fun k => if x23 = true then (some (x8, false)) else ((spec_l4Place.f k x0 x1).bind fun t231 => (if t231 < (x0.length : Int) then (if 0 ≤ t231 then (spec_PairPut.j1 k x0 x1 x2 x8 t231 (((rd_T29 x0 t231).f0).toList == x1.toList)) else (none)) else (spec_PairPut.j1 k x0 x1 x2 x8 t231 false)))) (by simp only [spec_PairPut.j0]) (fun k => by simp only [spec_PairPut.j0]) ?_)
  repeat' first
    | (with_reducible exact LimIs.const _)
    | (with_reducible exact spec_PairPut.j1L_is _ _ _ _ _ _)
    | (with_reducible exact spec_l4Place.fL_is _ _)
    | (with_reducible refine LimIs.ite ?_ ?_)
    | (with_reducible refine LimIs.bind ?_ (fun _ => ?_))
theorem spec_PairPut.j1L_eq (x0 : List (S29)) (x1 : ByteArray) (x2 : Int) (x8 : List (S29)) (x9 : Int) (x40 : Bool) : spec_PairPut.j1L x0 x1 x2 x8 x9 x40 = if x40 = true then (if x8.length + x0.length < 5864062014805 then ((some (x8 ++ x0 : List (S29))).bind fun y233 => (if 0 ≤ x9 then (if x9 < (y233.length : Int) then (some ((y233.set (x9 : Int).toNat (⟨(rd_T29 y233 x9).f0, x2⟩ : S29)), true)) else (none)) else (none))) else (none)) else (if (x0.length : Int) ≥ 48 then (if x8.length + x0.length < 5864062014805 then (some ((x8 ++ x0), false)) else (none)) else (if 0 ≤ x9 then (if x9 ≤ (x0.length : Int) then ((some (x0.take (x9 : Int).toNat : List (S29))).bind fun y240 => (if x8.length + y240.length < 5864062014805 then ((some (x8 ++ y240 : List (S29))).bind fun y244 => (if y244.length < 5864062014805 then ((some (y244 ++ [(⟨x1, x2⟩ : S29)] : List (S29))).bind fun y247 => ((some (x0.drop (x9 : Int).toNat : List (S29))).bind fun y250 => (if y247.length + y250.length < 5864062014805 then (some ((y247 ++ y250), true)) else (none)))) else (none))) else (none))) else (none)) else (none))) := by
  refine LimIs.unique (spec_PairPut.j1L_is x0 x1 x2 x8 x9 x40) (LimIs.step (f := fun k => if x40 = true then (if x8.length + x0.length < 5864062014805 then ((some (x8 ++ x0 : List (S29))).bind fun y233 => (if 0 ≤ x9 then (if x9 < (y233.length : Int) then (some ((y233.set (x9 : Int).toNat (⟨(rd_T29 y233 x9).f0, x2⟩ : S29)), true)) else (none)) else (none))) else (none)) else (if (x0.length : Int) ≥ 48 then (if x8.length + x0.length < 5864062014805 then (some ((x8 ++ x0), false)) else (none)) else (if 0 ≤ x9 then (if x9 ≤ (x0.length : Int) then ((some (x0.take (x9 : Int).toNat : List (S29))).bind fun y240 => (if x8.length + y240.length < 5864062014805 then ((some (x8 ++ y240 : List (S29))).bind fun y244 => (if y244.length < 5864062014805 then ((some (y244 ++ [(⟨x1, x2⟩ : S29)] : List (S29))).bind fun y247 => ((some (x0.drop (x9 : Int).toNat : List (S29))).bind fun y250 => (if y247.length + y250.length < 5864062014805 then (some ((y247 ++ y250), true)) else (none)))) else (none))) else (none))) else (none)) else (none)))) (by simp only [spec_PairPut.j1]) (fun k => by simp only [spec_PairPut.j1]) ?_)
  repeat' first
    | (with_reducible exact LimIs.const _)
    | (with_reducible refine LimIs.ite ?_ ?_)
    | (with_reducible refine LimIs.bind ?_ (fun _ => ?_))
theorem spec_PairPut.fL_eq (l0 : List (S29)) (a1 : ByteArray) (a2 : Int) : spec_PairPut.fL l0 a1 a2 = (some (([] : List (S29)) : List (S29))).bind fun y225 => ((spec_PairsValid.fL l0).bind fun t228 => (if t228 = true then ((spec_KeyValid.fL a1).bind fun t229 => (if t229 = true then ((spec_l1In.f a2 0 999).bind fun t230 => (spec_PairPut.j0L l0 a1 a2 y225 (!t230))) else (spec_PairPut.j0L l0 a1 a2 y225 true))) else (spec_PairPut.j0L l0 a1 a2 y225 true))) := by
  refine LimIs.unique (spec_PairPut.fL_is l0 a1 a2) ?_
  unfold spec_PairPut.f
  repeat' first
    | (with_reducible exact LimIs.const _)
    | (with_reducible exact spec_KeyValid.fL_is _)
    | (with_reducible exact spec_PairPut.j0L_is _ _ _ _ _)
    | (with_reducible exact spec_PairsValid.fL_is _)
    | (with_reducible refine LimIs.ite ?_ ?_)
    | (with_reducible refine LimIs.bind ?_ (fun _ => ?_))
/-! ### spec_CommandValid -/
noncomputable def spec_CommandValid.j0L (x16 : Bool) (x258000 : Int) (x258001 : ByteArray) (x258002 : Int) (x258003 : Int) : Option (Bool) := Lim (fun k => spec_CommandValid.j0 k x16 x258000 x258001 x258002 x258003)
theorem spec_CommandValid.j0L_is (x16 : Bool) (x258000 : Int) (x258001 : ByteArray) (x258002 : Int) (x258003 : Int) : LimIs (fun k => spec_CommandValid.j0 k x16 x258000 x258001 x258002 x258003) (spec_CommandValid.j0L x16 x258000 x258001 x258002 x258003) := LimIs.of_mono (fun k r h => (spec_CommandValid.mono_l k).1 x16 x258000 x258001 x258002 x258003 r h)
noncomputable def spec_CommandValid.j1L (x18 : Int) (x19 : Bool) (x258000 : Int) (x258001 : ByteArray) (x258002 : Int) (x258003 : Int) : Option (Bool) := Lim (fun k => spec_CommandValid.j1 k x18 x19 x258000 x258001 x258002 x258003)
theorem spec_CommandValid.j1L_is (x18 : Int) (x19 : Bool) (x258000 : Int) (x258001 : ByteArray) (x258002 : Int) (x258003 : Int) : LimIs (fun k => spec_CommandValid.j1 k x18 x19 x258000 x258001 x258002 x258003) (spec_CommandValid.j1L x18 x19 x258000 x258001 x258002 x258003) := LimIs.of_mono (fun k r h => (spec_CommandValid.mono_l k).2 x18 x19 x258000 x258001 x258002 x258003 r h)
noncomputable def spec_CommandValid.fL (a0_0 : Int) (a0_1 : ByteArray) (a0_2 : Int) (a0_3 : Int) : Option (Bool) := Lim (fun k => spec_CommandValid.f k a0_0 a0_1 a0_2 a0_3)
theorem spec_CommandValid.fL_is (a0_0 : Int) (a0_1 : ByteArray) (a0_2 : Int) (a0_3 : Int) : LimIs (fun k => spec_CommandValid.f k a0_0 a0_1 a0_2 a0_3) (spec_CommandValid.fL a0_0 a0_1 a0_2 a0_3) := LimIs.of_mono (fun k r h => spec_CommandValid.mono a0_0 a0_1 a0_2 a0_3 k r h)
theorem spec_CommandValid.j0L_eq (x16 : Bool) (x258000 : Int) (x258001 : ByteArray) (x258002 : Int) (x258003 : Int) : spec_CommandValid.j0L x16 x258000 x258001 x258002 x258003 = if x16 = true then (some false) else (if x258000 = 1 then (spec_CommandValid.j1L x258000 (x258000 == 1) x258000 x258001 x258002 x258003) else (if x258000 = 3 then (spec_CommandValid.j1L x258000 (x258000 == 3) x258000 x258001 x258002 x258003) else (spec_CommandValid.j1L x258000 (x258000 == 5) x258000 x258001 x258002 x258003))) := by
  refine LimIs.unique (spec_CommandValid.j0L_is x16 x258000 x258001 x258002 x258003) (LimIs.step (f := fun k => if x16 = true then (some false) else (if x258000 = 1 then (spec_CommandValid.j1 k x258000 (x258000 == 1) x258000 x258001 x258002 x258003) else (if x258000 = 3 then (spec_CommandValid.j1 k x258000 (x258000 == 3) x258000 x258001 x258002 x258003) else (spec_CommandValid.j1 k x258000 (x258000 == 5) x258000 x258001 x258002 x258003)))) (by simp only [spec_CommandValid.j0]) (fun k => by simp only [spec_CommandValid.j0]) ?_)
  repeat' first
    | (with_reducible exact LimIs.const _)
    | (with_reducible exact spec_CommandValid.j1L_is _ _ _ _ _ _)
    | (with_reducible refine LimIs.ite ?_ ?_)
    | (with_reducible refine LimIs.bind ?_ (fun _ => ?_))
theorem spec_CommandValid.j1L_eq (x18 : Int) (x19 : Bool) (x258000 : Int) (x258001 : ByteArray) (x258002 : Int) (x258003 : Int) : spec_CommandValid.j1L x18 x19 x258000 x258001 x258002 x258003 = if x19 = true then (if x258002 = 0 then (some (x258003 == 0)) else (some false)) else (if x18 = 2 then ((spec_l1In.f x258002 0 999).bind fun t259 => (if t259 = true then (some (x258003 == 0)) else (some false))) else (if x18 = 4 then ((spec_l1In.f x258002 0 999).bind fun t260 => (if t260 = true then ((spec_l1In.f x258003 (-1) 999).bind fun t261 => (some t261)) else (some false))) else (some false))) := by
  refine LimIs.unique (spec_CommandValid.j1L_is x18 x19 x258000 x258001 x258002 x258003) (LimIs.step (f := fun k => if x19 = true then (if x258002 = 0 then (some (x258003 == 0)) else (some false)) else (if x18 = 2 then ((spec_l1In.f x258002 0 999).bind fun t259 => (if t259 = true then (some (x258003 == 0)) else (some false))) else (if x18 = 4 then ((spec_l1In.f x258002 0 999).bind fun t260 => (if t260 = true then ((spec_l1In.f x258003 (-1) 999).bind fun t261 => (some t261)) else (some false))) else (some false)))) (by simp only [spec_CommandValid.j1]) (fun k => by simp only [spec_CommandValid.j1]) ?_)
  repeat' first
    | (with_reducible exact LimIs.const _)
    | (with_reducible refine LimIs.ite ?_ ?_)
    | (with_reducible refine LimIs.bind ?_ (fun _ => ?_))
theorem spec_CommandValid.fL_eq (a0_0 : Int) (a0_1 : ByteArray) (a0_2 : Int) (a0_3 : Int) : spec_CommandValid.fL a0_0 a0_1 a0_2 a0_3 = (spec_KeyValid.fL a0_1).bind fun t258 => (if t258 = true then (spec_CommandValid.j0L false a0_0 a0_1 a0_2 a0_3) else (if a0_0 = 5 then (spec_CommandValid.j0L (a0_1.toList != ([] : List UInt8)) a0_0 a0_1 a0_2 a0_3) else (spec_CommandValid.j0L true a0_0 a0_1 a0_2 a0_3))) := by
  refine LimIs.unique (spec_CommandValid.fL_is a0_0 a0_1 a0_2 a0_3) ?_
  unfold spec_CommandValid.f
  repeat' first
    | (with_reducible exact LimIs.const _)
    | (with_reducible exact spec_CommandValid.j0L_is _ _ _ _ _)
    | (with_reducible exact spec_KeyValid.fL_is _)
    | (with_reducible refine LimIs.ite ?_ ?_)
    | (with_reducible refine LimIs.bind ?_ (fun _ => ?_))
/-! ### spec_ApplyCommand -/
noncomputable def spec_ApplyCommand.j0L (x0 : List (S29)) (x24 : Bool) (x263000 : Int) (x263001 : ByteArray) (x263002 : Int) (x263003 : Int) : Option ((List (S29)) × Int) := Lim (fun k => spec_ApplyCommand.j0 k x0 x24 x263000 x263001 x263002 x263003)
theorem spec_ApplyCommand.j0L_is (x0 : List (S29)) (x24 : Bool) (x263000 : Int) (x263001 : ByteArray) (x263002 : Int) (x263003 : Int) : LimIs (fun k => spec_ApplyCommand.j0 k x0 x24 x263000 x263001 x263002 x263003) (spec_ApplyCommand.j0L x0 x24 x263000 x263001 x263002 x263003) := LimIs.of_mono (fun k r h => (spec_ApplyCommand.mono_l k).1 x0 x24 x263000 x263001 x263002 x263003 r h)
noncomputable def spec_ApplyCommand.j1L (x0 : List (S29)) (x6 : List (S29)) (x7 : Int) (x46 : Bool) (x263000 : Int) (x263001 : ByteArray) (x263002 : Int) (x263003 : Int) : Option ((List (S29)) × Int) := Lim (fun k => spec_ApplyCommand.j1 k x0 x6 x7 x46 x263000 x263001 x263002 x263003)
theorem spec_ApplyCommand.j1L_is (x0 : List (S29)) (x6 : List (S29)) (x7 : Int) (x46 : Bool) (x263000 : Int) (x263001 : ByteArray) (x263002 : Int) (x263003 : Int) : LimIs (fun k => spec_ApplyCommand.j1 k x0 x6 x7 x46 x263000 x263001 x263002 x263003) (spec_ApplyCommand.j1L x0 x6 x7 x46 x263000 x263001 x263002 x263003) := LimIs.of_mono (fun k r h => (spec_ApplyCommand.mono_l k).2 x0 x6 x7 x46 x263000 x263001 x263002 x263003 r h)
noncomputable def spec_ApplyCommand.fL (l0 : List (S29)) (a1_0 : Int) (a1_1 : ByteArray) (a1_2 : Int) (a1_3 : Int) : Option ((List (S29)) × Int) := Lim (fun k => spec_ApplyCommand.f k l0 a1_0 a1_1 a1_2 a1_3)
theorem spec_ApplyCommand.fL_is (l0 : List (S29)) (a1_0 : Int) (a1_1 : ByteArray) (a1_2 : Int) (a1_3 : Int) : LimIs (fun k => spec_ApplyCommand.f k l0 a1_0 a1_1 a1_2 a1_3) (spec_ApplyCommand.fL l0 a1_0 a1_1 a1_2 a1_3) := LimIs.of_mono (fun k r h => spec_ApplyCommand.mono l0 a1_0 a1_1 a1_2 a1_3 k r h)
theorem spec_ApplyCommand.j0L_eq (x0 : List (S29)) (x24 : Bool) (x263000 : Int) (x263001 : ByteArray) (x263002 : Int) (x263003 : Int) : spec_ApplyCommand.j0L x0 x24 x263000 x263001 x263002 x263003 = if x24 = true then (some ((([] : List (S29))), (-3))) else ((some (([] : List (S29)) : List (S29))).bind fun y268 => (if y268.length + x0.length < 5864062014805 then ((some (y268 ++ x0 : List (S29))).bind fun y271 => ((spec_PairGet.fL x0 x263001).bind fun t274 => (if x263000 = 1 then (spec_ApplyCommand.j1L x0 y271 t274 true x263000 x263001 x263002 x263003) else (if x263000 = 4 then (spec_ApplyCommand.j1L x0 y271 t274 (x263003 != t274) x263000 x263001 x263002 x263003) else (spec_ApplyCommand.j1L x0 y271 t274 false x263000 x263001 x263002 x263003))))) else (none))) := by
  refine LimIs.unique (spec_ApplyCommand.j0L_is x0 x24 x263000 x263001 x263002 x263003) (LimIs.step (f := fun k => if x24 = true then (some ((([] : List (S29))), (-3))) else ((some (([] : List (S29)) : List (S29))).bind fun y268 => (if y268.length + x0.length < 5864062014805 then ((some (y268 ++ x0 : List (S29))).bind fun y271 => ((spec_PairGet.f k x0 x263001).bind fun t274 => (if x263000 = 1 then (spec_ApplyCommand.j1 k x0 y271 t274 true x263000 x263001 x263002 x263003) else (if x263000 = 4 then (spec_ApplyCommand.j1 k x0 y271 t274 (x263003 != t274) x263000 x263001 x263002 x263003) else (spec_ApplyCommand.j1 k x0 y271 t274 false x263000 x263001 x263002 x263003))))) else (none)))) (by simp only [spec_ApplyCommand.j0]) (fun k => by simp only [spec_ApplyCommand.j0]) ?_)
  repeat' first
    | (with_reducible exact LimIs.const _)
    | (with_reducible exact spec_ApplyCommand.j1L_is _ _ _ _ _ _ _ _)
    | (with_reducible exact spec_PairGet.fL_is _ _)
    | (with_reducible refine LimIs.ite ?_ ?_)
    | (with_reducible refine LimIs.bind ?_ (fun _ => ?_))
theorem spec_ApplyCommand.j1L_eq (x0 : List (S29)) (x6 : List (S29)) (x7 : Int) (x46 : Bool) (x263000 : Int) (x263001 : ByteArray) (x263002 : Int) (x263003 : Int) : spec_ApplyCommand.j1L x0 x6 x7 x46 x263000 x263001 x263002 x263003 = if x46 = true then (some (x6, x7)) else (if x263000 = 3 then ((spec_PairDrop.fL x0 x263001).bind fun bt275 => (some (bt275.1, x7))) else (if x7 < 0 then (if (x0.length : Int) ≥ 8 then (some (x6, (-2))) else ((spec_PairPut.fL x0 x263001 x263002).bind fun bt279 => (some (bt279.1, x7)))) else ((spec_PairPut.fL x0 x263001 x263002).bind fun bt283 => (some (bt283.1, x7))))) := by
  refine LimIs.unique (spec_ApplyCommand.j1L_is x0 x6 x7 x46 x263000 x263001 x263002 x263003) (LimIs.step (f := fun k => if x46 = true then (some (x6, x7)) else (if x263000 = 3 then ((spec_PairDrop.f k x0 x263001).bind fun bt275 => (some (bt275.1, x7))) else (if x7 < 0 then (if (x0.length : Int) ≥ 8 then (some (x6, (-2))) else ((spec_PairPut.f k x0 x263001 x263002).bind fun bt279 => (some (bt279.1, x7)))) else ((spec_PairPut.f k x0 x263001 x263002).bind fun bt283 => (some (bt283.1, x7)))))) (by simp only [spec_ApplyCommand.j1]) (fun k => by simp only [spec_ApplyCommand.j1]) ?_)
  repeat' first
    | (with_reducible exact LimIs.const _)
    | (with_reducible exact spec_PairDrop.fL_is _ _)
    | (with_reducible exact spec_PairPut.fL_is _ _ _)
    | (with_reducible refine LimIs.ite ?_ ?_)
    | (with_reducible refine LimIs.bind ?_ (fun _ => ?_))
theorem spec_ApplyCommand.fL_eq (l0 : List (S29)) (a1_0 : Int) (a1_1 : ByteArray) (a1_2 : Int) (a1_3 : Int) : spec_ApplyCommand.fL l0 a1_0 a1_1 a1_2 a1_3 = (spec_PairsValid.fL l0).bind fun t263 => (if t263 = true then ((spec_CommandValid.fL a1_0 a1_1 a1_2 a1_3).bind fun t264 => (if t264 = true then (spec_ApplyCommand.j0L l0 (a1_0 == 5) a1_0 a1_1 a1_2 a1_3) else (spec_ApplyCommand.j0L l0 true a1_0 a1_1 a1_2 a1_3))) else (spec_ApplyCommand.j0L l0 true a1_0 a1_1 a1_2 a1_3)) := by
  refine LimIs.unique (spec_ApplyCommand.fL_is l0 a1_0 a1_1 a1_2 a1_3) ?_
  unfold spec_ApplyCommand.f
  repeat' first
    | (with_reducible exact LimIs.const _)
    | (with_reducible exact spec_ApplyCommand.j0L_is _ _ _ _ _ _)
    | (with_reducible exact spec_CommandValid.fL_is _ _ _ _)
    | (with_reducible exact spec_PairsValid.fL_is _)
    | (with_reducible refine LimIs.ite ?_ ?_)
    | (with_reducible refine LimIs.bind ?_ (fun _ => ?_))
/-! ### spec_l20Reply -/
noncomputable def spec_l20Reply.fL (s0_0 : List Int) (s0_1 : Int) (a1 : Int) : Option (Int × Int) := Lim (fun k => spec_l20Reply.f k s0_0 s0_1 a1)
theorem spec_l20Reply.fL_is (s0_0 : List Int) (s0_1 : Int) (a1 : Int) : LimIs (fun k => spec_l20Reply.f k s0_0 s0_1 a1) (spec_l20Reply.fL s0_0 s0_1 a1) := LimIs.of_mono (fun k r h => spec_l20Reply.mono s0_0 s0_1 a1 k r h)
theorem spec_l20Reply.fL_eq (s0_0 : List Int) (s0_1 : Int) (a1 : Int) : spec_l20Reply.fL s0_0 s0_1 a1 = (spec_l20Rd_odd.fL s0_0 s0_1 a1).bind fun bt287 => (if bt287.1 = true then ((some (([(-5), 1000] : List Int) : List Int)).bind fun y289 => ((spec_l20Rd_pick.fL s0_0 bt287.2 2).bind fun bt292 => (if 0 ≤ bt292.1 then (if bt292.1 < (y289.length : Int) then (some (rd y289 bt292.1, bt292.2)) else (none)) else (none)))) else ((spec_l20Rd_pick.fL s0_0 bt287.2 256).bind fun bt295 => ((some (([(-1), (-2), (-3), (-4), wrap64 (bt295.1 * 3), 999, 0] : List Int) : List Int)).bind fun y297 => ((spec_l20Rd_pick.fL s0_0 bt295.2 7).bind fun bt300 => (if 0 ≤ bt300.1 then (if bt300.1 < (y297.length : Int) then (some (rd y297 bt300.1, bt300.2)) else (none)) else (none)))))) := by
  refine LimIs.unique (spec_l20Reply.fL_is s0_0 s0_1 a1) ?_
  unfold spec_l20Reply.f
  repeat' first
    | (with_reducible exact LimIs.const _)
    | (with_reducible exact spec_l20Rd_odd.fL_is _ _ _)
    | (with_reducible exact spec_l20Rd_pick.fL_is _ _ _)
    | (with_reducible refine LimIs.ite ?_ ?_)
    | (with_reducible refine LimIs.bind ?_ (fun _ => ?_))
/-! ### spec_l20Any -/
noncomputable def spec_l20Any.fL (s0_0 : List Int) (s0_1 : Int) (a1 : Int) : Option (Int × ByteArray × Int × Int × Int) := Lim (fun k => spec_l20Any.f k s0_0 s0_1 a1)
theorem spec_l20Any.fL_is (s0_0 : List Int) (s0_1 : Int) (a1 : Int) : LimIs (fun k => spec_l20Any.f k s0_0 s0_1 a1) (spec_l20Any.fL s0_0 s0_1 a1) := LimIs.of_mono (fun k r h => spec_l20Any.mono s0_0 s0_1 a1 k r h)
theorem spec_l20Any.fL_eq (s0_0 : List Int) (s0_1 : Int) (a1 : Int) : spec_l20Any.fL s0_0 s0_1 a1 = (spec_l20Cmd.fL s0_0 s0_1 a1).bind fun bt304 => ((spec_l20Rd_pick.fL s0_0 bt304.2.2.2.2 5).bind fun bt310 => (if bt310.1 = 0 then ((spec_l20Key.fL s0_0 bt310.2 0).bind fun bt312 => ((some (([(⟨#[]⟩ : ByteArray), (⟨#[98]⟩ : ByteArray), (⟨#[99]⟩ : ByteArray), bt312.1] : List ByteArray) : List ByteArray)).bind fun y314 => ((spec_l20Rd_pick.fL s0_0 bt312.2 4).bind fun bt317 => (if 0 ≤ bt317.1 then (if bt317.1 < (y314.length : Int) then (some (5, rdOf ByteArray.empty y314 bt317.1, 0, 0, bt317.2)) else (none)) else (none))))) else (some (bt304.1, bt304.2.1, bt304.2.2.1, bt304.2.2.2.1, bt310.2)))) := by
  refine LimIs.unique (spec_l20Any.fL_is s0_0 s0_1 a1) ?_
  unfold spec_l20Any.f
  repeat' first
    | (with_reducible exact LimIs.const _)
    | (with_reducible exact spec_l20Cmd.fL_is _ _ _)
    | (with_reducible exact spec_l20Key.fL_is _ _ _)
    | (with_reducible exact spec_l20Rd_pick.fL_is _ _ _)
    | (with_reducible refine LimIs.ite ?_ ?_)
    | (with_reducible refine LimIs.bind ?_ (fun _ => ?_))
/-! ### spec_l20Results -/
noncomputable def spec_l20Results.l0L (x1 : Int) (x5 : List (S42)) (x6 : List (S29)) (x7 : Int) (x8 : Int) (x1000 : List Int) (x1001 : Int) : Option ((List (S42)) × Int) := Lim (fun k => spec_l20Results.l0 k x1 x5 x6 x7 x8 x1000 x1001)
theorem spec_l20Results.l0L_is (x1 : Int) (x5 : List (S42)) (x6 : List (S29)) (x7 : Int) (x8 : Int) (x1000 : List Int) (x1001 : Int) : LimIs (fun k => spec_l20Results.l0 k x1 x5 x6 x7 x8 x1000 x1001) (spec_l20Results.l0L x1 x5 x6 x7 x8 x1000 x1001) := LimIs.of_mono (fun k r h => (spec_l20Results.mono_l k).1 x1 x5 x6 x7 x8 x1000 x1001 r h)
noncomputable def spec_l20Results.j1L (x1 : Int) (x5 : List (S42)) (x68 : Bool) (x1000 : List Int) (x1001 : Int) : Option ((List (S42)) × Int) := Lim (fun k => spec_l20Results.j1 k x1 x5 x68 x1000 x1001)
theorem spec_l20Results.j1L_is (x1 : Int) (x5 : List (S42)) (x68 : Bool) (x1000 : List Int) (x1001 : Int) : LimIs (fun k => spec_l20Results.j1 k x1 x5 x68 x1000 x1001) (spec_l20Results.j1L x1 x5 x68 x1000 x1001) := LimIs.of_mono (fun k r h => (spec_l20Results.mono_l k).2.1 x1 x5 x68 x1000 x1001 r h)
noncomputable def spec_l20Results.j2L (x1 : Int) (x5 : List (S42)) (x1000 : List Int) (x1001 : Int) : Option ((List (S42)) × Int) := Lim (fun k => spec_l20Results.j2 k x1 x5 x1000 x1001)
theorem spec_l20Results.j2L_is (x1 : Int) (x5 : List (S42)) (x1000 : List Int) (x1001 : Int) : LimIs (fun k => spec_l20Results.j2 k x1 x5 x1000 x1001) (spec_l20Results.j2L x1 x5 x1000 x1001) := LimIs.of_mono (fun k r h => (spec_l20Results.mono_l k).2.2.1 x1 x5 x1000 x1001 r h)
noncomputable def spec_l20Results.j3L (x1 : Int) (x5 : List (S42)) (x93 : Bool) (x1000 : List Int) (x1001 : Int) : Option ((List (S42)) × Int) := Lim (fun k => spec_l20Results.j3 k x1 x5 x93 x1000 x1001)
theorem spec_l20Results.j3L_is (x1 : Int) (x5 : List (S42)) (x93 : Bool) (x1000 : List Int) (x1001 : Int) : LimIs (fun k => spec_l20Results.j3 k x1 x5 x93 x1000 x1001) (spec_l20Results.j3L x1 x5 x93 x1000 x1001) := LimIs.of_mono (fun k r h => (spec_l20Results.mono_l k).2.2.2.1 x1 x5 x93 x1000 x1001 r h)
noncomputable def spec_l20Results.j4L (x1 : Int) (x5 : List (S42)) (x1000 : List Int) (x1001 : Int) : Option ((List (S42)) × Int) := Lim (fun k => spec_l20Results.j4 k x1 x5 x1000 x1001)
theorem spec_l20Results.j4L_is (x1 : Int) (x5 : List (S42)) (x1000 : List Int) (x1001 : Int) : LimIs (fun k => spec_l20Results.j4 k x1 x5 x1000 x1001) (spec_l20Results.j4L x1 x5 x1000 x1001) := LimIs.of_mono (fun k r h => (spec_l20Results.mono_l k).2.2.2.2 x1 x5 x1000 x1001 r h)
noncomputable def spec_l20Results.fL (s0_0 : List Int) (s0_1 : Int) (a1 : Int) : Option ((List (S42)) × Int) := Lim (fun k => spec_l20Results.f k s0_0 s0_1 a1)
theorem spec_l20Results.fL_is (s0_0 : List Int) (s0_1 : Int) (a1 : Int) : LimIs (fun k => spec_l20Results.f k s0_0 s0_1 a1) (spec_l20Results.fL s0_0 s0_1 a1) := LimIs.of_mono (fun k r h => spec_l20Results.mono s0_0 s0_1 a1 k r h)
theorem spec_l20Results.l0L_eq (x1 : Int) (x5 : List (S42)) (x6 : List (S29)) (x7 : Int) (x8 : Int) (x1000 : List Int) (x1001 : Int) : spec_l20Results.l0L x1 x5 x6 x7 x8 x1000 x1001 = if x8 > 0 then ((spec_l20Cmd.fL x1000 x1001 0).bind fun bt328 => ((some (([(⟨#[98]⟩ : ByteArray), (⟨#[99]⟩ : ByteArray)] : List ByteArray) : List ByteArray)).bind fun y334 => ((spec_l20Rd_pick.fL x1000 bt328.2.2.2.2 4).bind fun bt337 => (if 0 ≤ (wrap64 (Int.tdiv bt337.1 3)) then (if (wrap64 (Int.tdiv bt337.1 3)) < (y334.length : Int) then ((spec_ApplyCommand.fL x6 bt328.1 (rdOf ByteArray.empty y334 (wrap64 (Int.tdiv bt337.1 3))) bt328.2.2.1 bt328.2.2.2.1).bind fun bt340 => ((spec_l20Rd_pick.fL x1000 bt337.2 4).bind fun bt344 => ((spec_l20Rd_pick.fL x1000 bt344.2 3).bind fun bt346 => ((spec_l20Rd_pick.fL x1000 bt346.2 4).bind fun bt348 => (if x5.length < 1759218604441 then (spec_l20Results.l0L x1 (x5 ++ [(⟨wrap64 (1 + bt346.1), x8, (⟨bt328.1, rdOf ByteArray.empty y334 (wrap64 (Int.tdiv bt337.1 3)), bt328.2.2.1, bt328.2.2.2.1⟩ : S40), bt340.2, mx 0 (wrap64 (x7 - bt344.1)), wrap64 (x7 + bt348.1)⟩ : S42)]) bt340.1 (wrap64 (x7 + 1)) (wrap64 (x8 - 1)) x1000 bt348.2) else (none)))))) else (none)) else (none))))) else (if (x5.length : Int) > 1 then ((spec_l20Rd_pick.fL x1000 x1001 2).bind fun bt353 => (spec_l20Results.j1L x1 x5 (bt353.1 == 0) x1000 bt353.2)) else (spec_l20Results.j1L x1 x5 false x1000 x1001)) := by
  refine LimIs.unique (spec_l20Results.l0L_is x1 x5 x6 x7 x8 x1000 x1001) (LimIs.step (f := fun k => if x8 > 0 then ((spec_l20Cmd.f k x1000 x1001 0).bind fun bt328 => ((some (([(⟨#[98]⟩ : ByteArray), (⟨#[99]⟩ : ByteArray)] : List ByteArray) : List ByteArray)).bind fun y334 => ((spec_l20Rd_pick.f k x1000 bt328.2.2.2.2 4).bind fun bt337 => (if 0 ≤ (wrap64 (Int.tdiv bt337.1 3)) then (if (wrap64 (Int.tdiv bt337.1 3)) < (y334.length : Int) then ((spec_ApplyCommand.f k x6 bt328.1 (rdOf ByteArray.empty y334 (wrap64 (Int.tdiv bt337.1 3))) bt328.2.2.1 bt328.2.2.2.1).bind fun bt340 => ((spec_l20Rd_pick.f k x1000 bt337.2 4).bind fun bt344 => ((spec_l20Rd_pick.f k x1000 bt344.2 3).bind fun bt346 => ((spec_l20Rd_pick.f k x1000 bt346.2 4).bind fun bt348 => (if x5.length < 1759218604441 then (spec_l20Results.l0 k x1 (x5 ++ [(⟨wrap64 (1 + bt346.1), x8, (⟨bt328.1, rdOf ByteArray.empty y334 (wrap64 (Int.tdiv bt337.1 3)), bt328.2.2.1, bt328.2.2.2.1⟩ : S40), bt340.2, mx 0 (wrap64 (x7 - bt344.1)), wrap64 (x7 + bt348.1)⟩ : S42)]) bt340.1 (wrap64 (x7 + 1)) (wrap64 (x8 - 1)) x1000 bt348.2) else (none)))))) else (none)) else (none))))) else (if (x5.length : Int) > 1 then ((spec_l20Rd_pick.f k x1000 x1001 2).bind fun bt353 => (spec_l20Results.j1 k x1 x5 (bt353.1 == 0) x1000 bt353.2)) else (spec_l20Results.j1 k x1 x5 false x1000 x1001))) (by simp only [spec_l20Results.l0]) (fun k => by simp only [spec_l20Results.l0]) ?_)
  repeat' first
    | (with_reducible exact LimIs.const _)
    | (with_reducible exact spec_ApplyCommand.fL_is _ _ _ _ _)
    | (with_reducible exact spec_l20Cmd.fL_is _ _ _)
    | (with_reducible exact spec_l20Rd_pick.fL_is _ _ _)
    | (with_reducible exact spec_l20Results.j1L_is _ _ _ _ _)
    | (with_reducible exact spec_l20Results.l0L_is _ _ _ _ _ _ _)
    | (with_reducible refine LimIs.ite ?_ ?_)
    | (with_reducible refine LimIs.bind ?_ (fun _ => ?_))
theorem spec_l20Results.j1L_eq (x1 : Int) (x5 : List (S42)) (x68 : Bool) (x1000 : List Int) (x1001 : Int) : spec_l20Results.j1L x1 x5 x68 x1000 x1001 = if x68 = true then ((spec_l20Rd_pick.fL x1000 x1001 (x5.length : Int)).bind fun bt355 => (if 0 < (x5.length : Int) then (if 0 ≤ bt355.1 then (if bt355.1 < (x5.length : Int) then (spec_l20Results.j2L x1 ((x5.set (0 : Int).toNat (⟨(rd_T42 x5 bt355.1).f0, (rd_T42 x5 bt355.1).f1, (⟨(rd_T42 x5 bt355.1).f2.f0, (rd_T42 x5 bt355.1).f2.f1, (rd_T42 x5 bt355.1).f2.f2, (rd_T42 x5 bt355.1).f2.f3⟩ : S40), (rd_T42 x5 bt355.1).f3, (rd_T42 x5 bt355.1).f4, (rd_T42 x5 bt355.1).f5⟩ : S42)).set (bt355.1 : Int).toNat (⟨(rd_T42 x5 0).f0, (rd_T42 x5 0).f1, (⟨(rd_T42 x5 0).f2.f0, (rd_T42 x5 0).f2.f1, (rd_T42 x5 0).f2.f2, (rd_T42 x5 0).f2.f3⟩ : S40), (rd_T42 x5 0).f3, (rd_T42 x5 0).f4, (rd_T42 x5 0).f5⟩ : S42)) x1000 bt355.2) else (none)) else (none)) else (none))) else (spec_l20Results.j2L x1 x5 x1000 x1001) := by
  refine LimIs.unique (spec_l20Results.j1L_is x1 x5 x68 x1000 x1001) (LimIs.step (f := fun k => if x68 = true then ((spec_l20Rd_pick.f k x1000 x1001 (x5.length : Int)).bind fun bt355 => (if 0 < (x5.length : Int) then (if 0 ≤ bt355.1 then (if bt355.1 < (x5.length : Int) then (spec_l20Results.j2 k x1 ((x5.set (0 : Int).toNat (⟨(rd_T42 x5 bt355.1).f0, (rd_T42 x5 bt355.1).f1, (⟨(rd_T42 x5 bt355.1).f2.f0, (rd_T42 x5 bt355.1).f2.f1, (rd_T42 x5 bt355.1).f2.f2, (rd_T42 x5 bt355.1).f2.f3⟩ : S40), (rd_T42 x5 bt355.1).f3, (rd_T42 x5 bt355.1).f4, (rd_T42 x5 bt355.1).f5⟩ : S42)).set (bt355.1 : Int).toNat (⟨(rd_T42 x5 0).f0, (rd_T42 x5 0).f1, (⟨(rd_T42 x5 0).f2.f0, (rd_T42 x5 0).f2.f1, (rd_T42 x5 0).f2.f2, (rd_T42 x5 0).f2.f3⟩ : S40), (rd_T42 x5 0).f3, (rd_T42 x5 0).f4, (rd_T42 x5 0).f5⟩ : S42)) x1000 bt355.2) else (none)) else (none)) else (none))) else (spec_l20Results.j2 k x1 x5 x1000 x1001)) (by simp only [spec_l20Results.j1]) (fun k => by simp only [spec_l20Results.j1]) ?_)
  repeat' first
    | (with_reducible exact LimIs.const _)
    | (with_reducible exact spec_l20Rd_pick.fL_is _ _ _)
    | (with_reducible exact spec_l20Results.j2L_is _ _ _ _)
    | (with_reducible refine LimIs.ite ?_ ?_)
    | (with_reducible refine LimIs.bind ?_ (fun _ => ?_))
theorem spec_l20Results.j2L_eq (x1 : Int) (x5 : List (S42)) (x1000 : List Int) (x1001 : Int) : spec_l20Results.j2L x1 x5 x1000 x1001 = if (x5.length : Int) > 0 then ((spec_l20Rd_pick.fL x1000 x1001 4).bind fun bt362 => (spec_l20Results.j3L x1 x5 (bt362.1 == 0) x1000 bt362.2)) else (spec_l20Results.j3L x1 x5 false x1000 x1001) := by
  refine LimIs.unique (spec_l20Results.j2L_is x1 x5 x1000 x1001) (LimIs.step (f := fun k => if (x5.length : Int) > 0 then ((spec_l20Rd_pick.f k x1000 x1001 4).bind fun bt362 => (spec_l20Results.j3 k x1 x5 (bt362.1 == 0) x1000 bt362.2)) else (spec_l20Results.j3 k x1 x5 false x1000 x1001)) (by simp only [spec_l20Results.j2]) (fun k => by simp only [spec_l20Results.j2]) ?_)
  repeat' first
    | (with_reducible exact LimIs.const _)
    | (with_reducible exact spec_l20Rd_pick.fL_is _ _ _)
    | (with_reducible exact spec_l20Results.j3L_is _ _ _ _ _)
    | (with_reducible refine LimIs.ite ?_ ?_)
    | (with_reducible refine LimIs.bind ?_ (fun _ => ?_))
theorem spec_l20Results.j3L_eq (x1 : Int) (x5 : List (S42)) (x93 : Bool) (x1000 : List Int) (x1001 : Int) : spec_l20Results.j3L x1 x5 x93 x1000 x1001 = if x93 = true then ((spec_l20Rd_pick.fL x1000 x1001 (x5.length : Int)).bind fun bt364 => ((spec_l20Reply.fL x1000 bt364.2 0).bind fun bt366 => (if 0 ≤ bt364.1 then (if bt364.1 < (x5.length : Int) then (spec_l20Results.j4L x1 (x5.set (bt364.1 : Int).toNat (⟨(rd_T42 x5 bt364.1).f0, (rd_T42 x5 bt364.1).f1, (⟨(rd_T42 x5 bt364.1).f2.f0, (rd_T42 x5 bt364.1).f2.f1, (rd_T42 x5 bt364.1).f2.f2, (rd_T42 x5 bt364.1).f2.f3⟩ : S40), bt366.1, (rd_T42 x5 bt364.1).f4, (rd_T42 x5 bt364.1).f5⟩ : S42)) x1000 bt366.2) else (none)) else (none)))) else (spec_l20Results.j4L x1 x5 x1000 x1001) := by
  refine LimIs.unique (spec_l20Results.j3L_is x1 x5 x93 x1000 x1001) (LimIs.step (f := fun k => if x93 = true then ((spec_l20Rd_pick.f k x1000 x1001 (x5.length : Int)).bind fun bt364 => ((spec_l20Reply.f k x1000 bt364.2 0).bind fun bt366 => (if 0 ≤ bt364.1 then (if bt364.1 < (x5.length : Int) then (spec_l20Results.j4 k x1 (x5.set (bt364.1 : Int).toNat (⟨(rd_T42 x5 bt364.1).f0, (rd_T42 x5 bt364.1).f1, (⟨(rd_T42 x5 bt364.1).f2.f0, (rd_T42 x5 bt364.1).f2.f1, (rd_T42 x5 bt364.1).f2.f2, (rd_T42 x5 bt364.1).f2.f3⟩ : S40), bt366.1, (rd_T42 x5 bt364.1).f4, (rd_T42 x5 bt364.1).f5⟩ : S42)) x1000 bt366.2) else (none)) else (none)))) else (spec_l20Results.j4 k x1 x5 x1000 x1001)) (by simp only [spec_l20Results.j3]) (fun k => by simp only [spec_l20Results.j3]) ?_)
  repeat' first
    | (with_reducible exact LimIs.const _)
    | (with_reducible exact spec_l20Rd_pick.fL_is _ _ _)
    | (with_reducible exact spec_l20Reply.fL_is _ _ _)
    | (with_reducible exact spec_l20Results.j4L_is _ _ _ _)
    | (with_reducible refine LimIs.ite ?_ ?_)
    | (with_reducible refine LimIs.bind ?_ (fun _ => ?_))
theorem spec_l20Results.j4L_eq (x1 : Int) (x5 : List (S42)) (x1000 : List Int) (x1001 : Int) : spec_l20Results.j4L x1 x5 x1000 x1001 = (spec_l20Rd_odd.fL x1000 x1001 x1).bind fun bt369 => (if bt369.1 = true then ((spec_l20Rd_pick.fL x1000 bt369.2 4).bind fun bt371 => ((spec_l20Any.fL x1000 bt371.2 0).bind fun bt373 => ((spec_l20Rd_pick.fL x1000 bt373.2.2.2.2 2).bind fun bt378 => (if x5.length < 1759218604441 then (some ((x5 ++ [(⟨bt371.1, 1, (⟨bt373.1, bt373.2.1, bt373.2.2.1, bt373.2.2.2.1⟩ : S40), 0, bt378.1, 0⟩ : S42)]), bt378.2)) else (none))))) else (some (x5, bt369.2))) := by
  refine LimIs.unique (spec_l20Results.j4L_is x1 x5 x1000 x1001) (LimIs.step (f := fun k => (spec_l20Rd_odd.f k x1000 x1001 x1).bind fun bt369 => (if bt369.1 = true then ((spec_l20Rd_pick.f k x1000 bt369.2 4).bind fun bt371 => ((spec_l20Any.f k x1000 bt371.2 0).bind fun bt373 => ((spec_l20Rd_pick.f k x1000 bt373.2.2.2.2 2).bind fun bt378 => (if x5.length < 1759218604441 then (some ((x5 ++ [(⟨bt371.1, 1, (⟨bt373.1, bt373.2.1, bt373.2.2.1, bt373.2.2.2.1⟩ : S40), 0, bt378.1, 0⟩ : S42)]), bt378.2)) else (none))))) else (some (x5, bt369.2)))) (by simp only [spec_l20Results.j4]) (fun k => by simp only [spec_l20Results.j4]) ?_)
  repeat' first
    | (with_reducible exact LimIs.const _)
    | (with_reducible exact spec_l20Any.fL_is _ _ _)
    | (with_reducible exact spec_l20Rd_odd.fL_is _ _ _)
    | (with_reducible exact spec_l20Rd_pick.fL_is _ _ _)
    | (with_reducible refine LimIs.ite ?_ ?_)
    | (with_reducible refine LimIs.bind ?_ (fun _ => ?_))
theorem spec_l20Results.fL_eq (s0_0 : List Int) (s0_1 : Int) (a1 : Int) : spec_l20Results.fL s0_0 s0_1 a1 = (spec_l20Rd_pick.fL s0_0 s0_1 6).bind fun bt326 => (spec_l20Results.l0L a1 (([] : List (S42))) (([] : List (S29))) 1 bt326.1 s0_0 bt326.2) := by
  refine LimIs.unique (spec_l20Results.fL_is s0_0 s0_1 a1) ?_
  unfold spec_l20Results.f
  repeat' first
    | (with_reducible exact LimIs.const _)
    | (with_reducible exact spec_l20Rd_pick.fL_is _ _ _)
    | (with_reducible exact spec_l20Results.l0L_is _ _ _ _ _ _ _)
    | (with_reducible refine LimIs.ite ?_ ?_)
    | (with_reducible refine LimIs.bind ?_ (fun _ => ?_))
/-! ### spec_l20Order -/
noncomputable def spec_l20Order.l0L (x1 : Int) (x2 : Int) (x7 : List Int) (x8 : Int) (x1000 : List Int) (x1001 : Int) : Option (List Int × Int) := Lim (fun k => spec_l20Order.l0 k x1 x2 x7 x8 x1000 x1001)
theorem spec_l20Order.l0L_is (x1 : Int) (x2 : Int) (x7 : List Int) (x8 : Int) (x1000 : List Int) (x1001 : Int) : LimIs (fun k => spec_l20Order.l0 k x1 x2 x7 x8 x1000 x1001) (spec_l20Order.l0L x1 x2 x7 x8 x1000 x1001) := LimIs.of_mono (fun k r h => (spec_l20Order.mono_l k).1 x1 x2 x7 x8 x1000 x1001 r h)
noncomputable def spec_l20Order.l1L (x1 : Int) (x2 : Int) (x7 : List Int) (x9 : Int) (x1000 : List Int) (x1001 : Int) : Option (List Int × Int) := Lim (fun k => spec_l20Order.l1 k x1 x2 x7 x9 x1000 x1001)
theorem spec_l20Order.l1L_is (x1 : Int) (x2 : Int) (x7 : List Int) (x9 : Int) (x1000 : List Int) (x1001 : Int) : LimIs (fun k => spec_l20Order.l1 k x1 x2 x7 x9 x1000 x1001) (spec_l20Order.l1L x1 x2 x7 x9 x1000 x1001) := LimIs.of_mono (fun k r h => (spec_l20Order.mono_l k).2 x1 x2 x7 x9 x1000 x1001 r h)
noncomputable def spec_l20Order.fL (s0_0 : List Int) (s0_1 : Int) (a1 : Int) (a2 : Int) : Option (List Int × Int) := Lim (fun k => spec_l20Order.f k s0_0 s0_1 a1 a2)
theorem spec_l20Order.fL_is (s0_0 : List Int) (s0_1 : Int) (a1 : Int) (a2 : Int) : LimIs (fun k => spec_l20Order.f k s0_0 s0_1 a1 a2) (spec_l20Order.fL s0_0 s0_1 a1 a2) := LimIs.of_mono (fun k r h => spec_l20Order.mono s0_0 s0_1 a1 a2 k r h)
theorem spec_l20Order.l0L_eq (x1 : Int) (x2 : Int) (x7 : List Int) (x8 : Int) (x1000 : List Int) (x1001 : Int) : spec_l20Order.l0L x1 x2 x7 x8 x1000 x1001 = if x8 < x1 then (if x7.length < 17592186044416 then (spec_l20Order.l0L x1 x2 (x7 ++ [x8]) (wrap64 (x8 + 1)) x1000 x1001) else (none)) else (spec_l20Order.l1L x1 x2 x7 0 x1000 x1001) := by
  refine LimIs.unique (spec_l20Order.l0L_is x1 x2 x7 x8 x1000 x1001) (LimIs.step (f := fun k => if x8 < x1 then (if x7.length < 17592186044416 then (spec_l20Order.l0 k x1 x2 (x7 ++ [x8]) (wrap64 (x8 + 1)) x1000 x1001) else (none)) else (spec_l20Order.l1 k x1 x2 x7 0 x1000 x1001)) (by simp only [spec_l20Order.l0]) (fun k => by simp only [spec_l20Order.l0]) ?_)
  repeat' first
    | (with_reducible exact LimIs.const _)
    | (with_reducible exact spec_l20Order.l0L_is _ _ _ _ _ _)
    | (with_reducible exact spec_l20Order.l1L_is _ _ _ _ _ _)
    | (with_reducible refine LimIs.ite ?_ ?_)
    | (with_reducible refine LimIs.bind ?_ (fun _ => ?_))
theorem spec_l20Order.l1L_eq (x1 : Int) (x2 : Int) (x7 : List Int) (x9 : Int) (x1000 : List Int) (x1001 : Int) : spec_l20Order.l1L x1 x2 x7 x9 x1000 x1001 = if x9 < x1 then ((spec_l20Rd_pick.fL x1000 x1001 x1).bind fun bt389 => (if 0 ≤ x9 then (if x9 < (x7.length : Int) then (if 0 ≤ bt389.1 then (if bt389.1 < (x7.length : Int) then (spec_l20Order.l1L x1 x2 ((x7.set (x9 : Int).toNat (rd x7 bt389.1)).set (bt389.1 : Int).toNat (rd x7 x9)) (wrap64 (x9 + 1)) x1000 bt389.2) else (none)) else (none)) else (none)) else (none))) else ((spec_l20Rd_odd.fL x1000 x1001 x2).bind fun bt395 => (if bt395.1 = true then ((some (([0, (-1), x1] : List Int) : List Int)).bind fun y397 => ((spec_l20Rd_pick.fL x1000 bt395.2 3).bind fun bt400 => (if 0 ≤ bt400.1 then (if bt400.1 < (y397.length : Int) then (if x7.length < 17592186044416 then (some ((x7 ++ [rd y397 bt400.1]), bt400.2)) else (none)) else (none)) else (none)))) else (some (x7, bt395.2)))) := by
  refine LimIs.unique (spec_l20Order.l1L_is x1 x2 x7 x9 x1000 x1001) (LimIs.step (f := fun k => if x9 < x1 then ((spec_l20Rd_pick.f k x1000 x1001 x1).bind fun bt389 => (if 0 ≤ x9 then (if x9 < (x7.length : Int) then (if 0 ≤ bt389.1 then (if bt389.1 < (x7.length : Int) then (spec_l20Order.l1 k x1 x2 ((x7.set (x9 : Int).toNat (rd x7 bt389.1)).set (bt389.1 : Int).toNat (rd x7 x9)) (wrap64 (x9 + 1)) x1000 bt389.2) else (none)) else (none)) else (none)) else (none))) else ((spec_l20Rd_odd.f k x1000 x1001 x2).bind fun bt395 => (if bt395.1 = true then ((some (([0, (-1), x1] : List Int) : List Int)).bind fun y397 => ((spec_l20Rd_pick.f k x1000 bt395.2 3).bind fun bt400 => (if 0 ≤ bt400.1 then (if bt400.1 < (y397.length : Int) then (if x7.length < 17592186044416 then (some ((x7 ++ [rd y397 bt400.1]), bt400.2)) else (none)) else (none)) else (none)))) else (some (x7, bt395.2))))) (by simp only [spec_l20Order.l1]) (fun k => by simp only [spec_l20Order.l1]) ?_)
  repeat' first
    | (with_reducible exact LimIs.const _)
    | (with_reducible exact spec_l20Order.l1L_is _ _ _ _ _ _)
    | (with_reducible exact spec_l20Rd_odd.fL_is _ _ _)
    | (with_reducible exact spec_l20Rd_pick.fL_is _ _ _)
    | (with_reducible refine LimIs.ite ?_ ?_)
    | (with_reducible refine LimIs.bind ?_ (fun _ => ?_))
theorem spec_l20Order.fL_eq (s0_0 : List Int) (s0_1 : Int) (a1 : Int) (a2 : Int) : spec_l20Order.fL s0_0 s0_1 a1 a2 = spec_l20Order.l0L a1 a2 (([] : List Int)) 0 s0_0 s0_1 := by
  refine LimIs.unique (spec_l20Order.fL_is s0_0 s0_1 a1 a2) ?_
  unfold spec_l20Order.f
  repeat' first
    | (with_reducible exact LimIs.const _)
    | (with_reducible exact spec_l20Order.l0L_is _ _ _ _ _ _)
    | (with_reducible refine LimIs.ite ?_ ?_)
    | (with_reducible refine LimIs.bind ?_ (fun _ => ?_))
/-! ### spec_DrawRealTime -/
noncomputable def spec_DrawRealTime.l0L (x5 : List (S42)) (x6 : List Int) (x7 : Int) : Option ((List (S42)) × List Int) := Lim (fun k => spec_DrawRealTime.l0 k x5 x6 x7)
theorem spec_DrawRealTime.l0L_is (x5 : List (S42)) (x6 : List Int) (x7 : Int) : LimIs (fun k => spec_DrawRealTime.l0 k x5 x6 x7) (spec_DrawRealTime.l0L x5 x6 x7) := LimIs.of_mono (fun k r h => (spec_DrawRealTime.mono_l k) x5 x6 x7 r h)
noncomputable def spec_DrawRealTime.fL (l0 : List Int) : Option ((List (S42)) × List Int) := Lim (fun k => spec_DrawRealTime.f k l0)
theorem spec_DrawRealTime.fL_is (l0 : List Int) : LimIs (fun k => spec_DrawRealTime.f k l0) (spec_DrawRealTime.fL l0) := LimIs.of_mono (fun k r h => spec_DrawRealTime.mono l0 k r h)
theorem spec_DrawRealTime.l0L_eq (x5 : List (S42)) (x6 : List Int) (x7 : Int) : spec_DrawRealTime.l0L x5 x6 x7 = if x7 < (x5.length : Int) then (if x6.length < 17592186044416 then (spec_DrawRealTime.l0L x5 (x6 ++ [x7]) (wrap64 (x7 + 1))) else (none)) else (some (x5, x6)) := by
  refine LimIs.unique (spec_DrawRealTime.l0L_is x5 x6 x7) (LimIs.step (f := fun k => if x7 < (x5.length : Int) then (if x6.length < 17592186044416 then (spec_DrawRealTime.l0 k x5 (x6 ++ [x7]) (wrap64 (x7 + 1))) else (none)) else (some (x5, x6))) (by simp only [spec_DrawRealTime.l0]) (fun k => by simp only [spec_DrawRealTime.l0]) ?_)
  repeat' first
    | (with_reducible exact LimIs.const _)
    | (with_reducible exact spec_DrawRealTime.l0L_is _ _ _)
    | (with_reducible refine LimIs.ite ?_ ?_)
    | (with_reducible refine LimIs.bind ?_ (fun _ => ?_))
theorem spec_DrawRealTime.fL_eq (l0 : List Int) : spec_DrawRealTime.fL l0 = (spec_l20Open.f l0).bind fun bt406 => ((spec_l20Results.fL bt406.1 bt406.2 12).bind fun bt409 => ((spec_l20Rd_pick.fL bt406.1 bt409.2 3).bind fun bt413 => (if bt413.1 = 0 then (spec_DrawRealTime.l0L bt409.1 (([] : List Int)) 0) else ((spec_l20Order.fL bt406.1 bt413.2 (bt409.1.length : Int) 12).bind fun bt421 => (some (bt409.1, bt421.1)))))) := by
  refine LimIs.unique (spec_DrawRealTime.fL_is l0) ?_
  unfold spec_DrawRealTime.f
  repeat' first
    | (with_reducible exact LimIs.const _)
    | (with_reducible exact spec_DrawRealTime.l0L_is _ _ _)
    | (with_reducible exact spec_l20Order.fL_is _ _ _ _)
    | (with_reducible exact spec_l20Rd_pick.fL_is _ _ _)
    | (with_reducible exact spec_l20Results.fL_is _ _ _)
    | (with_reducible refine LimIs.ite ?_ ?_)
    | (with_reducible refine LimIs.bind ?_ (fun _ => ?_))
/-! ### slices_Index_int_int -/
noncomputable def slices_Index_int_int.l0L (x0 : List Int) (x1 : Int) (x7 : Int) (x8 : Int) : Option (Int) := Lim (fun k => slices_Index_int_int.l0 k x0 x1 x7 x8)
theorem slices_Index_int_int.l0L_is (x0 : List Int) (x1 : Int) (x7 : Int) (x8 : Int) : LimIs (fun k => slices_Index_int_int.l0 k x0 x1 x7 x8) (slices_Index_int_int.l0L x0 x1 x7 x8) := LimIs.of_mono (fun k r h => (slices_Index_int_int.mono_l k) x0 x1 x7 x8 r h)
noncomputable def slices_Index_int_int.fL (l0 : List Int) (a1 : Int) : Option (Int) := Lim (fun k => slices_Index_int_int.f k l0 a1)
theorem slices_Index_int_int.fL_is (l0 : List Int) (a1 : Int) : LimIs (fun k => slices_Index_int_int.f k l0 a1) (slices_Index_int_int.fL l0 a1) := LimIs.of_mono (fun k r h => slices_Index_int_int.mono l0 a1 k r h)
theorem slices_Index_int_int.l0L_eq (x0 : List Int) (x1 : Int) (x7 : Int) (x8 : Int) : slices_Index_int_int.l0L x0 x1 x7 x8 = if x8 < x7 then (if 0 ≤ x8 then (if x8 < (x0.length : Int) then (if x1 = (rd x0 x8) then (some x8) else (slices_Index_int_int.l0L x0 x1 x7 (wrap64 (x8 + 1)))) else (none)) else (none)) else (some (-1)) := by
  refine LimIs.unique (slices_Index_int_int.l0L_is x0 x1 x7 x8) (LimIs.step (f := fun k => if x8 < x7 then (if 0 ≤ x8 then (if x8 < (x0.length : Int) then (if x1 = (rd x0 x8) then (some x8) else (slices_Index_int_int.l0 k x0 x1 x7 (wrap64 (x8 + 1)))) else (none)) else (none)) else (some (-1))) (by simp only [slices_Index_int_int.l0]) (fun k => by simp only [slices_Index_int_int.l0]) ?_)
  repeat' first
    | (with_reducible exact LimIs.const _)
    | (with_reducible exact slices_Index_int_int.l0L_is _ _ _ _)
    | (with_reducible refine LimIs.ite ?_ ?_)
    | (with_reducible refine LimIs.bind ?_ (fun _ => ?_))
theorem slices_Index_int_int.fL_eq (l0 : List Int) (a1 : Int) : slices_Index_int_int.fL l0 a1 = slices_Index_int_int.l0L l0 a1 (l0.length : Int) 0 := by
  refine LimIs.unique (slices_Index_int_int.fL_is l0 a1) ?_
  unfold slices_Index_int_int.f
  repeat' first
    | (with_reducible exact LimIs.const _)
    | (with_reducible exact slices_Index_int_int.l0L_is _ _ _ _)
    | (with_reducible refine LimIs.ite ?_ ?_)
    | (with_reducible refine LimIs.bind ?_ (fun _ => ?_))
/-! ### slices_Contains_int_int -/
noncomputable def slices_Contains_int_int.fL (l0 : List Int) (a1 : Int) : Option (Bool) := Lim (fun k => slices_Contains_int_int.f k l0 a1)
theorem slices_Contains_int_int.fL_is (l0 : List Int) (a1 : Int) : LimIs (fun k => slices_Contains_int_int.f k l0 a1) (slices_Contains_int_int.fL l0 a1) := LimIs.of_mono (fun k r h => slices_Contains_int_int.mono l0 a1 k r h)
theorem slices_Contains_int_int.fL_eq (l0 : List Int) (a1 : Int) : slices_Contains_int_int.fL l0 a1 = (slices_Index_int_int.fL l0 a1).bind fun t426 => (some (decide (t426 ≥ 0))) := by
  refine LimIs.unique (slices_Contains_int_int.fL_is l0 a1) ?_
  unfold slices_Contains_int_int.f
  repeat' first
    | (with_reducible exact LimIs.const _)
    | (with_reducible exact slices_Index_int_int.fL_is _ _)
    | (with_reducible refine LimIs.ite ?_ ?_)
    | (with_reducible refine LimIs.bind ?_ (fun _ => ?_))
/-! ### impl_OrderValid -/
noncomputable def impl_OrderValid.j0L (x0 : Int) (x1 : List Int) (x15 : Bool) : Option (Bool) := Lim (fun k => impl_OrderValid.j0 k x0 x1 x15)
theorem impl_OrderValid.j0L_is (x0 : Int) (x1 : List Int) (x15 : Bool) : LimIs (fun k => impl_OrderValid.j0 k x0 x1 x15) (impl_OrderValid.j0L x0 x1 x15) := LimIs.of_mono (fun k r h => (impl_OrderValid.mono_l k).1 x0 x1 x15 r h)
noncomputable def impl_OrderValid.l0L (x0 : Int) (x1 : List Int) (x16 : List Int) (x17 : Int) (x18 : Int) : Option (Bool) := Lim (fun k => impl_OrderValid.l0 k x0 x1 x16 x17 x18)
theorem impl_OrderValid.l0L_is (x0 : Int) (x1 : List Int) (x16 : List Int) (x17 : Int) (x18 : Int) : LimIs (fun k => impl_OrderValid.l0 k x0 x1 x16 x17 x18) (impl_OrderValid.l0L x0 x1 x16 x17 x18) := LimIs.of_mono (fun k r h => (impl_OrderValid.mono_l k).2 x0 x1 x16 x17 x18 r h)
noncomputable def impl_OrderValid.fL (a0 : Int) (l1 : List Int) : Option (Bool) := Lim (fun k => impl_OrderValid.f k a0 l1)
theorem impl_OrderValid.fL_is (a0 : Int) (l1 : List Int) : LimIs (fun k => impl_OrderValid.f k a0 l1) (impl_OrderValid.fL a0 l1) := LimIs.of_mono (fun k r h => impl_OrderValid.mono a0 l1 k r h)
theorem impl_OrderValid.j0L_eq (x0 : Int) (x1 : List Int) (x15 : Bool) : impl_OrderValid.j0L x0 x1 x15 = if x15 = true then (some false) else (impl_OrderValid.l0L x0 x1 x1 (x1.length : Int) 0) := by
  refine LimIs.unique (impl_OrderValid.j0L_is x0 x1 x15) (LimIs.step (f := fun k => if x15 = true then (some false) else (impl_OrderValid.l0 k x0 x1 x1 (x1.length : Int) 0)) (by simp only [impl_OrderValid.j0]) (fun k => by simp only [impl_OrderValid.j0]) ?_)
  repeat' first
    | (with_reducible exact LimIs.const _)
    | (with_reducible exact impl_OrderValid.l0L_is _ _ _ _ _)
    | (with_reducible refine LimIs.ite ?_ ?_)
    | (with_reducible refine LimIs.bind ?_ (fun _ => ?_))
theorem impl_OrderValid.l0L_eq (x0 : Int) (x1 : List Int) (x16 : List Int) (x17 : Int) (x18 : Int) : impl_OrderValid.l0L x0 x1 x16 x17 x18 = if x18 < x17 then (if 0 ≤ x18 then (if x18 < (x16.length : Int) then (if (rd x16 x18) < 0 then (some false) else (if (rd x16 x18) ≥ x0 then (some false) else (if x18 ≤ (x1.length : Int) then ((slices_Contains_int_int.fL (x1.take (x18 : Int).toNat) (rd x16 x18)).bind fun t432 => (if t432 = true then (some false) else (impl_OrderValid.l0L x0 x1 x16 x17 (wrap64 (x18 + 1))))) else (none)))) else (none)) else (none)) else (some true) := by
  refine LimIs.unique (impl_OrderValid.l0L_is x0 x1 x16 x17 x18) (LimIs.step (f := fun k => if x18 < x17 then (if 0 ≤ x18 then (if x18 < (x16.length : Int) then (if (rd x16 x18) < 0 then (some false) else (if (rd x16 x18) ≥ x0 then (some false) else (if x18 ≤ (x1.length : Int) then ((slices_Contains_int_int.f k (x1.take (x18 : Int).toNat) (rd x16 x18)).bind fun t432 => (if t432 = true then (some false) else (impl_OrderValid.l0 k x0 x1 x16 x17 (wrap64 (x18 + 1))))) else (none)))) else (none)) else (none)) else (some true)) (by simp only [impl_OrderValid.l0]) (fun k => by simp only [impl_OrderValid.l0]) ?_)
  repeat' first
    | (with_reducible exact LimIs.const _)
    | (with_reducible exact impl_OrderValid.l0L_is _ _ _ _ _)
    | (with_reducible exact slices_Contains_int_int.fL_is _ _)
    | (with_reducible refine LimIs.ite ?_ ?_)
    | (with_reducible refine LimIs.bind ?_ (fun _ => ?_))
theorem impl_OrderValid.fL_eq (a0 : Int) (l1 : List Int) : impl_OrderValid.fL a0 l1 = if (l1.length : Int) > 5 then (impl_OrderValid.j0L a0 l1 true) else (impl_OrderValid.j0L a0 l1 ((l1.length : Int) != a0)) := by
  refine LimIs.unique (impl_OrderValid.fL_is a0 l1) ?_
  unfold impl_OrderValid.f
  repeat' first
    | (with_reducible exact LimIs.const _)
    | (with_reducible exact impl_OrderValid.j0L_is _ _ _)
    | (with_reducible refine LimIs.ite ?_ ?_)
    | (with_reducible refine LimIs.bind ?_ (fun _ => ?_))
/-! ### impl_CommandValid -/
noncomputable def impl_CommandValid.j0L (x10 : Bool) (x434000 : Int) (x434001 : ByteArray) (x434002 : Int) (x434003 : Int) : Option (Bool) := Lim (fun k => impl_CommandValid.j0 k x10 x434000 x434001 x434002 x434003)
theorem impl_CommandValid.j0L_is (x10 : Bool) (x434000 : Int) (x434001 : ByteArray) (x434002 : Int) (x434003 : Int) : LimIs (fun k => impl_CommandValid.j0 k x10 x434000 x434001 x434002 x434003) (impl_CommandValid.j0L x10 x434000 x434001 x434002 x434003) := LimIs.of_mono (fun k r h => (impl_CommandValid.mono_l k).1 x10 x434000 x434001 x434002 x434003 r h)
noncomputable def impl_CommandValid.j1L (x24 : Bool) (x434000 : Int) (x434001 : ByteArray) (x434002 : Int) (x434003 : Int) : Option (Bool) := Lim (fun k => impl_CommandValid.j1 k x24 x434000 x434001 x434002 x434003)
theorem impl_CommandValid.j1L_is (x24 : Bool) (x434000 : Int) (x434001 : ByteArray) (x434002 : Int) (x434003 : Int) : LimIs (fun k => impl_CommandValid.j1 k x24 x434000 x434001 x434002 x434003) (impl_CommandValid.j1L x24 x434000 x434001 x434002 x434003) := LimIs.of_mono (fun k r h => (impl_CommandValid.mono_l k).2 x24 x434000 x434001 x434002 x434003 r h)
noncomputable def impl_CommandValid.fL (a0_0 : Int) (a0_1 : ByteArray) (a0_2 : Int) (a0_3 : Int) : Option (Bool) := Lim (fun k => impl_CommandValid.f k a0_0 a0_1 a0_2 a0_3)
theorem impl_CommandValid.fL_is (a0_0 : Int) (a0_1 : ByteArray) (a0_2 : Int) (a0_3 : Int) : LimIs (fun k => impl_CommandValid.f k a0_0 a0_1 a0_2 a0_3) (impl_CommandValid.fL a0_0 a0_1 a0_2 a0_3) := LimIs.of_mono (fun k r h => impl_CommandValid.mono a0_0 a0_1 a0_2 a0_3 k r h)
theorem impl_CommandValid.j0L_eq (x10 : Bool) (x434000 : Int) (x434001 : ByteArray) (x434002 : Int) (x434003 : Int) : impl_CommandValid.j0L x10 x434000 x434001 x434002 x434003 = if x10 = true then (some false) else ((impl_KeyValid.fL x434001).bind fun t434 => (if t434 = true then (impl_CommandValid.j1L false x434000 x434001 x434002 x434003) else (if x434000 = 5 then (impl_CommandValid.j1L (x434001.toList != ([] : List UInt8)) x434000 x434001 x434002 x434003) else (impl_CommandValid.j1L true x434000 x434001 x434002 x434003)))) := by
  refine LimIs.unique (impl_CommandValid.j0L_is x10 x434000 x434001 x434002 x434003) (LimIs.step (f := fun k => if x10 = true then (some false) else ((impl_KeyValid.f k x434001).bind fun t434 => (if t434 = true then (impl_CommandValid.j1 k false x434000 x434001 x434002 x434003) else (if x434000 = 5 then (impl_CommandValid.j1 k (x434001.toList != ([] : List UInt8)) x434000 x434001 x434002 x434003) else (impl_CommandValid.j1 k true x434000 x434001 x434002 x434003))))) (by simp only [impl_CommandValid.j0]) (fun k => by simp only [impl_CommandValid.j0]) ?_)
  repeat' first
    | (with_reducible exact LimIs.const _)
    | (with_reducible exact impl_CommandValid.j1L_is _ _ _ _ _)
    | (with_reducible exact impl_KeyValid.fL_is _)
    | (with_reducible refine LimIs.ite ?_ ?_)
    | (with_reducible refine LimIs.bind ?_ (fun _ => ?_))
theorem impl_CommandValid.j1L_eq (x24 : Bool) (x434000 : Int) (x434001 : ByteArray) (x434002 : Int) (x434003 : Int) : impl_CommandValid.j1L x24 x434000 x434001 x434002 x434003 = if x24 = true then (some false) else (if x434000 = 2 then ((impl_valueValid.f x434002).bind fun t435 => (if t435 = true then (some (x434003 == 0)) else (some false))) else (if x434000 = 4 then ((impl_valueValid.f x434002).bind fun t436 => (if t436 = true then (if x434003 = (-1) then (some true) else ((impl_valueValid.f x434003).bind fun t437 => (some t437))) else (some false))) else (if x434002 = 0 then (some (x434003 == 0)) else (some false)))) := by
  refine LimIs.unique (impl_CommandValid.j1L_is x24 x434000 x434001 x434002 x434003) (LimIs.step (f := fun k => if x24 = true then (some false) else (if x434000 = 2 then ((impl_valueValid.f x434002).bind fun t435 => (if t435 = true then (some (x434003 == 0)) else (some false))) else (if x434000 = 4 then ((impl_valueValid.f x434002).bind fun t436 => (if t436 = true then (if x434003 = (-1) then (some true) else ((impl_valueValid.f x434003).bind fun t437 => (some t437))) else (some false))) else (if x434002 = 0 then (some (x434003 == 0)) else (some false))))) (by simp only [impl_CommandValid.j1]) (fun k => by simp only [impl_CommandValid.j1]) ?_)
  repeat' first
    | (with_reducible exact LimIs.const _)
    | (with_reducible refine LimIs.ite ?_ ?_)
    | (with_reducible refine LimIs.bind ?_ (fun _ => ?_))
theorem impl_CommandValid.fL_eq (a0_0 : Int) (a0_1 : ByteArray) (a0_2 : Int) (a0_3 : Int) : impl_CommandValid.fL a0_0 a0_1 a0_2 a0_3 = if a0_0 < 1 then (impl_CommandValid.j0L true a0_0 a0_1 a0_2 a0_3) else (impl_CommandValid.j0L (decide (a0_0 > 5)) a0_0 a0_1 a0_2 a0_3) := by
  refine LimIs.unique (impl_CommandValid.fL_is a0_0 a0_1 a0_2 a0_3) ?_
  unfold impl_CommandValid.f
  repeat' first
    | (with_reducible exact LimIs.const _)
    | (with_reducible exact impl_CommandValid.j0L_is _ _ _ _ _)
    | (with_reducible refine LimIs.ite ?_ ?_)
    | (with_reducible refine LimIs.bind ?_ (fun _ => ?_))
/-! ### impl_wishValid -/
noncomputable def impl_wishValid.fL (a0_0 : Int) (a0_1 : ByteArray) (a0_2 : Int) (a0_3 : Int) : Option (Bool) := Lim (fun k => impl_wishValid.f k a0_0 a0_1 a0_2 a0_3)
theorem impl_wishValid.fL_is (a0_0 : Int) (a0_1 : ByteArray) (a0_2 : Int) (a0_3 : Int) : LimIs (fun k => impl_wishValid.f k a0_0 a0_1 a0_2 a0_3) (impl_wishValid.fL a0_0 a0_1 a0_2 a0_3) := LimIs.of_mono (fun k r h => impl_wishValid.mono a0_0 a0_1 a0_2 a0_3 k r h)
theorem impl_wishValid.fL_eq (a0_0 : Int) (a0_1 : ByteArray) (a0_2 : Int) (a0_3 : Int) : impl_wishValid.fL a0_0 a0_1 a0_2 a0_3 = (impl_CommandValid.fL a0_0 a0_1 a0_2 a0_3).bind fun t439 => (if t439 = true then (some (a0_0 != 5)) else (some false)) := by
  refine LimIs.unique (impl_wishValid.fL_is a0_0 a0_1 a0_2 a0_3) ?_
  unfold impl_wishValid.f
  repeat' first
    | (with_reducible exact LimIs.const _)
    | (with_reducible exact impl_CommandValid.fL_is _ _ _ _)
    | (with_reducible refine LimIs.ite ?_ ?_)
    | (with_reducible refine LimIs.bind ?_ (fun _ => ?_))
/-! ### impl_ResultValid -/
noncomputable def impl_ResultValid.fL (a0_0 : Int) (a0_1 : Int) (a0_2 : Int) (a0_3 : ByteArray) (a0_4 : Int) (a0_5 : Int) (a0_6 : Int) (a0_7 : Int) (a0_8 : Int) : Option (Bool) := Lim (fun k => impl_ResultValid.f k a0_0 a0_1 a0_2 a0_3 a0_4 a0_5 a0_6 a0_7 a0_8)
theorem impl_ResultValid.fL_is (a0_0 : Int) (a0_1 : Int) (a0_2 : Int) (a0_3 : ByteArray) (a0_4 : Int) (a0_5 : Int) (a0_6 : Int) (a0_7 : Int) (a0_8 : Int) : LimIs (fun k => impl_ResultValid.f k a0_0 a0_1 a0_2 a0_3 a0_4 a0_5 a0_6 a0_7 a0_8) (impl_ResultValid.fL a0_0 a0_1 a0_2 a0_3 a0_4 a0_5 a0_6 a0_7 a0_8) := LimIs.of_mono (fun k r h => impl_ResultValid.mono a0_0 a0_1 a0_2 a0_3 a0_4 a0_5 a0_6 a0_7 a0_8 k r h)
theorem impl_ResultValid.fL_eq (a0_0 : Int) (a0_1 : Int) (a0_2 : Int) (a0_3 : ByteArray) (a0_4 : Int) (a0_5 : Int) (a0_6 : Int) (a0_7 : Int) (a0_8 : Int) : impl_ResultValid.fL a0_0 a0_1 a0_2 a0_3 a0_4 a0_5 a0_6 a0_7 a0_8 = (impl_clientNumber.f a0_0).bind fun t441 => (if t441 = true then ((impl_seqValid.f a0_1).bind fun t442 => (if t442 = true then ((impl_wishValid.fL a0_2 a0_3 a0_4 a0_5).bind fun t443 => (if t443 = true then ((impl_replyValid.f a0_6).bind fun t444 => (if t444 = true then ((impl_timeValid.f a0_8).bind fun t445 => (if t445 = true then (if a0_7 ≥ 0 then (some (decide (a0_7 ≤ a0_8))) else (some false)) else (some false))) else (some false))) else (some false))) else (some false))) else (some false)) := by
  refine LimIs.unique (impl_ResultValid.fL_is a0_0 a0_1 a0_2 a0_3 a0_4 a0_5 a0_6 a0_7 a0_8) ?_
  unfold impl_ResultValid.f
  repeat' first
    | (with_reducible exact LimIs.const _)
    | (with_reducible exact impl_wishValid.fL_is _ _ _ _)
    | (with_reducible refine LimIs.ite ?_ ?_)
    | (with_reducible refine LimIs.bind ?_ (fun _ => ?_))
/-! ### impl_resultsValid -/
noncomputable def impl_resultsValid.l0L (x8 : List (S42)) (x9 : Int) (x10 : Int) : Option (Bool) := Lim (fun k => impl_resultsValid.l0 k x8 x9 x10)
theorem impl_resultsValid.l0L_is (x8 : List (S42)) (x9 : Int) (x10 : Int) : LimIs (fun k => impl_resultsValid.l0 k x8 x9 x10) (impl_resultsValid.l0L x8 x9 x10) := LimIs.of_mono (fun k r h => (impl_resultsValid.mono_l k) x8 x9 x10 r h)
noncomputable def impl_resultsValid.fL (l0 : List (S42)) : Option (Bool) := Lim (fun k => impl_resultsValid.f k l0)
theorem impl_resultsValid.fL_is (l0 : List (S42)) : LimIs (fun k => impl_resultsValid.f k l0) (impl_resultsValid.fL l0) := LimIs.of_mono (fun k r h => impl_resultsValid.mono l0 k r h)
theorem impl_resultsValid.l0L_eq (x8 : List (S42)) (x9 : Int) (x10 : Int) : impl_resultsValid.l0L x8 x9 x10 = if x10 < x9 then (if 0 ≤ x10 then (if x10 < (x8.length : Int) then ((impl_ResultValid.fL ((rd_T42 x8 x10).f0) ((rd_T42 x8 x10).f1) ((rd_T42 x8 x10).f2.f0) ((rd_T42 x8 x10).f2.f1) ((rd_T42 x8 x10).f2.f2) ((rd_T42 x8 x10).f2.f3) ((rd_T42 x8 x10).f3) ((rd_T42 x8 x10).f4) ((rd_T42 x8 x10).f5)).bind fun t448 => (if t448 = true then (impl_resultsValid.l0L x8 x9 (wrap64 (x10 + 1))) else (some false))) else (none)) else (none)) else (some true) := by
  refine LimIs.unique (impl_resultsValid.l0L_is x8 x9 x10) (LimIs.step (f := fun k => if x10 < x9 then (if 0 ≤ x10 then (if x10 < (x8.length : Int) then ((impl_ResultValid.f k ((rd_T42 x8 x10).f0) ((rd_T42 x8 x10).f1) ((rd_T42 x8 x10).f2.f0) ((rd_T42 x8 x10).f2.f1) ((rd_T42 x8 x10).f2.f2) ((rd_T42 x8 x10).f2.f3) ((rd_T42 x8 x10).f3) ((rd_T42 x8 x10).f4) ((rd_T42 x8 x10).f5)).bind fun t448 => (if t448 = true then (impl_resultsValid.l0 k x8 x9 (wrap64 (x10 + 1))) else (some false))) else (none)) else (none)) else (some true)) (by simp only [impl_resultsValid.l0]) (fun k => by simp only [impl_resultsValid.l0]) ?_)
  repeat' first
    | (with_reducible exact LimIs.const _)
    | (with_reducible exact impl_ResultValid.fL_is _ _ _ _ _ _ _ _ _)
    | (with_reducible exact impl_resultsValid.l0L_is _ _ _)
    | (with_reducible refine LimIs.ite ?_ ?_)
    | (with_reducible refine LimIs.bind ?_ (fun _ => ?_))
theorem impl_resultsValid.fL_eq (l0 : List (S42)) : impl_resultsValid.fL l0 = if (l0.length : Int) > 5 then (some false) else (impl_resultsValid.l0L l0 (l0.length : Int) 0) := by
  refine LimIs.unique (impl_resultsValid.fL_is l0) ?_
  unfold impl_resultsValid.f
  repeat' first
    | (with_reducible exact LimIs.const _)
    | (with_reducible exact impl_resultsValid.l0L_is _ _ _)
    | (with_reducible refine LimIs.ite ?_ ?_)
    | (with_reducible refine LimIs.bind ?_ (fun _ => ?_))
/-! ### impl_RealTime -/
noncomputable def impl_RealTime.j0L (x0 : List (S42)) (x1 : List Int) (x18 : Bool) : Option (Bool) := Lim (fun k => impl_RealTime.j0 k x0 x1 x18)
theorem impl_RealTime.j0L_is (x0 : List (S42)) (x1 : List Int) (x18 : Bool) : LimIs (fun k => impl_RealTime.j0 k x0 x1 x18) (impl_RealTime.j0L x0 x1 x18) := LimIs.of_mono (fun k r h => (impl_RealTime.mono_l k).1 x0 x1 x18 r h)
noncomputable def impl_RealTime.l0L (x0 : List (S42)) (x1 : List Int) (x19 : List Int) (x20 : Int) (x21 : Int) : Option (Bool) := Lim (fun k => impl_RealTime.l0 k x0 x1 x19 x20 x21)
theorem impl_RealTime.l0L_is (x0 : List (S42)) (x1 : List Int) (x19 : List Int) (x20 : Int) (x21 : Int) : LimIs (fun k => impl_RealTime.l0 k x0 x1 x19 x20 x21) (impl_RealTime.l0L x0 x1 x19 x20 x21) := LimIs.of_mono (fun k r h => (impl_RealTime.mono_l k).2.1 x0 x1 x19 x20 x21 r h)
noncomputable def impl_RealTime.l1L (x0 : List (S42)) (x1 : List Int) (x6 : Int) (x19 : List Int) (x20 : Int) (x21 : Int) (x29 : List Int) (x30 : Int) (x31 : Int) : Option (Bool) := Lim (fun k => impl_RealTime.l1 k x0 x1 x6 x19 x20 x21 x29 x30 x31)
theorem impl_RealTime.l1L_is (x0 : List (S42)) (x1 : List Int) (x6 : Int) (x19 : List Int) (x20 : Int) (x21 : Int) (x29 : List Int) (x30 : Int) (x31 : Int) : LimIs (fun k => impl_RealTime.l1 k x0 x1 x6 x19 x20 x21 x29 x30 x31) (impl_RealTime.l1L x0 x1 x6 x19 x20 x21 x29 x30 x31) := LimIs.of_mono (fun k r h => (impl_RealTime.mono_l k).2.2 x0 x1 x6 x19 x20 x21 x29 x30 x31 r h)
noncomputable def impl_RealTime.fL (l0 : List (S42)) (l1 : List Int) : Option (Bool) := Lim (fun k => impl_RealTime.f k l0 l1)
theorem impl_RealTime.fL_is (l0 : List (S42)) (l1 : List Int) : LimIs (fun k => impl_RealTime.f k l0 l1) (impl_RealTime.fL l0 l1) := LimIs.of_mono (fun k r h => impl_RealTime.mono l0 l1 k r h)
theorem impl_RealTime.j0L_eq (x0 : List (S42)) (x1 : List Int) (x18 : Bool) : impl_RealTime.j0L x0 x1 x18 = if x18 = true then (some false) else (impl_RealTime.l0L x0 x1 x1 (x1.length : Int) 0) := by
  refine LimIs.unique (impl_RealTime.j0L_is x0 x1 x18) (LimIs.step (f := fun k => if x18 = true then (some false) else (impl_RealTime.l0 k x0 x1 x1 (x1.length : Int) 0)) (by simp only [impl_RealTime.j0]) (fun k => by simp only [impl_RealTime.j0]) ?_)
  repeat' first
    | (with_reducible exact LimIs.const _)
    | (with_reducible exact impl_RealTime.l0L_is _ _ _ _ _)
    | (with_reducible refine LimIs.ite ?_ ?_)
    | (with_reducible refine LimIs.bind ?_ (fun _ => ?_))
theorem impl_RealTime.l0L_eq (x0 : List (S42)) (x1 : List Int) (x19 : List Int) (x20 : Int) (x21 : Int) : impl_RealTime.l0L x0 x1 x19 x20 x21 = if x21 < x20 then (if 0 ≤ x21 then (if x21 < (x19.length : Int) then (if 0 ≤ (wrap64 (x21 + 1)) then (if (wrap64 (x21 + 1)) ≤ (x1.length : Int) then ((some (x1.drop ((wrap64 (x21 + 1)) : Int).toNat : List Int)).bind fun y452 => (impl_RealTime.l1L x0 x1 (rd x19 x21) x19 x20 x21 y452 (y452.length : Int) 0)) else (none)) else (none)) else (none)) else (none)) else (some true) := by
  refine LimIs.unique (impl_RealTime.l0L_is x0 x1 x19 x20 x21) (LimIs.step (f := fun k => if x21 < x20 then (if 0 ≤ x21 then (if x21 < (x19.length : Int) then (if 0 ≤ (wrap64 (x21 + 1)) then (if (wrap64 (x21 + 1)) ≤ (x1.length : Int) then ((some (x1.drop ((wrap64 (x21 + 1)) : Int).toNat : List Int)).bind fun y452 => (impl_RealTime.l1 k x0 x1 (rd x19 x21) x19 x20 x21 y452 (y452.length : Int) 0)) else (none)) else (none)) else (none)) else (none)) else (some true)) (by simp only [impl_RealTime.l0]) (fun k => by simp only [impl_RealTime.l0]) ?_)
  repeat' first
    | (with_reducible exact LimIs.const _)
    | (with_reducible exact impl_RealTime.l1L_is _ _ _ _ _ _ _ _ _)
    | (with_reducible refine LimIs.ite ?_ ?_)
    | (with_reducible refine LimIs.bind ?_ (fun _ => ?_))
theorem impl_RealTime.l1L_eq (x0 : List (S42)) (x1 : List Int) (x6 : Int) (x19 : List Int) (x20 : Int) (x21 : Int) (x29 : List Int) (x30 : Int) (x31 : Int) : impl_RealTime.l1L x0 x1 x6 x19 x20 x21 x29 x30 x31 = if x31 < x30 then (if 0 ≤ x31 then (if x31 < (x29.length : Int) then (if 0 ≤ (rd x29 x31) then (if (rd x29 x31) < (x0.length : Int) then (if 0 ≤ x6 then (if x6 < (x0.length : Int) then (if ((rd_T42 x0 (rd x29 x31)).f5) < ((rd_T42 x0 x6).f4) then (some false) else (impl_RealTime.l1L x0 x1 x6 x19 x20 x21 x29 x30 (wrap64 (x31 + 1)))) else (none)) else (none)) else (none)) else (none)) else (none)) else (none)) else (impl_RealTime.l0L x0 x1 x19 x20 (wrap64 (x21 + 1))) := by
  refine LimIs.unique (impl_RealTime.l1L_is x0 x1 x6 x19 x20 x21 x29 x30 x31) (LimIs.step (f := fun k => if x31 < x30 then (if 0 ≤ x31 then (if x31 < (x29.length : Int) then (if 0 ≤ (rd x29 x31) then (if (rd x29 x31) < (x0.length : Int) then (if 0 ≤ x6 then (if x6 < (x0.length : Int) then (if ((rd_T42 x0 (rd x29 x31)).f5) < ((rd_T42 x0 x6).f4) then (some false) else (impl_RealTime.l1 k x0 x1 x6 x19 x20 x21 x29 x30 (wrap64 (x31 + 1)))) else (none)) else (none)) else (none)) else (none)) else (none)) else (none)) else (impl_RealTime.l0 k x0 x1 x19 x20 (wrap64 (x21 + 1)))) (by simp only [impl_RealTime.l1]) (fun k => by simp only [impl_RealTime.l1]) ?_)
  repeat' first
    | (with_reducible exact LimIs.const _)
    | (with_reducible exact impl_RealTime.l0L_is _ _ _ _ _)
    | (with_reducible exact impl_RealTime.l1L_is _ _ _ _ _ _ _ _ _)
    | (with_reducible refine LimIs.ite ?_ ?_)
    | (with_reducible refine LimIs.bind ?_ (fun _ => ?_))
theorem impl_RealTime.fL_eq (l0 : List (S42)) (l1 : List Int) : impl_RealTime.fL l0 l1 = (impl_resultsValid.fL l0).bind fun t449 => (if t449 = true then ((impl_OrderValid.fL (l0.length : Int) l1).bind fun t450 => (impl_RealTime.j0L l0 l1 (!t450))) else (impl_RealTime.j0L l0 l1 true)) := by
  refine LimIs.unique (impl_RealTime.fL_is l0 l1) ?_
  unfold impl_RealTime.f
  repeat' first
    | (with_reducible exact LimIs.const _)
    | (with_reducible exact impl_OrderValid.fL_is _ _)
    | (with_reducible exact impl_RealTime.j0L_is _ _ _)
    | (with_reducible exact impl_resultsValid.fL_is _)
    | (with_reducible refine LimIs.ite ?_ ?_)
    | (with_reducible refine LimIs.bind ?_ (fun _ => ?_))
/-! ### spec_OrderValid -/
noncomputable def spec_OrderValid.j0L (x0 : Int) (x1 : List Int) (x14 : Bool) : Option (Bool) := Lim (fun k => spec_OrderValid.j0 k x0 x1 x14)
theorem spec_OrderValid.j0L_is (x0 : Int) (x1 : List Int) (x14 : Bool) : LimIs (fun k => spec_OrderValid.j0 k x0 x1 x14) (spec_OrderValid.j0L x0 x1 x14) := LimIs.of_mono (fun k r h => (spec_OrderValid.mono_l k).1 x0 x1 x14 r h)
noncomputable def spec_OrderValid.l0L (x0 : Int) (x1 : List Int) (x5 : Int) : Option (Bool) := Lim (fun k => spec_OrderValid.l0 k x0 x1 x5)
theorem spec_OrderValid.l0L_is (x0 : Int) (x1 : List Int) (x5 : Int) : LimIs (fun k => spec_OrderValid.l0 k x0 x1 x5) (spec_OrderValid.l0L x0 x1 x5) := LimIs.of_mono (fun k r h => (spec_OrderValid.mono_l k).2.1 x0 x1 x5 r h)
noncomputable def spec_OrderValid.l1L (x0 : Int) (x1 : List Int) (x5 : Int) (x6 : Int) : Option (Bool) := Lim (fun k => spec_OrderValid.l1 k x0 x1 x5 x6)
theorem spec_OrderValid.l1L_is (x0 : Int) (x1 : List Int) (x5 : Int) (x6 : Int) : LimIs (fun k => spec_OrderValid.l1 k x0 x1 x5 x6) (spec_OrderValid.l1L x0 x1 x5 x6) := LimIs.of_mono (fun k r h => (spec_OrderValid.mono_l k).2.2 x0 x1 x5 x6 r h)
noncomputable def spec_OrderValid.fL (a0 : Int) (l1 : List Int) : Option (Bool) := Lim (fun k => spec_OrderValid.f k a0 l1)
theorem spec_OrderValid.fL_is (a0 : Int) (l1 : List Int) : LimIs (fun k => spec_OrderValid.f k a0 l1) (spec_OrderValid.fL a0 l1) := LimIs.of_mono (fun k r h => spec_OrderValid.mono a0 l1 k r h)
theorem spec_OrderValid.j0L_eq (x0 : Int) (x1 : List Int) (x14 : Bool) : spec_OrderValid.j0L x0 x1 x14 = if x14 = true then (some false) else (spec_OrderValid.l0L x0 x1 0) := by
  refine LimIs.unique (spec_OrderValid.j0L_is x0 x1 x14) (LimIs.step (f := fun k => if x14 = true then (some false) else (spec_OrderValid.l0 k x0 x1 0)) (by simp only [spec_OrderValid.j0]) (fun k => by simp only [spec_OrderValid.j0]) ?_)
  repeat' first
    | (with_reducible exact LimIs.const _)
    | (with_reducible exact spec_OrderValid.l0L_is _ _ _)
    | (with_reducible refine LimIs.ite ?_ ?_)
    | (with_reducible refine LimIs.bind ?_ (fun _ => ?_))
theorem spec_OrderValid.l0L_eq (x0 : Int) (x1 : List Int) (x5 : Int) : spec_OrderValid.l0L x0 x1 x5 = if x5 < (x1.length : Int) then (if 0 ≤ x5 then ((spec_l1In.f (rd x1 x5) 0 (wrap64 (x0 - 1))).bind fun t460 => (if t460 = true then (spec_OrderValid.l1L x0 x1 x5 0) else (some false))) else (none)) else (some true) := by
  refine LimIs.unique (spec_OrderValid.l0L_is x0 x1 x5) (LimIs.step (f := fun k => if x5 < (x1.length : Int) then (if 0 ≤ x5 then ((spec_l1In.f (rd x1 x5) 0 (wrap64 (x0 - 1))).bind fun t460 => (if t460 = true then (spec_OrderValid.l1 k x0 x1 x5 0) else (some false))) else (none)) else (some true)) (by simp only [spec_OrderValid.l0]) (fun k => by simp only [spec_OrderValid.l0]) ?_)
  repeat' first
    | (with_reducible exact LimIs.const _)
    | (with_reducible exact spec_OrderValid.l1L_is _ _ _ _)
    | (with_reducible refine LimIs.ite ?_ ?_)
    | (with_reducible refine LimIs.bind ?_ (fun _ => ?_))
theorem spec_OrderValid.l1L_eq (x0 : Int) (x1 : List Int) (x5 : Int) (x6 : Int) : spec_OrderValid.l1L x0 x1 x5 x6 = if x6 < x5 then (if 0 ≤ x6 then (if x6 < (x1.length : Int) then (if 0 ≤ x5 then (if x5 < (x1.length : Int) then (if (rd x1 x6) = (rd x1 x5) then (some false) else (spec_OrderValid.l1L x0 x1 x5 (wrap64 (x6 + 1)))) else (none)) else (none)) else (none)) else (none)) else (spec_OrderValid.l0L x0 x1 (wrap64 (x5 + 1))) := by
  refine LimIs.unique (spec_OrderValid.l1L_is x0 x1 x5 x6) (LimIs.step (f := fun k => if x6 < x5 then (if 0 ≤ x6 then (if x6 < (x1.length : Int) then (if 0 ≤ x5 then (if x5 < (x1.length : Int) then (if (rd x1 x6) = (rd x1 x5) then (some false) else (spec_OrderValid.l1 k x0 x1 x5 (wrap64 (x6 + 1)))) else (none)) else (none)) else (none)) else (none)) else (spec_OrderValid.l0 k x0 x1 (wrap64 (x5 + 1)))) (by simp only [spec_OrderValid.l1]) (fun k => by simp only [spec_OrderValid.l1]) ?_)
  repeat' first
    | (with_reducible exact LimIs.const _)
    | (with_reducible exact spec_OrderValid.l0L_is _ _ _)
    | (with_reducible exact spec_OrderValid.l1L_is _ _ _ _)
    | (with_reducible refine LimIs.ite ?_ ?_)
    | (with_reducible refine LimIs.bind ?_ (fun _ => ?_))
theorem spec_OrderValid.fL_eq (a0 : Int) (l1 : List Int) : spec_OrderValid.fL a0 l1 = if a0 > 5 then (spec_OrderValid.j0L a0 l1 true) else (spec_OrderValid.j0L a0 l1 ((l1.length : Int) != a0)) := by
  refine LimIs.unique (spec_OrderValid.fL_is a0 l1) ?_
  unfold spec_OrderValid.f
  repeat' first
    | (with_reducible exact LimIs.const _)
    | (with_reducible exact spec_OrderValid.j0L_is _ _ _)
    | (with_reducible refine LimIs.ite ?_ ?_)
    | (with_reducible refine LimIs.bind ?_ (fun _ => ?_))
/-! ### spec_l25Wish -/
noncomputable def spec_l25Wish.fL (a0_0 : Int) (a0_1 : ByteArray) (a0_2 : Int) (a0_3 : Int) : Option (Bool) := Lim (fun k => spec_l25Wish.f k a0_0 a0_1 a0_2 a0_3)
theorem spec_l25Wish.fL_is (a0_0 : Int) (a0_1 : ByteArray) (a0_2 : Int) (a0_3 : Int) : LimIs (fun k => spec_l25Wish.f k a0_0 a0_1 a0_2 a0_3) (spec_l25Wish.fL a0_0 a0_1 a0_2 a0_3) := LimIs.of_mono (fun k r h => spec_l25Wish.mono a0_0 a0_1 a0_2 a0_3 k r h)
theorem spec_l25Wish.fL_eq (a0_0 : Int) (a0_1 : ByteArray) (a0_2 : Int) (a0_3 : Int) : spec_l25Wish.fL a0_0 a0_1 a0_2 a0_3 = (spec_CommandValid.fL a0_0 a0_1 a0_2 a0_3).bind fun t464 => (if t464 = true then (some (a0_0 != 5)) else (some false)) := by
  refine LimIs.unique (spec_l25Wish.fL_is a0_0 a0_1 a0_2 a0_3) ?_
  unfold spec_l25Wish.f
  repeat' first
    | (with_reducible exact LimIs.const _)
    | (with_reducible exact spec_CommandValid.fL_is _ _ _ _)
    | (with_reducible refine LimIs.ite ?_ ?_)
    | (with_reducible refine LimIs.bind ?_ (fun _ => ?_))
/-! ### spec_ResultValid -/
noncomputable def spec_ResultValid.fL (a0_0 : Int) (a0_1 : Int) (a0_2 : Int) (a0_3 : ByteArray) (a0_4 : Int) (a0_5 : Int) (a0_6 : Int) (a0_7 : Int) (a0_8 : Int) : Option (Bool) := Lim (fun k => spec_ResultValid.f k a0_0 a0_1 a0_2 a0_3 a0_4 a0_5 a0_6 a0_7 a0_8)
theorem spec_ResultValid.fL_is (a0_0 : Int) (a0_1 : Int) (a0_2 : Int) (a0_3 : ByteArray) (a0_4 : Int) (a0_5 : Int) (a0_6 : Int) (a0_7 : Int) (a0_8 : Int) : LimIs (fun k => spec_ResultValid.f k a0_0 a0_1 a0_2 a0_3 a0_4 a0_5 a0_6 a0_7 a0_8) (spec_ResultValid.fL a0_0 a0_1 a0_2 a0_3 a0_4 a0_5 a0_6 a0_7 a0_8) := LimIs.of_mono (fun k r h => spec_ResultValid.mono a0_0 a0_1 a0_2 a0_3 a0_4 a0_5 a0_6 a0_7 a0_8 k r h)
theorem spec_ResultValid.fL_eq (a0_0 : Int) (a0_1 : Int) (a0_2 : Int) (a0_3 : ByteArray) (a0_4 : Int) (a0_5 : Int) (a0_6 : Int) (a0_7 : Int) (a0_8 : Int) : spec_ResultValid.fL a0_0 a0_1 a0_2 a0_3 a0_4 a0_5 a0_6 a0_7 a0_8 = (spec_l1In.f a0_0 1 3).bind fun t466 => (if t466 = true then ((spec_l1In.f a0_1 1 999).bind fun t467 => (if t467 = true then ((spec_l25Wish.fL a0_2 a0_3 a0_4 a0_5).bind fun t468 => (if t468 = true then ((spec_l1In.f a0_6 (-4) 999).bind fun t469 => (if t469 = true then ((spec_l1In.f a0_8 0 200).bind fun t470 => (if t470 = true then ((spec_l1In.f a0_7 0 a0_8).bind fun t471 => (some t471)) else (some false))) else (some false))) else (some false))) else (some false))) else (some false)) := by
  refine LimIs.unique (spec_ResultValid.fL_is a0_0 a0_1 a0_2 a0_3 a0_4 a0_5 a0_6 a0_7 a0_8) ?_
  unfold spec_ResultValid.f
  repeat' first
    | (with_reducible exact LimIs.const _)
    | (with_reducible exact spec_l25Wish.fL_is _ _ _ _)
    | (with_reducible refine LimIs.ite ?_ ?_)
    | (with_reducible refine LimIs.bind ?_ (fun _ => ?_))
/-! ### spec_RealTime -/
noncomputable def spec_RealTime.l0L (x0 : List (S42)) (x1 : List Int) (x5 : Int) : Option (Bool) := Lim (fun k => spec_RealTime.l0 k x0 x1 x5)
theorem spec_RealTime.l0L_is (x0 : List (S42)) (x1 : List Int) (x5 : Int) : LimIs (fun k => spec_RealTime.l0 k x0 x1 x5) (spec_RealTime.l0L x0 x1 x5) := LimIs.of_mono (fun k r h => (spec_RealTime.mono_l k).1 x0 x1 x5 r h)
noncomputable def spec_RealTime.l1L (x0 : List (S42)) (x1 : List Int) (x5 : Int) (x7 : Int) (x476000 : Int) (x476001 : Int) (x476002 : Int) (x476003 : ByteArray) (x476004 : Int) (x476005 : Int) (x476006 : Int) (x476007 : Int) (x476008 : Int) : Option (Bool) := Lim (fun k => spec_RealTime.l1 k x0 x1 x5 x7 x476000 x476001 x476002 x476003 x476004 x476005 x476006 x476007 x476008)
theorem spec_RealTime.l1L_is (x0 : List (S42)) (x1 : List Int) (x5 : Int) (x7 : Int) (x476000 : Int) (x476001 : Int) (x476002 : Int) (x476003 : ByteArray) (x476004 : Int) (x476005 : Int) (x476006 : Int) (x476007 : Int) (x476008 : Int) : LimIs (fun k => spec_RealTime.l1 k x0 x1 x5 x7 x476000 x476001 x476002 x476003 x476004 x476005 x476006 x476007 x476008) (spec_RealTime.l1L x0 x1 x5 x7 x476000 x476001 x476002 x476003 x476004 x476005 x476006 x476007 x476008) := LimIs.of_mono (fun k r h => (spec_RealTime.mono_l k).2 x0 x1 x5 x7 x476000 x476001 x476002 x476003 x476004 x476005 x476006 x476007 x476008 r h)
noncomputable def spec_RealTime.fL (l0 : List (S42)) (l1 : List Int) : Option (Bool) := Lim (fun k => spec_RealTime.f k l0 l1)
theorem spec_RealTime.fL_is (l0 : List (S42)) (l1 : List Int) : LimIs (fun k => spec_RealTime.f k l0 l1) (spec_RealTime.fL l0 l1) := LimIs.of_mono (fun k r h => spec_RealTime.mono l0 l1 k r h)
theorem spec_RealTime.l0L_eq (x0 : List (S42)) (x1 : List Int) (x5 : Int) : spec_RealTime.l0L x0 x1 x5 = if x5 < (x1.length : Int) then (if 0 ≤ x5 then (if 0 ≤ (rd x1 x5) then (if (rd x1 x5) < (x0.length : Int) then ((spec_ResultValid.fL ((rd_T42 x0 (rd x1 x5)).f0) ((rd_T42 x0 (rd x1 x5)).f1) ((rd_T42 x0 (rd x1 x5)).f2.f0) ((rd_T42 x0 (rd x1 x5)).f2.f1) ((rd_T42 x0 (rd x1 x5)).f2.f2) ((rd_T42 x0 (rd x1 x5)).f2.f3) ((rd_T42 x0 (rd x1 x5)).f3) ((rd_T42 x0 (rd x1 x5)).f4) ((rd_T42 x0 (rd x1 x5)).f5)).bind fun t476 => (if t476 = true then (spec_RealTime.l1L x0 x1 x5 (wrap64 (x5 + 1)) ((rd_T42 x0 (rd x1 x5)).f0) ((rd_T42 x0 (rd x1 x5)).f1) ((rd_T42 x0 (rd x1 x5)).f2.f0) ((rd_T42 x0 (rd x1 x5)).f2.f1) ((rd_T42 x0 (rd x1 x5)).f2.f2) ((rd_T42 x0 (rd x1 x5)).f2.f3) ((rd_T42 x0 (rd x1 x5)).f3) ((rd_T42 x0 (rd x1 x5)).f4) ((rd_T42 x0 (rd x1 x5)).f5)) else (some false))) else (none)) else (none)) else (none)) else (some true) := by
  refine LimIs.unique (spec_RealTime.l0L_is x0 x1 x5) (LimIs.step (f := fun k => if x5 < (x1.length : Int) then (if 0 ≤ x5 then (if 0 ≤ (rd x1 x5) then (if (rd x1 x5) < (x0.length : Int) then ((spec_ResultValid.f k ((rd_T42 x0 (rd x1 x5)).f0) ((rd_T42 x0 (rd x1 x5)).f1) ((rd_T42 x0 (rd x1 x5)).f2.f0) ((rd_T42 x0 (rd x1 x5)).f2.f1) ((rd_T42 x0 (rd x1 x5)).f2.f2) ((rd_T42 x0 (rd x1 x5)).f2.f3) ((rd_T42 x0 (rd x1 x5)).f3) ((rd_T42 x0 (rd x1 x5)).f4) ((rd_T42 x0 (rd x1 x5)).f5)).bind fun t476 => (if t476 = true then (spec_RealTime.l1 k x0 x1 x5 (wrap64 (x5 + 1)) ((rd_T42 x0 (rd x1 x5)).f0) ((rd_T42 x0 (rd x1 x5)).f1) ((rd_T42 x0 (rd x1 x5)).f2.f0) ((rd_T42 x0 (rd x1 x5)).f2.f1) ((rd_T42 x0 (rd x1 x5)).f2.f2) ((rd_T42 x0 (rd x1 x5)).f2.f3) ((rd_T42 x0 (rd x1 x5)).f3) ((rd_T42 x0 (rd x1 x5)).f4) ((rd_T42 x0 (rd x1 x5)).f5)) else (some false))) else (none)) else (none)) else (none)) else (some true)) (by simp only [spec_RealTime.l0]) (fun k => by simp only [spec_RealTime.l0]) ?_)
  repeat' first
    | (with_reducible exact LimIs.const _)
    | (with_reducible exact spec_RealTime.l1L_is _ _ _ _ _ _ _ _ _ _ _ _ _)
    | (with_reducible exact spec_ResultValid.fL_is _ _ _ _ _ _ _ _ _)
    | (with_reducible refine LimIs.ite ?_ ?_)
    | (with_reducible refine LimIs.bind ?_ (fun _ => ?_))
theorem spec_RealTime.l1L_eq (x0 : List (S42)) (x1 : List Int) (x5 : Int) (x7 : Int) (x476000 : Int) (x476001 : Int) (x476002 : Int) (x476003 : ByteArray) (x476004 : Int) (x476005 : Int) (x476006 : Int) (x476007 : Int) (x476008 : Int) : spec_RealTime.l1L x0 x1 x5 x7 x476000 x476001 x476002 x476003 x476004 x476005 x476006 x476007 x476008 = if x7 < (x1.length : Int) then (if 0 ≤ x7 then (if 0 ≤ (rd x1 x7) then (if (rd x1 x7) < (x0.length : Int) then (if ((rd_T42 x0 (rd x1 x7)).f5) < x476007 then (some false) else (spec_RealTime.l1L x0 x1 x5 (wrap64 (x7 + 1)) x476000 x476001 x476002 x476003 x476004 x476005 x476006 x476007 x476008)) else (none)) else (none)) else (none)) else (spec_RealTime.l0L x0 x1 (wrap64 (x5 + 1))) := by
  refine LimIs.unique (spec_RealTime.l1L_is x0 x1 x5 x7 x476000 x476001 x476002 x476003 x476004 x476005 x476006 x476007 x476008) (LimIs.step (f := fun k => if x7 < (x1.length : Int) then (if 0 ≤ x7 then (if 0 ≤ (rd x1 x7) then (if (rd x1 x7) < (x0.length : Int) then (if ((rd_T42 x0 (rd x1 x7)).f5) < x476007 then (some false) else (spec_RealTime.l1 k x0 x1 x5 (wrap64 (x7 + 1)) x476000 x476001 x476002 x476003 x476004 x476005 x476006 x476007 x476008)) else (none)) else (none)) else (none)) else (spec_RealTime.l0 k x0 x1 (wrap64 (x5 + 1)))) (by simp only [spec_RealTime.l1]) (fun k => by simp only [spec_RealTime.l1]) ?_)
  repeat' first
    | (with_reducible exact LimIs.const _)
    | (with_reducible exact spec_RealTime.l0L_is _ _ _)
    | (with_reducible exact spec_RealTime.l1L_is _ _ _ _ _ _ _ _ _ _ _ _ _)
    | (with_reducible refine LimIs.ite ?_ ?_)
    | (with_reducible refine LimIs.bind ?_ (fun _ => ?_))
theorem spec_RealTime.fL_eq (l0 : List (S42)) (l1 : List Int) : spec_RealTime.fL l0 l1 = (spec_OrderValid.fL (l0.length : Int) l1).bind fun t472 => (if t472 = true then (spec_RealTime.l0L l0 l1 0) else (some false)) := by
  refine LimIs.unique (spec_RealTime.fL_is l0 l1) ?_
  unfold spec_RealTime.f
  repeat' first
    | (with_reducible exact LimIs.const _)
    | (with_reducible exact spec_OrderValid.fL_is _ _)
    | (with_reducible exact spec_RealTime.l0L_is _ _ _)
    | (with_reducible refine LimIs.ite ?_ ?_)
    | (with_reducible refine LimIs.bind ?_ (fun _ => ?_))
/-! ### laws_FnRealTime -/
noncomputable def laws_FnRealTime.l0L (x3 : List (S42)) (x4 : List Int) (x5 : Bool) (x6 : Bool) (x7 : Int) : Option (Bool) := Lim (fun k => laws_FnRealTime.l0 k x3 x4 x5 x6 x7)
theorem laws_FnRealTime.l0L_is (x3 : List (S42)) (x4 : List Int) (x5 : Bool) (x6 : Bool) (x7 : Int) : LimIs (fun k => laws_FnRealTime.l0 k x3 x4 x5 x6 x7) (laws_FnRealTime.l0L x3 x4 x5 x6 x7) := LimIs.of_mono (fun k r h => (laws_FnRealTime.mono_l k).1 x3 x4 x5 x6 x7 r h)
noncomputable def laws_FnRealTime.j1L (x3 : List (S42)) (x4 : List Int) (x5 : Bool) (x84 : Bool) : Option (Bool) := Lim (fun k => laws_FnRealTime.j1 k x3 x4 x5 x84)
theorem laws_FnRealTime.j1L_is (x3 : List (S42)) (x4 : List Int) (x5 : Bool) (x84 : Bool) : LimIs (fun k => laws_FnRealTime.j1 k x3 x4 x5 x84) (laws_FnRealTime.j1L x3 x4 x5 x84) := LimIs.of_mono (fun k r h => (laws_FnRealTime.mono_l k).2.1 x3 x4 x5 x84 r h)
noncomputable def laws_FnRealTime.j2L (x3 : List (S42)) (x4 : List Int) (x91 : Bool) : Option (Bool) := Lim (fun k => laws_FnRealTime.j2 k x3 x4 x91)
theorem laws_FnRealTime.j2L_is (x3 : List (S42)) (x4 : List Int) (x91 : Bool) : LimIs (fun k => laws_FnRealTime.j2 k x3 x4 x91) (laws_FnRealTime.j2L x3 x4 x91) := LimIs.of_mono (fun k r h => (laws_FnRealTime.mono_l k).2.2.1 x3 x4 x91 r h)
noncomputable def laws_FnRealTime.l1L (x4 : List Int) (x8 : Int) (x9 : List (S42)) (x10 : List Int) (x11 : Int) : Option (Bool) := Lim (fun k => laws_FnRealTime.l1 k x4 x8 x9 x10 x11)
theorem laws_FnRealTime.l1L_is (x4 : List Int) (x8 : Int) (x9 : List (S42)) (x10 : List Int) (x11 : Int) : LimIs (fun k => laws_FnRealTime.l1 k x4 x8 x9 x10 x11) (laws_FnRealTime.l1L x4 x8 x9 x10 x11) := LimIs.of_mono (fun k r h => (laws_FnRealTime.mono_l k).2.2.2 x4 x8 x9 x10 x11 r h)
noncomputable def laws_FnRealTime.fL (l0 : List Int) : Option (Bool) := Lim (fun k => laws_FnRealTime.f k l0)
theorem laws_FnRealTime.fL_is (l0 : List Int) : LimIs (fun k => laws_FnRealTime.f k l0) (laws_FnRealTime.fL l0) := LimIs.of_mono (fun k r h => laws_FnRealTime.mono l0 k r h)
theorem laws_FnRealTime.l0L_eq (x3 : List (S42)) (x4 : List Int) (x5 : Bool) (x6 : Bool) (x7 : Int) : laws_FnRealTime.l0L x3 x4 x5 x6 x7 = if x7 < (x4.length : Int) then (if x6 = true then (if 0 ≤ x7 then (if 0 ≤ (rd x4 x7) then (if (rd x4 x7) < (x3.length : Int) then ((impl_ResultValid.fL ((rd_T42 x3 (rd x4 x7)).f0) ((rd_T42 x3 (rd x4 x7)).f1) ((rd_T42 x3 (rd x4 x7)).f2.f0) ((rd_T42 x3 (rd x4 x7)).f2.f1) ((rd_T42 x3 (rd x4 x7)).f2.f2) ((rd_T42 x3 (rd x4 x7)).f2.f3) ((rd_T42 x3 (rd x4 x7)).f3) ((rd_T42 x3 (rd x4 x7)).f4) ((rd_T42 x3 (rd x4 x7)).f5)).bind fun t491 => (if t491 = true then (if x7 = 0 then (laws_FnRealTime.l0L x3 x4 x5 true (wrap64 (x7 + 1))) else (if 0 ≤ (wrap64 (x7 - 1)) then (if (wrap64 (x7 - 1)) < (x4.length : Int) then (if 0 ≤ (rd x4 (wrap64 (x7 - 1))) then (if (rd x4 (wrap64 (x7 - 1))) < (x3.length : Int) then (laws_FnRealTime.l0L x3 x4 x5 (decide (((rd_T42 x3 (rd x4 x7)).f4) ≥ ((rd_T42 x3 (rd x4 (wrap64 (x7 - 1)))).f4))) (wrap64 (x7 + 1))) else (none)) else (none)) else (none)) else (none))) else (laws_FnRealTime.l0L x3 x4 x5 false (wrap64 (x7 + 1))))) else (none)) else (none)) else (none)) else (laws_FnRealTime.l0L x3 x4 x5 false (wrap64 (x7 + 1)))) else (if x6 = true then (laws_FnRealTime.j1L x3 x4 x5 (!x5)) else (laws_FnRealTime.j1L x3 x4 x5 false)) := by
  refine LimIs.unique (laws_FnRealTime.l0L_is x3 x4 x5 x6 x7) (LimIs.step (f := fun k => if x7 < (x4.length : Int) then (if x6 = true then (if 0 ≤ x7 then (if 0 ≤ (rd x4 x7) then (if (rd x4 x7) < (x3.length : Int) then ((impl_ResultValid.f k ((rd_T42 x3 (rd x4 x7)).f0) ((rd_T42 x3 (rd x4 x7)).f1) ((rd_T42 x3 (rd x4 x7)).f2.f0) ((rd_T42 x3 (rd x4 x7)).f2.f1) ((rd_T42 x3 (rd x4 x7)).f2.f2) ((rd_T42 x3 (rd x4 x7)).f2.f3) ((rd_T42 x3 (rd x4 x7)).f3) ((rd_T42 x3 (rd x4 x7)).f4) ((rd_T42 x3 (rd x4 x7)).f5)).bind fun t491 => (if t491 = true then (if x7 = 0 then (laws_FnRealTime.l0 k x3 x4 x5 true (wrap64 (x7 + 1))) else (if 0 ≤ (wrap64 (x7 - 1)) then (if (wrap64 (x7 - 1)) < (x4.length : Int) then (if 0 ≤ (rd x4 (wrap64 (x7 - 1))) then (if (rd x4 (wrap64 (x7 - 1))) < (x3.length : Int) then (laws_FnRealTime.l0 k x3 x4 x5 (decide (((rd_T42 x3 (rd x4 x7)).f4) ≥ ((rd_T42 x3 (rd x4 (wrap64 (x7 - 1)))).f4))) (wrap64 (x7 + 1))) else (none)) else (none)) else (none)) else (none))) else (laws_FnRealTime.l0 k x3 x4 x5 false (wrap64 (x7 + 1))))) else (none)) else (none)) else (none)) else (laws_FnRealTime.l0 k x3 x4 x5 false (wrap64 (x7 + 1)))) else (if x6 = true then (laws_FnRealTime.j1 k x3 x4 x5 (!x5)) else (laws_FnRealTime.j1 k x3 x4 x5 false))) (by simp only [laws_FnRealTime.l0]) (fun k => by simp only [laws_FnRealTime.l0]) ?_)
  repeat' first
    | (with_reducible exact LimIs.const _)
    | (with_reducible exact impl_ResultValid.fL_is _ _ _ _ _ _ _ _ _)
    | (with_reducible exact laws_FnRealTime.j1L_is _ _ _ _)
    | (with_reducible exact laws_FnRealTime.l0L_is _ _ _ _ _)
    | (with_reducible refine LimIs.ite ?_ ?_)
    | (with_reducible refine LimIs.bind ?_ (fun _ => ?_))
theorem laws_FnRealTime.j1L_eq (x3 : List (S42)) (x4 : List Int) (x5 : Bool) (x84 : Bool) : laws_FnRealTime.j1L x3 x4 x5 x84 = if x84 = true then (some false) else (if x5 = true then (laws_FnRealTime.j2L x3 x4 ((x4.length : Int) == 0)) else (laws_FnRealTime.j2L x3 x4 true)) := by
  refine LimIs.unique (laws_FnRealTime.j1L_is x3 x4 x5 x84) (LimIs.step (f := fun k => if x84 = true then (some false) else (if x5 = true then (laws_FnRealTime.j2 k x3 x4 ((x4.length : Int) == 0)) else (laws_FnRealTime.j2 k x3 x4 true))) (by simp only [laws_FnRealTime.j1]) (fun k => by simp only [laws_FnRealTime.j1]) ?_)
  repeat' first
    | (with_reducible exact LimIs.const _)
    | (with_reducible exact laws_FnRealTime.j2L_is _ _ _)
    | (with_reducible refine LimIs.ite ?_ ?_)
    | (with_reducible refine LimIs.bind ?_ (fun _ => ?_))
theorem laws_FnRealTime.j2L_eq (x3 : List (S42)) (x4 : List Int) (x91 : Bool) : laws_FnRealTime.j2L x3 x4 x91 = if x91 = true then ((laws_alive.fL).bind fun t496 => (some t496)) else (if 0 ≤ (wrap64 ((x4.length : Int) - 1)) then (if (wrap64 ((x4.length : Int) - 1)) < (x4.length : Int) then ((some (([] : List (S42)) : List (S42))).bind fun y498 => (if 0 ≤ (rd x4 (wrap64 ((x4.length : Int) - 1))) then (if (rd x4 (wrap64 ((x4.length : Int) - 1))) ≤ (x3.length : Int) then ((some (x3.take ((rd x4 (wrap64 ((x4.length : Int) - 1))) : Int).toNat : List (S42))).bind fun y501 => (if y498.length + y501.length < 1759218604441 then ((some (y498 ++ y501 : List (S42))).bind fun y505 => (if 0 ≤ (wrap64 ((rd x4 (wrap64 ((x4.length : Int) - 1))) + 1)) then (if (wrap64 ((rd x4 (wrap64 ((x4.length : Int) - 1))) + 1)) ≤ (x3.length : Int) then ((some (x3.drop ((wrap64 ((rd x4 (wrap64 ((x4.length : Int) - 1))) + 1)) : Int).toNat : List (S42))).bind fun y508 => (if y505.length + y508.length < 1759218604441 then (laws_FnRealTime.l1L x4 (rd x4 (wrap64 ((x4.length : Int) - 1))) (y505 ++ y508) (([] : List Int)) 0) else (none))) else (none)) else (none))) else (none))) else (none)) else (none))) else (none)) else (none)) := by
  refine LimIs.unique (laws_FnRealTime.j2L_is x3 x4 x91) (LimIs.step (f := fun k => if x91 = true then ((laws_alive.f k).bind fun t496 => (some t496)) else (if 0 ≤ (wrap64 ((x4.length : Int) - 1)) then (if (wrap64 ((x4.length : Int) - 1)) < (x4.length : Int) then ((some (([] : List (S42)) : List (S42))).bind fun y498 => (if 0 ≤ (rd x4 (wrap64 ((x4.length : Int) - 1))) then (if (rd x4 (wrap64 ((x4.length : Int) - 1))) ≤ (x3.length : Int) then ((some (x3.take ((rd x4 (wrap64 ((x4.length : Int) - 1))) : Int).toNat : List (S42))).bind fun y501 => (if y498.length + y501.length < 1759218604441 then ((some (y498 ++ y501 : List (S42))).bind fun y505 => (if 0 ≤ (wrap64 ((rd x4 (wrap64 ((x4.length : Int) - 1))) + 1)) then (if (wrap64 ((rd x4 (wrap64 ((x4.length : Int) - 1))) + 1)) ≤ (x3.length : Int) then ((some (x3.drop ((wrap64 ((rd x4 (wrap64 ((x4.length : Int) - 1))) + 1)) : Int).toNat : List (S42))).bind fun y508 => (if y505.length + y508.length < 1759218604441 then (laws_FnRealTime.l1 k x4 (rd x4 (wrap64 ((x4.length : Int) - 1))) (y505 ++ y508) (([] : List Int)) 0) else (none))) else (none)) else (none))) else (none))) else (none)) else (none))) else (none)) else (none))) (by simp only [laws_FnRealTime.j2]) (fun k => by simp only [laws_FnRealTime.j2]) ?_)
  repeat' first
    | (with_reducible exact LimIs.const _)
    | (with_reducible exact laws_FnRealTime.l1L_is _ _ _ _ _)
    | (with_reducible exact laws_alive.fL_is)
    | (with_reducible refine LimIs.ite ?_ ?_)
    | (with_reducible refine LimIs.bind ?_ (fun _ => ?_))
theorem laws_FnRealTime.l1L_eq (x4 : List Int) (x8 : Int) (x9 : List (S42)) (x10 : List Int) (x11 : Int) : laws_FnRealTime.l1L x4 x8 x9 x10 x11 = if (wrap64 (x11 + 1)) < (x4.length : Int) then (if 0 ≤ x11 then (if x11 < (x4.length : Int) then (if (rd x4 x11) > x8 then (if x10.length < 17592186044416 then (laws_FnRealTime.l1L x4 x8 x9 (x10 ++ [wrap64 ((rd x4 x11) - 1)]) (wrap64 (x11 + 1))) else (none)) else (if x10.length < 17592186044416 then (laws_FnRealTime.l1L x4 x8 x9 (x10 ++ [rd x4 x11]) (wrap64 (x11 + 1))) else (none))) else (none)) else (none)) else ((impl_RealTime.fL x9 x10).bind fun t525 => (some t525)) := by
  refine LimIs.unique (laws_FnRealTime.l1L_is x4 x8 x9 x10 x11) (LimIs.step (f := fun k => if (wrap64 (x11 + 1)) < (x4.length : Int) then (if 0 ≤ x11 then (if x11 < (x4.length : Int) then (if (rd x4 x11) > x8 then (if x10.length < 17592186044416 then (laws_FnRealTime.l1 k x4 x8 x9 (x10 ++ [wrap64 ((rd x4 x11) - 1)]) (wrap64 (x11 + 1))) else (none)) else (if x10.length < 17592186044416 then (laws_FnRealTime.l1 k x4 x8 x9 (x10 ++ [rd x4 x11]) (wrap64 (x11 + 1))) else (none))) else (none)) else (none)) else ((impl_RealTime.f k x9 x10).bind fun t525 => (some t525))) (by simp only [laws_FnRealTime.l1]) (fun k => by simp only [laws_FnRealTime.l1]) ?_)
  repeat' first
    | (with_reducible exact LimIs.const _)
    | (with_reducible exact impl_RealTime.fL_is _ _)
    | (with_reducible exact laws_FnRealTime.l1L_is _ _ _ _ _)
    | (with_reducible refine LimIs.ite ?_ ?_)
    | (with_reducible refine LimIs.bind ?_ (fun _ => ?_))
theorem laws_FnRealTime.fL_eq (l0 : List Int) : laws_FnRealTime.fL l0 = if (l0.length : Int) > 1048576 then (some true) else ((spec_DrawRealTime.fL l0).bind fun bt479 => ((impl_RealTime.fL bt479.1 bt479.2).bind fun t485 => ((spec_RealTime.fL bt479.1 bt479.2).bind fun t486 => (if (t485 != t486) = true then (some false) else ((impl_OrderValid.fL (bt479.1.length : Int) bt479.2).bind fun t487 => (if t487 = true then (laws_FnRealTime.l0L bt479.1 bt479.2 t485 true 0) else (if t485 = true then (some false) else ((laws_alive.fL).bind fun t488 => (some t488))))))))) := by
  refine LimIs.unique (laws_FnRealTime.fL_is l0) ?_
  unfold laws_FnRealTime.f
  repeat' first
    | (with_reducible exact LimIs.const _)
    | (with_reducible exact impl_OrderValid.fL_is _ _)
    | (with_reducible exact impl_RealTime.fL_is _ _)
    | (with_reducible exact laws_FnRealTime.l0L_is _ _ _ _ _)
    | (with_reducible exact laws_alive.fL_is)
    | (with_reducible exact spec_DrawRealTime.fL_is _)
    | (with_reducible exact spec_RealTime.fL_is _ _)
    | (with_reducible refine LimIs.ite ?_ ?_)
    | (with_reducible refine LimIs.bind ?_ (fun _ => ?_))
end Go.Proofs.Ytfeeifefmenlmaa.PFnRealTime
