/- The limits of the printed functions, and their equations. Written by lim.py out of the print. No condition. -/
import Derived.Test.YtfeeifefmenlmaaPFnPartDigestsx13
import Derived.Test.YtfeeifefmenlmaaLim
namespace Go.Proofs.Ytfeeifefmenlmaa.PFnPartDigests
open Go.RowKit Go.Proofs.YtfeeifefmenlmaaW.PrintWords Go.Proofs.YtfeeifefmenlmaaW.PrintLast Go.Proofs.YtfeeifefmenlmaaW.PrintMore Go.Proofs.Ytfeeifefmenlmaa.Lim
set_option linter.unusedVariables false

/-! ### impl_lettersOnly -/
noncomputable def impl_lettersOnly.fL (a0 : ByteArray) : Option (Bool) := Lim (fun k => impl_lettersOnly.f k a0)
theorem impl_lettersOnly.fL_is (a0 : ByteArray) : LimIs (fun k => impl_lettersOnly.f k a0) (impl_lettersOnly.fL a0) := LimIs.of_mono (fun k r h => impl_lettersOnly.mono a0 k r h)
theorem impl_lettersOnly.fL_eq (a0 : ByteArray) : impl_lettersOnly.fL a0 = if a0.toList = ([] : List UInt8) then (some true) else (if 0 < (a0.size : Int) then (if (bt a0 0) ≥ 97 then (if (bt a0 0) ≤ 122 then (if 1 ≤ (a0.size : Int) then ((impl_lettersOnly.fL (a0.extract 1 a0.size)).bind fun t101 => (some t101)) else (none)) else (some false)) else (some false)) else (none)) := by
  refine LimIs.unique (impl_lettersOnly.fL_is a0) (LimIs.step (f := fun k => if a0.toList = ([] : List UInt8) then (some true) else (if 0 < (a0.size : Int) then (if (bt a0 0) ≥ 97 then (if (bt a0 0) ≤ 122 then (if 1 ≤ (a0.size : Int) then ((impl_lettersOnly.f k (a0.extract 1 a0.size)).bind fun t101 => (some t101)) else (none)) else (some false)) else (some false)) else (none))) (by simp only [impl_lettersOnly.f]) (fun k => by simp only [impl_lettersOnly.f]) ?_)
  repeat' first
    | (with_reducible exact LimIs.const _)
    | (with_reducible exact impl_lettersOnly.fL_is _)
    | (with_reducible refine LimIs.ite ?_ ?_)
    | (with_reducible refine LimIs.bind ?_ (fun _ => ?_))
/-! ### impl_KeyValid -/
noncomputable def impl_KeyValid.fL (a0 : ByteArray) : Option (Bool) := Lim (fun k => impl_KeyValid.f k a0)
theorem impl_KeyValid.fL_is (a0 : ByteArray) : LimIs (fun k => impl_KeyValid.f k a0) (impl_KeyValid.fL a0) := LimIs.of_mono (fun k r h => impl_KeyValid.mono a0 k r h)
theorem impl_KeyValid.fL_eq (a0 : ByteArray) : impl_KeyValid.fL a0 = if (a0.size : Int) < 1 then (some false) else (if (a0.size : Int) > 4 then (some false) else ((impl_lettersOnly.fL a0).bind fun t102 => (some t102))) := by
  refine LimIs.unique (impl_KeyValid.fL_is a0) ?_
  unfold impl_KeyValid.f
  repeat' first
    | (with_reducible exact LimIs.const _)
    | (with_reducible exact impl_lettersOnly.fL_is _)
    | (with_reducible refine LimIs.ite ?_ ?_)
    | (with_reducible refine LimIs.bind ?_ (fun _ => ?_))
/-! ### impl_PairsValid -/
noncomputable def impl_PairsValid.l0L (x0 : List (S29)) (x8 : List (S29)) (x9 : Int) (x10 : Int) : Option (Bool) := Lim (fun k => impl_PairsValid.l0 k x0 x8 x9 x10)
theorem impl_PairsValid.l0L_is (x0 : List (S29)) (x8 : List (S29)) (x9 : Int) (x10 : Int) : LimIs (fun k => impl_PairsValid.l0 k x0 x8 x9 x10) (impl_PairsValid.l0L x0 x8 x9 x10) := LimIs.of_mono (fun k r h => (impl_PairsValid.mono_l k).1 x0 x8 x9 x10 r h)
noncomputable def impl_PairsValid.j1L (x0 : List (S29)) (x3 : Int) (x8 : List (S29)) (x9 : Int) (x10 : Int) (x24 : Bool) (x105000 : ByteArray) (x105001 : Int) : Option (Bool) := Lim (fun k => impl_PairsValid.j1 k x0 x3 x8 x9 x10 x24 x105000 x105001)
theorem impl_PairsValid.j1L_is (x0 : List (S29)) (x3 : Int) (x8 : List (S29)) (x9 : Int) (x10 : Int) (x24 : Bool) (x105000 : ByteArray) (x105001 : Int) : LimIs (fun k => impl_PairsValid.j1 k x0 x3 x8 x9 x10 x24 x105000 x105001) (impl_PairsValid.j1L x0 x3 x8 x9 x10 x24 x105000 x105001) := LimIs.of_mono (fun k r h => (impl_PairsValid.mono_l k).2 x0 x3 x8 x9 x10 x24 x105000 x105001 r h)
noncomputable def impl_PairsValid.fL (l0 : List (S29)) : Option (Bool) := Lim (fun k => impl_PairsValid.f k l0)
theorem impl_PairsValid.fL_is (l0 : List (S29)) : LimIs (fun k => impl_PairsValid.f k l0) (impl_PairsValid.fL l0) := LimIs.of_mono (fun k r h => impl_PairsValid.mono l0 k r h)
theorem impl_PairsValid.l0L_eq (x0 : List (S29)) (x8 : List (S29)) (x9 : Int) (x10 : Int) : impl_PairsValid.l0L x0 x8 x9 x10 = if x10 < x9 then (if 0 ≤ x10 then (if x10 < (x8.length : Int) then ((impl_KeyValid.fL ((rd_T29 x8 x10).f0)).bind fun t105 => (if t105 = true then ((impl_valueValid.f ((rd_T29 x8 x10).f1)).bind fun t106 => (impl_PairsValid.j1L x0 x10 x8 x9 x10 (!t106) ((rd_T29 x8 x10).f0) ((rd_T29 x8 x10).f1))) else (impl_PairsValid.j1L x0 x10 x8 x9 x10 true ((rd_T29 x8 x10).f0) ((rd_T29 x8 x10).f1)))) else (none)) else (none)) else (some true) := by
  refine LimIs.unique (impl_PairsValid.l0L_is x0 x8 x9 x10) (LimIs.step (f := fun k => if x10 < x9 then (if 0 ≤ x10 then (if x10 < (x8.length : Int) then ((impl_KeyValid.f k ((rd_T29 x8 x10).f0)).bind fun t105 => (if t105 = true then ((impl_valueValid.f ((rd_T29 x8 x10).f1)).bind fun t106 => (impl_PairsValid.j1 k x0 x10 x8 x9 x10 (!t106) ((rd_T29 x8 x10).f0) ((rd_T29 x8 x10).f1))) else (impl_PairsValid.j1 k x0 x10 x8 x9 x10 true ((rd_T29 x8 x10).f0) ((rd_T29 x8 x10).f1)))) else (none)) else (none)) else (some true)) (by simp only [impl_PairsValid.l0]) (fun k => by simp only [impl_PairsValid.l0]) ?_)
  repeat' first
    | (with_reducible exact LimIs.const _)
    | (with_reducible exact impl_KeyValid.fL_is _)
    | (with_reducible exact impl_PairsValid.j1L_is _ _ _ _ _ _ _ _)
    | (with_reducible refine LimIs.ite ?_ ?_)
    | (with_reducible refine LimIs.bind ?_ (fun _ => ?_))
theorem impl_PairsValid.j1L_eq (x0 : List (S29)) (x3 : Int) (x8 : List (S29)) (x9 : Int) (x10 : Int) (x24 : Bool) (x105000 : ByteArray) (x105001 : Int) : impl_PairsValid.j1L x0 x3 x8 x9 x10 x24 x105000 x105001 = if x24 = true then (some false) else (if x3 > 0 then (if 0 ≤ (wrap64 (x3 - 1)) then (if (wrap64 (x3 - 1)) < (x0.length : Int) then (if ((Op.bytesLess (((rd_T29 x0 (wrap64 (x3 - 1))).f0).toList) x105000.toList) = true) then (impl_PairsValid.l0L x0 x8 x9 (wrap64 (x10 + 1))) else (some false)) else (none)) else (none)) else (impl_PairsValid.l0L x0 x8 x9 (wrap64 (x10 + 1)))) := by
  refine LimIs.unique (impl_PairsValid.j1L_is x0 x3 x8 x9 x10 x24 x105000 x105001) (LimIs.step (f := fun k => if x24 = true then (some false) else (if x3 > 0 then (if 0 ≤ (wrap64 (x3 - 1)) then (if (wrap64 (x3 - 1)) < (x0.length : Int) then (if ((Op.bytesLess (((rd_T29 x0 (wrap64 (x3 - 1))).f0).toList) x105000.toList) = true) then (impl_PairsValid.l0 k x0 x8 x9 (wrap64 (x10 + 1))) else (some false)) else (none)) else (none)) else (impl_PairsValid.l0 k x0 x8 x9 (wrap64 (x10 + 1))))) (by simp only [impl_PairsValid.j1]) (fun k => by simp only [impl_PairsValid.j1]) ?_)
  repeat' first
    | (with_reducible exact LimIs.const _)
    | (with_reducible exact impl_PairsValid.l0L_is _ _ _ _)
    | (with_reducible refine LimIs.ite ?_ ?_)
    | (with_reducible refine LimIs.bind ?_ (fun _ => ?_))
theorem impl_PairsValid.fL_eq (l0 : List (S29)) : impl_PairsValid.fL l0 = if (l0.length : Int) > 48 then (some false) else (impl_PairsValid.l0L l0 l0 (l0.length : Int) 0) := by
  refine LimIs.unique (impl_PairsValid.fL_is l0) ?_
  unfold impl_PairsValid.f
  repeat' first
    | (with_reducible exact LimIs.const _)
    | (with_reducible exact impl_PairsValid.l0L_is _ _ _ _)
    | (with_reducible refine LimIs.ite ?_ ?_)
    | (with_reducible refine LimIs.bind ?_ (fun _ => ?_))
/-! ### impl_keysFrom -/
noncomputable def impl_keysFrom.fL (a0 : Int) : Option (Int) := Lim (fun k => impl_keysFrom.f k a0)
theorem impl_keysFrom.fL_is (a0 : Int) : LimIs (fun k => impl_keysFrom.f k a0) (impl_keysFrom.fL a0) := LimIs.of_mono (fun k r h => impl_keysFrom.mono a0 k r h)
theorem impl_keysFrom.fL_eq (a0 : Int) : impl_keysFrom.fL a0 = if a0 ≥ 4 then (some 1) else ((impl_keysFrom.fL (wrap64 (a0 + 1))).bind fun t108 => (some (wrap64 (1 + (wrap64 (26 * t108)))))) := by
  refine LimIs.unique (impl_keysFrom.fL_is a0) (LimIs.step (f := fun k => if a0 ≥ 4 then (some 1) else ((impl_keysFrom.f k (wrap64 (a0 + 1))).bind fun t108 => (some (wrap64 (1 + (wrap64 (26 * t108))))))) (by simp only [impl_keysFrom.f]) (fun k => by simp only [impl_keysFrom.f]) ?_)
  repeat' first
    | (with_reducible exact LimIs.const _)
    | (with_reducible exact impl_keysFrom.fL_is _)
    | (with_reducible refine LimIs.ite ?_ ?_)
    | (with_reducible refine LimIs.bind ?_ (fun _ => ?_))
/-! ### impl_rankBelow -/
noncomputable def impl_rankBelow.fL (a0 : ByteArray) (a1 : Int) : Option (Int) := Lim (fun k => impl_rankBelow.f k a0 a1)
theorem impl_rankBelow.fL_is (a0 : ByteArray) (a1 : Int) : LimIs (fun k => impl_rankBelow.f k a0 a1) (impl_rankBelow.fL a0 a1) := LimIs.of_mono (fun k r h => impl_rankBelow.mono a0 a1 k r h)
theorem impl_rankBelow.fL_eq (a0 : ByteArray) (a1 : Int) : impl_rankBelow.fL a0 a1 = if a0.toList = ([] : List UInt8) then (some 0) else (if 0 < (a0.size : Int) then ((impl_keysFrom.fL a1).bind fun t109 => (if 1 ≤ (a0.size : Int) then ((impl_rankBelow.fL (a0.extract 1 a0.size) (wrap64 (a1 + 1))).bind fun t110 => (some (wrap64 ((wrap64 (1 + (wrap64 ((((bt a0 0) - 97) % 256) * t109)))) + t110)))) else (none))) else (none)) := by
  refine LimIs.unique (impl_rankBelow.fL_is a0 a1) (LimIs.step (f := fun k => if a0.toList = ([] : List UInt8) then (some 0) else (if 0 < (a0.size : Int) then ((impl_keysFrom.f k a1).bind fun t109 => (if 1 ≤ (a0.size : Int) then ((impl_rankBelow.f k (a0.extract 1 a0.size) (wrap64 (a1 + 1))).bind fun t110 => (some (wrap64 ((wrap64 (1 + (wrap64 ((((bt a0 0) - 97) % 256) * t109)))) + t110)))) else (none))) else (none))) (by simp only [impl_rankBelow.f]) (fun k => by simp only [impl_rankBelow.f]) ?_)
  repeat' first
    | (with_reducible exact LimIs.const _)
    | (with_reducible exact impl_keysFrom.fL_is _)
    | (with_reducible exact impl_rankBelow.fL_is _ _)
    | (with_reducible refine LimIs.ite ?_ ?_)
    | (with_reducible refine LimIs.bind ?_ (fun _ => ?_))
/-! ### impl_KeyRank -/
noncomputable def impl_KeyRank.fL (a0 : ByteArray) : Option (Int) := Lim (fun k => impl_KeyRank.f k a0)
theorem impl_KeyRank.fL_is (a0 : ByteArray) : LimIs (fun k => impl_KeyRank.f k a0) (impl_KeyRank.fL a0) := LimIs.of_mono (fun k r h => impl_KeyRank.mono a0 k r h)
theorem impl_KeyRank.fL_eq (a0 : ByteArray) : impl_KeyRank.fL a0 = (impl_KeyValid.fL a0).bind fun t111 => (if t111 = true then ((impl_rankBelow.fL a0 1).bind fun t112 => (some (wrap64 (t112 - 1)))) else (some (-1))) := by
  refine LimIs.unique (impl_KeyRank.fL_is a0) ?_
  unfold impl_KeyRank.f
  repeat' first
    | (with_reducible exact LimIs.const _)
    | (with_reducible exact impl_KeyValid.fL_is _)
    | (with_reducible exact impl_rankBelow.fL_is _ _)
    | (with_reducible refine LimIs.ite ?_ ?_)
    | (with_reducible refine LimIs.bind ?_ (fun _ => ?_))
/-! ### impl_PairDigest -/
noncomputable def impl_PairDigest.fL (a0_0 : ByteArray) (a0_1 : Int) : Option (Int) := Lim (fun k => impl_PairDigest.f k a0_0 a0_1)
theorem impl_PairDigest.fL_is (a0_0 : ByteArray) (a0_1 : Int) : LimIs (fun k => impl_PairDigest.f k a0_0 a0_1) (impl_PairDigest.fL a0_0 a0_1) := LimIs.of_mono (fun k r h => impl_PairDigest.mono a0_0 a0_1 k r h)
theorem impl_PairDigest.fL_eq (a0_0 : ByteArray) (a0_1 : Int) : impl_PairDigest.fL a0_0 a0_1 = (impl_KeyValid.fL a0_0).bind fun t114 => (if t114 = true then ((impl_valueValid.f a0_1).bind fun t115 => (if t115 = true then ((impl_KeyRank.fL a0_0).bind fun t116 => (some (Int.tmod (wrap64 ((wrap64 ((wrap64 (1009 * t116)) + (wrap64 (7 * a0_1)))) + 3)) 99991))) else (some (-1)))) else (some (-1))) := by
  refine LimIs.unique (impl_PairDigest.fL_is a0_0 a0_1) ?_
  unfold impl_PairDigest.f
  repeat' first
    | (with_reducible exact LimIs.const _)
    | (with_reducible exact impl_KeyRank.fL_is _)
    | (with_reducible exact impl_KeyValid.fL_is _)
    | (with_reducible refine LimIs.ite ?_ ?_)
    | (with_reducible refine LimIs.bind ?_ (fun _ => ?_))
/-! ### impl_PairsDigest -/
noncomputable def impl_PairsDigest.l0L (x3 : Int) (x9 : List (S29)) (x10 : Int) (x11 : Int) : Option (Int) := Lim (fun k => impl_PairsDigest.l0 k x3 x9 x10 x11)
theorem impl_PairsDigest.l0L_is (x3 : Int) (x9 : List (S29)) (x10 : Int) (x11 : Int) : LimIs (fun k => impl_PairsDigest.l0 k x3 x9 x10 x11) (impl_PairsDigest.l0L x3 x9 x10 x11) := LimIs.of_mono (fun k r h => (impl_PairsDigest.mono_l k) x3 x9 x10 x11 r h)
noncomputable def impl_PairsDigest.fL (l0 : List (S29)) : Option (Int) := Lim (fun k => impl_PairsDigest.f k l0)
theorem impl_PairsDigest.fL_is (l0 : List (S29)) : LimIs (fun k => impl_PairsDigest.f k l0) (impl_PairsDigest.fL l0) := LimIs.of_mono (fun k r h => impl_PairsDigest.mono l0 k r h)
theorem impl_PairsDigest.l0L_eq (x3 : Int) (x9 : List (S29)) (x10 : Int) (x11 : Int) : impl_PairsDigest.l0L x3 x9 x10 x11 = if x11 < x10 then (if 0 ≤ x11 then (if x11 < (x9.length : Int) then ((impl_PairDigest.fL ((rd_T29 x9 x11).f0) ((rd_T29 x9 x11).f1)).bind fun t120 => (impl_PairsDigest.l0L (wrap64 (x3 + t120)) x9 x10 (wrap64 (x11 + 1)))) else (none)) else (none)) else (some (Int.tmod x3 99991)) := by
  refine LimIs.unique (impl_PairsDigest.l0L_is x3 x9 x10 x11) (LimIs.step (f := fun k => if x11 < x10 then (if 0 ≤ x11 then (if x11 < (x9.length : Int) then ((impl_PairDigest.f k ((rd_T29 x9 x11).f0) ((rd_T29 x9 x11).f1)).bind fun t120 => (impl_PairsDigest.l0 k (wrap64 (x3 + t120)) x9 x10 (wrap64 (x11 + 1)))) else (none)) else (none)) else (some (Int.tmod x3 99991))) (by simp only [impl_PairsDigest.l0]) (fun k => by simp only [impl_PairsDigest.l0]) ?_)
  repeat' first
    | (with_reducible exact LimIs.const _)
    | (with_reducible exact impl_PairDigest.fL_is _ _)
    | (with_reducible exact impl_PairsDigest.l0L_is _ _ _ _)
    | (with_reducible refine LimIs.ite ?_ ?_)
    | (with_reducible refine LimIs.bind ?_ (fun _ => ?_))
theorem impl_PairsDigest.fL_eq (l0 : List (S29)) : impl_PairsDigest.fL l0 = (impl_PairsValid.fL l0).bind fun t117 => (if t117 = true then (impl_PairsDigest.l0L 0 l0 (l0.length : Int) 0) else (some (-1))) := by
  refine LimIs.unique (impl_PairsDigest.fL_is l0) ?_
  unfold impl_PairsDigest.f
  repeat' first
    | (with_reducible exact LimIs.const _)
    | (with_reducible exact impl_PairsDigest.l0L_is _ _ _ _)
    | (with_reducible exact impl_PairsValid.fL_is _)
    | (with_reducible refine LimIs.ite ?_ ?_)
    | (with_reducible refine LimIs.bind ?_ (fun _ => ?_))
/-! ### laws_alive -/
noncomputable def laws_alive.fL : Option (Bool) := Lim (fun k => laws_alive.f k)
theorem laws_alive.fL_is : LimIs (fun k => laws_alive.f k) (laws_alive.fL) := LimIs.of_mono (fun k r h => laws_alive.mono k r h)
theorem laws_alive.fL_eq : laws_alive.fL = (impl_KeyRank.fL (⟨#[97, 97]⟩ : ByteArray)).bind fun t121 => (if t121 = 1 then ((impl_KeyRank.fL (⟨#[]⟩ : ByteArray)).bind fun t122 => (some (t122 == (-1)))) else (some false)) := by
  refine LimIs.unique (laws_alive.fL_is) ?_
  unfold laws_alive.f
  repeat' first
    | (with_reducible exact LimIs.const _)
    | (with_reducible exact impl_KeyRank.fL_is _)
    | (with_reducible refine LimIs.ite ?_ ?_)
    | (with_reducible refine LimIs.bind ?_ (fun _ => ?_))
/-! ### spec_l20Rd_pick -/
noncomputable def spec_l20Rd_pick.j0L (x1 : Int) (x24 : Bool) (x1000 : List Int) (x1001 : Int) : Option (Int × Int) := Lim (fun k => spec_l20Rd_pick.j0 k x1 x24 x1000 x1001)
theorem spec_l20Rd_pick.j0L_is (x1 : Int) (x24 : Bool) (x1000 : List Int) (x1001 : Int) : LimIs (fun k => spec_l20Rd_pick.j0 k x1 x24 x1000 x1001) (spec_l20Rd_pick.j0L x1 x24 x1000 x1001) := LimIs.of_mono (fun k r h => (spec_l20Rd_pick.mono_l k) x1 x24 x1000 x1001 r h)
noncomputable def spec_l20Rd_pick.fL (s0_0 : List Int) (s0_1 : Int) (a1 : Int) : Option (Int × Int) := Lim (fun k => spec_l20Rd_pick.f k s0_0 s0_1 a1)
theorem spec_l20Rd_pick.fL_is (s0_0 : List Int) (s0_1 : Int) (a1 : Int) : LimIs (fun k => spec_l20Rd_pick.f k s0_0 s0_1 a1) (spec_l20Rd_pick.fL s0_0 s0_1 a1) := LimIs.of_mono (fun k r h => spec_l20Rd_pick.mono s0_0 s0_1 a1 k r h)
theorem spec_l20Rd_pick.j0L_eq (x1 : Int) (x24 : Bool) (x1000 : List Int) (x1001 : Int) : spec_l20Rd_pick.j0L x1 x24 x1000 x1001 = if x24 = true then (some (0, x1001)) else (if (wrap64 (x1001 - 1)) < (x1000.length : Int) then (if 0 ≤ (wrap64 (x1001 - 1)) then (if x1 = 0 then (none) else (some (Int.tmod (wrap64 (rd x1000 (wrap64 (x1001 - 1)))) x1, x1001))) else (none)) else (if (x1000.length : Int) = 0 then (none) else (if 0 ≤ (Int.tmod (wrap64 (x1001 - 1)) (x1000.length : Int)) then (if (Int.tmod (wrap64 (x1001 - 1)) (x1000.length : Int)) < (x1000.length : Int) then (if 0 ≤ (Int.tmod (wrap64 ((wrap64 ((wrap64 (x1001 - 1)) * 7)) + 3)) (x1000.length : Int)) then (if (Int.tmod (wrap64 ((wrap64 ((wrap64 (x1001 - 1)) * 7)) + 3)) (x1000.length : Int)) < (x1000.length : Int) then (if x1 = 0 then (none) else (some (Int.tmod (Go.bits .xor .i64 (wrap64 ((wrap64 ((wrap64 ((wrap64 ((wrap64 (rd x1000 (Int.tmod (wrap64 (x1001 - 1)) (x1000.length : Int)))) * 131)) + (wrap64 ((wrap64 (rd x1000 (Int.tmod (wrap64 ((wrap64 ((wrap64 (x1001 - 1)) * 7)) + 3)) (x1000.length : Int)))) * 1117)))) + (wrap64 ((wrap64 (x1001 - 1)) * 29)))) + (wrap64 ((wrap64 (Int.tdiv (wrap64 (x1001 - 1)) (x1000.length : Int))) * 53)))) (wrap64 (Int.tdiv (wrap64 ((wrap64 ((wrap64 ((wrap64 ((wrap64 (rd x1000 (Int.tmod (wrap64 (x1001 - 1)) (x1000.length : Int)))) * 131)) + (wrap64 ((wrap64 (rd x1000 (Int.tmod (wrap64 ((wrap64 ((wrap64 (x1001 - 1)) * 7)) + 3)) (x1000.length : Int)))) * 1117)))) + (wrap64 ((wrap64 (x1001 - 1)) * 29)))) + (wrap64 ((wrap64 (Int.tdiv (wrap64 (x1001 - 1)) (x1000.length : Int))) * 53)))) 64))) x1, x1001))) else (none)) else (none)) else (none)) else (none)))) := by
  refine LimIs.unique (spec_l20Rd_pick.j0L_is x1 x24 x1000 x1001) (LimIs.step (f := fun k => if x24 = true then (some (0, x1001)) else (if (wrap64 (x1001 - 1)) < (x1000.length : Int) then (if 0 ≤ (wrap64 (x1001 - 1)) then (if x1 = 0 then (none) else (some (Int.tmod (wrap64 (rd x1000 (wrap64 (x1001 - 1)))) x1, x1001))) else (none)) else (if (x1000.length : Int) = 0 then (none) else (if 0 ≤ (Int.tmod (wrap64 (x1001 - 1)) (x1000.length : Int)) then (if (Int.tmod (wrap64 (x1001 - 1)) (x1000.length : Int)) < (x1000.length : Int) then (if 0 ≤ (Int.tmod (wrap64 ((wrap64 ((wrap64 (x1001 - 1)) * 7)) + 3)) (x1000.length : Int)) then (if (Int.tmod (wrap64 ((wrap64 ((wrap64 (x1001 - 1)) * 7)) + 3)) (x1000.length : Int)) < (x1000.length : Int) then (if x1 = 0 then (none) else (some (Int.tmod (Go.bits .xor .i64 (wrap64 ((wrap64 ((wrap64 ((wrap64 ((wrap64 (rd x1000 (Int.tmod (wrap64 (x1001 - 1)) (x1000.length : Int)))) * 131)) + (wrap64 ((wrap64 (rd x1000 (Int.tmod (wrap64 ((wrap64 ((wrap64 (x1001 - 1)) * 7)) + 3)) (x1000.length : Int)))) * 1117)))) + (wrap64 ((wrap64 (x1001 - 1)) * 29)))) + (wrap64 ((wrap64 (Int.tdiv (wrap64 (x1001 - 1)) (x1000.length : Int))) * 53)))) (wrap64 (Int.tdiv (wrap64 ((wrap64 ((wrap64 ((wrap64 ((wrap64 (rd x1000 (Int.tmod (wrap64 (x1001 - 1)) (x1000.length : Int)))) * 131)) + (wrap64 ((wrap64 (rd x1000 (Int.tmod (wrap64 ((wrap64 ((wrap64 (x1001 - 1)) * 7)) + 3)) (x1000.length : Int)))) * 1117)))) + (wrap64 ((wrap64 (x1001 - 1)) * 29)))) + (wrap64 ((wrap64 (Int.tdiv (wrap64 (x1001 - 1)) (x1000.length : Int))) * 53)))) 64))) x1, x1001))) else (none)) else (none)) else (none)) else (none))))) (by simp only [spec_l20Rd_pick.j0]) (fun k => by simp only [spec_l20Rd_pick.j0]) ?_)
  repeat' first
    | (with_reducible exact LimIs.const _)
    | (with_reducible refine LimIs.ite ?_ ?_)
    | (with_reducible refine LimIs.bind ?_ (fun _ => ?_))
theorem spec_l20Rd_pick.fL_eq (s0_0 : List Int) (s0_1 : Int) (a1 : Int) : spec_l20Rd_pick.fL s0_0 s0_1 a1 = if a1 < 1 then (spec_l20Rd_pick.j0L a1 true s0_0 (wrap64 (s0_1 + 1))) else (spec_l20Rd_pick.j0L a1 ((s0_0.length : Int) == 0) s0_0 (wrap64 (s0_1 + 1))) := by
  refine LimIs.unique (spec_l20Rd_pick.fL_is s0_0 s0_1 a1) ?_
  unfold spec_l20Rd_pick.f
  repeat' first
    | (with_reducible exact LimIs.const _)
    | (with_reducible exact spec_l20Rd_pick.j0L_is _ _ _ _)
    | (with_reducible refine LimIs.ite ?_ ?_)
    | (with_reducible refine LimIs.bind ?_ (fun _ => ?_))
/-! ### spec_KeyValid -/
noncomputable def spec_KeyValid.l0L (x0 : ByteArray) (x3 : Int) : Option (Bool) := Lim (fun k => spec_KeyValid.l0 k x0 x3)
theorem spec_KeyValid.l0L_is (x0 : ByteArray) (x3 : Int) : LimIs (fun k => spec_KeyValid.l0 k x0 x3) (spec_KeyValid.l0L x0 x3) := LimIs.of_mono (fun k r h => (spec_KeyValid.mono_l k) x0 x3 r h)
noncomputable def spec_KeyValid.fL (a0 : ByteArray) : Option (Bool) := Lim (fun k => spec_KeyValid.f k a0)
theorem spec_KeyValid.fL_is (a0 : ByteArray) : LimIs (fun k => spec_KeyValid.f k a0) (spec_KeyValid.fL a0) := LimIs.of_mono (fun k r h => spec_KeyValid.mono a0 k r h)
theorem spec_KeyValid.l0L_eq (x0 : ByteArray) (x3 : Int) : spec_KeyValid.l0L x0 x3 = if x3 < (x0.size : Int) then (if 0 ≤ x3 then (if (bt x0 x3) < 97 then (some false) else (if (bt x0 x3) > 122 then (some false) else (spec_KeyValid.l0L x0 (wrap64 (x3 + 1))))) else (none)) else (some true) := by
  refine LimIs.unique (spec_KeyValid.l0L_is x0 x3) (LimIs.step (f := fun k => if x3 < (x0.size : Int) then (if 0 ≤ x3 then (if (bt x0 x3) < 97 then (some false) else (if (bt x0 x3) > 122 then (some false) else (spec_KeyValid.l0 k x0 (wrap64 (x3 + 1))))) else (none)) else (some true)) (by simp only [spec_KeyValid.l0]) (fun k => by simp only [spec_KeyValid.l0]) ?_)
  repeat' first
    | (with_reducible exact LimIs.const _)
    | (with_reducible exact spec_KeyValid.l0L_is _ _)
    | (with_reducible refine LimIs.ite ?_ ?_)
    | (with_reducible refine LimIs.bind ?_ (fun _ => ?_))
theorem spec_KeyValid.fL_eq (a0 : ByteArray) : spec_KeyValid.fL a0 = (spec_l1In.f (a0.size : Int) 1 4).bind fun t126 => (if t126 = true then (spec_KeyValid.l0L a0 0) else (some false)) := by
  refine LimIs.unique (spec_KeyValid.fL_is a0) ?_
  unfold spec_KeyValid.f
  repeat' first
    | (with_reducible exact LimIs.const _)
    | (with_reducible exact spec_KeyValid.l0L_is _ _)
    | (with_reducible refine LimIs.ite ?_ ?_)
    | (with_reducible refine LimIs.bind ?_ (fun _ => ?_))
/-! ### spec_PairsValid -/
noncomputable def spec_PairsValid.l0L (x0 : List (S29)) (x3 : Int) : Option (Bool) := Lim (fun k => spec_PairsValid.l0 k x0 x3)
theorem spec_PairsValid.l0L_is (x0 : List (S29)) (x3 : Int) : LimIs (fun k => spec_PairsValid.l0 k x0 x3) (spec_PairsValid.l0L x0 x3) := LimIs.of_mono (fun k r h => (spec_PairsValid.mono_l k) x0 x3 r h)
noncomputable def spec_PairsValid.fL (l0 : List (S29)) : Option (Bool) := Lim (fun k => spec_PairsValid.f k l0)
theorem spec_PairsValid.fL_is (l0 : List (S29)) : LimIs (fun k => spec_PairsValid.f k l0) (spec_PairsValid.fL l0) := LimIs.of_mono (fun k r h => spec_PairsValid.mono l0 k r h)
theorem spec_PairsValid.l0L_eq (x0 : List (S29)) (x3 : Int) : spec_PairsValid.l0L x0 x3 = if x3 < (x0.length : Int) then (if 0 ≤ x3 then ((spec_KeyValid.fL ((rd_T29 x0 x3).f0)).bind fun t128 => (if t128 = true then ((spec_l1In.f ((rd_T29 x0 x3).f1) 0 999).bind fun t130 => (if t130 = true then (if x3 > 0 then (if 0 ≤ (wrap64 (x3 - 1)) then (if (wrap64 (x3 - 1)) < (x0.length : Int) then (if ((Op.bytesLess (((rd_T29 x0 (wrap64 (x3 - 1))).f0).toList) (((rd_T29 x0 x3).f0).toList)) = true) then (spec_PairsValid.l0L x0 (wrap64 (x3 + 1))) else (some false)) else (none)) else (none)) else (spec_PairsValid.l0L x0 (wrap64 (x3 + 1)))) else (some false))) else (some false))) else (none)) else (some true) := by
  refine LimIs.unique (spec_PairsValid.l0L_is x0 x3) (LimIs.step (f := fun k => if x3 < (x0.length : Int) then (if 0 ≤ x3 then ((spec_KeyValid.f k ((rd_T29 x0 x3).f0)).bind fun t128 => (if t128 = true then ((spec_l1In.f ((rd_T29 x0 x3).f1) 0 999).bind fun t130 => (if t130 = true then (if x3 > 0 then (if 0 ≤ (wrap64 (x3 - 1)) then (if (wrap64 (x3 - 1)) < (x0.length : Int) then (if ((Op.bytesLess (((rd_T29 x0 (wrap64 (x3 - 1))).f0).toList) (((rd_T29 x0 x3).f0).toList)) = true) then (spec_PairsValid.l0 k x0 (wrap64 (x3 + 1))) else (some false)) else (none)) else (none)) else (spec_PairsValid.l0 k x0 (wrap64 (x3 + 1)))) else (some false))) else (some false))) else (none)) else (some true)) (by simp only [spec_PairsValid.l0]) (fun k => by simp only [spec_PairsValid.l0]) ?_)
  repeat' first
    | (with_reducible exact LimIs.const _)
    | (with_reducible exact spec_KeyValid.fL_is _)
    | (with_reducible exact spec_PairsValid.l0L_is _ _)
    | (with_reducible refine LimIs.ite ?_ ?_)
    | (with_reducible refine LimIs.bind ?_ (fun _ => ?_))
theorem spec_PairsValid.fL_eq (l0 : List (S29)) : spec_PairsValid.fL l0 = if (l0.length : Int) > 48 then (some false) else (spec_PairsValid.l0L l0 0) := by
  refine LimIs.unique (spec_PairsValid.fL_is l0) ?_
  unfold spec_PairsValid.f
  repeat' first
    | (with_reducible exact LimIs.const _)
    | (with_reducible exact spec_PairsValid.l0L_is _ _)
    | (with_reducible refine LimIs.ite ?_ ?_)
    | (with_reducible refine LimIs.bind ?_ (fun _ => ?_))
/-! ### spec_l4Place -/
noncomputable def spec_l4Place.l0L (x0 : List (S29)) (x1 : ByteArray) (x5 : Int) : Option (Int) := Lim (fun k => spec_l4Place.l0 k x0 x1 x5)
theorem spec_l4Place.l0L_is (x0 : List (S29)) (x1 : ByteArray) (x5 : Int) : LimIs (fun k => spec_l4Place.l0 k x0 x1 x5) (spec_l4Place.l0L x0 x1 x5) := LimIs.of_mono (fun k r h => (spec_l4Place.mono_l k) x0 x1 x5 r h)
noncomputable def spec_l4Place.fL (l0 : List (S29)) (a1 : ByteArray) : Option (Int) := Lim (fun k => spec_l4Place.f k l0 a1)
theorem spec_l4Place.fL_is (l0 : List (S29)) (a1 : ByteArray) : LimIs (fun k => spec_l4Place.f k l0 a1) (spec_l4Place.fL l0 a1) := LimIs.of_mono (fun k r h => spec_l4Place.mono l0 a1 k r h)
theorem spec_l4Place.l0L_eq (x0 : List (S29)) (x1 : ByteArray) (x5 : Int) : spec_l4Place.l0L x0 x1 x5 = if x5 < (x0.length : Int) then (if 0 ≤ x5 then (if (Op.bytesLess (((rd_T29 x0 x5).f0).toList) x1.toList) = true then (spec_l4Place.l0L x0 x1 (wrap64 (x5 + 1))) else (some x5)) else (none)) else (some x5) := by
  refine LimIs.unique (spec_l4Place.l0L_is x0 x1 x5) (LimIs.step (f := fun k => if x5 < (x0.length : Int) then (if 0 ≤ x5 then (if (Op.bytesLess (((rd_T29 x0 x5).f0).toList) x1.toList) = true then (spec_l4Place.l0 k x0 x1 (wrap64 (x5 + 1))) else (some x5)) else (none)) else (some x5)) (by simp only [spec_l4Place.l0]) (fun k => by simp only [spec_l4Place.l0]) ?_)
  repeat' first
    | (with_reducible exact LimIs.const _)
    | (with_reducible exact spec_l4Place.l0L_is _ _ _)
    | (with_reducible refine LimIs.ite ?_ ?_)
    | (with_reducible refine LimIs.bind ?_ (fun _ => ?_))
theorem spec_l4Place.fL_eq (l0 : List (S29)) (a1 : ByteArray) : spec_l4Place.fL l0 a1 = spec_l4Place.l0L l0 a1 0 := by
  refine LimIs.unique (spec_l4Place.fL_is l0 a1) ?_
  unfold spec_l4Place.f
  repeat' first
    | (with_reducible exact LimIs.const _)
    | (with_reducible exact spec_l4Place.l0L_is _ _ _)
    | (with_reducible refine LimIs.ite ?_ ?_)
    | (with_reducible refine LimIs.bind ?_ (fun _ => ?_))
/-! ### spec_PairPut -/
noncomputable def spec_PairPut.j0L (x0 : List (S29)) (x1 : ByteArray) (x2 : Int) (x8 : List (S29)) (x23 : Bool) : Option ((List (S29)) × Bool) := Lim (fun k => spec_PairPut.j0 k x0 x1 x2 x8 x23)
theorem spec_PairPut.j0L_is (x0 : List (S29)) (x1 : ByteArray) (x2 : Int) (x8 : List (S29)) (x23 : Bool) : LimIs (fun k => spec_PairPut.j0 k x0 x1 x2 x8 x23) (spec_PairPut.j0L x0 x1 x2 x8 x23) := LimIs.of_mono (fun k r h => (spec_PairPut.mono_l k).1 x0 x1 x2 x8 x23 r h)
noncomputable def spec_PairPut.j1L (x0 : List (S29)) (x1 : ByteArray) (x2 : Int) (x8 : List (S29)) (x9 : Int) (x40 : Bool) : Option ((List (S29)) × Bool) := Lim (fun k => spec_PairPut.j1 k x0 x1 x2 x8 x9 x40)
theorem spec_PairPut.j1L_is (x0 : List (S29)) (x1 : ByteArray) (x2 : Int) (x8 : List (S29)) (x9 : Int) (x40 : Bool) : LimIs (fun k => spec_PairPut.j1 k x0 x1 x2 x8 x9 x40) (spec_PairPut.j1L x0 x1 x2 x8 x9 x40) := LimIs.of_mono (fun k r h => (spec_PairPut.mono_l k).2 x0 x1 x2 x8 x9 x40 r h)
noncomputable def spec_PairPut.fL (l0 : List (S29)) (a1 : ByteArray) (a2 : Int) : Option ((List (S29)) × Bool) := Lim (fun k => spec_PairPut.f k l0 a1 a2)
theorem spec_PairPut.fL_is (l0 : List (S29)) (a1 : ByteArray) (a2 : Int) : LimIs (fun k => spec_PairPut.f k l0 a1 a2) (spec_PairPut.fL l0 a1 a2) := LimIs.of_mono (fun k r h => spec_PairPut.mono l0 a1 a2 k r h)
theorem spec_PairPut.j0L_eq (x0 : List (S29)) (x1 : ByteArray) (x2 : Int) (x8 : List (S29)) (x23 : Bool) : spec_PairPut.j0L x0 x1 x2 x8 x23 = if x23 = true then (some (x8, false)) else ((spec_l4Place.fL x0 x1).bind fun t140 => (if t140 < (x0.length : Int) then (if 0 ≤ t140 then (spec_PairPut.j1L x0 x1 x2 x8 t140 (((rd_T29 x0 t140).f0).toList == x1.toList)) else (none)) else (spec_PairPut.j1L x0 x1 x2 x8 t140 false))) := by
  refine LimIs.unique (spec_PairPut.j0L_is x0 x1 x2 x8 x23) (LimIs.step (f := fun k => if x23 = true then (some (x8, false)) else ((spec_l4Place.f k x0 x1).bind fun t140 => (if t140 < (x0.length : Int) then (if 0 ≤ t140 then (spec_PairPut.j1 k x0 x1 x2 x8 t140 (((rd_T29 x0 t140).f0).toList == x1.toList)) else (none)) else (spec_PairPut.j1 k x0 x1 x2 x8 t140 false)))) (by simp only [spec_PairPut.j0]) (fun k => by simp only [spec_PairPut.j0]) ?_)
  repeat' first
    | (with_reducible exact LimIs.const _)
    | (with_reducible exact spec_PairPut.j1L_is _ _ _ _ _ _)
    | (with_reducible exact spec_l4Place.fL_is _ _)
    | (with_reducible refine LimIs.ite ?_ ?_)
    | (with_reducible refine LimIs.bind ?_ (fun _ => ?_))
theorem spec_PairPut.j1L_eq (x0 : List (S29)) (x1 : ByteArray) (x2 : Int) (x8 : List (S29)) (x9 : Int) (x40 : Bool) : spec_PairPut.j1L x0 x1 x2 x8 x9 x40 = if x40 = true then (if x8.length + x0.length < 5864062014805 then ((some (x8 ++ x0 : List (S29))).bind fun y142 => (if 0 ≤ x9 then (if x9 < (y142.length : Int) then (some ((y142.set (x9 : Int).toNat (⟨(rd_T29 y142 x9).f0, x2⟩ : S29)), true)) else (none)) else (none))) else (none)) else (if (x0.length : Int) ≥ 48 then (if x8.length + x0.length < 5864062014805 then (some ((x8 ++ x0), false)) else (none)) else (if 0 ≤ x9 then (if x9 ≤ (x0.length : Int) then ((some (x0.take (x9 : Int).toNat : List (S29))).bind fun y149 => (if x8.length + y149.length < 5864062014805 then ((some (x8 ++ y149 : List (S29))).bind fun y153 => (if y153.length < 5864062014805 then ((some (y153 ++ [(⟨x1, x2⟩ : S29)] : List (S29))).bind fun y156 => ((some (x0.drop (x9 : Int).toNat : List (S29))).bind fun y159 => (if y156.length + y159.length < 5864062014805 then (some ((y156 ++ y159), true)) else (none)))) else (none))) else (none))) else (none)) else (none))) := by
  refine LimIs.unique (spec_PairPut.j1L_is x0 x1 x2 x8 x9 x40) (LimIs.step (f := fun k => if x40 = true then (if x8.length + x0.length < 5864062014805 then ((some (x8 ++ x0 : List (S29))).bind fun y142 => (if 0 ≤ x9 then (if x9 < (y142.length : Int) then (some ((y142.set (x9 : Int).toNat (⟨(rd_T29 y142 x9).f0, x2⟩ : S29)), true)) else (none)) else (none))) else (none)) else (if (x0.length : Int) ≥ 48 then (if x8.length + x0.length < 5864062014805 then (some ((x8 ++ x0), false)) else (none)) else (if 0 ≤ x9 then (if x9 ≤ (x0.length : Int) then ((some (x0.take (x9 : Int).toNat : List (S29))).bind fun y149 => (if x8.length + y149.length < 5864062014805 then ((some (x8 ++ y149 : List (S29))).bind fun y153 => (if y153.length < 5864062014805 then ((some (y153 ++ [(⟨x1, x2⟩ : S29)] : List (S29))).bind fun y156 => ((some (x0.drop (x9 : Int).toNat : List (S29))).bind fun y159 => (if y156.length + y159.length < 5864062014805 then (some ((y156 ++ y159), true)) else (none)))) else (none))) else (none))) else (none)) else (none)))) (by simp only [spec_PairPut.j1]) (fun k => by simp only [spec_PairPut.j1]) ?_)
  repeat' first
    | (with_reducible exact LimIs.const _)
    | (with_reducible refine LimIs.ite ?_ ?_)
    | (with_reducible refine LimIs.bind ?_ (fun _ => ?_))
theorem spec_PairPut.fL_eq (l0 : List (S29)) (a1 : ByteArray) (a2 : Int) : spec_PairPut.fL l0 a1 a2 = (some (([] : List (S29)) : List (S29))).bind fun y134 => ((spec_PairsValid.fL l0).bind fun t137 => (if t137 = true then ((spec_KeyValid.fL a1).bind fun t138 => (if t138 = true then ((spec_l1In.f a2 0 999).bind fun t139 => (spec_PairPut.j0L l0 a1 a2 y134 (!t139))) else (spec_PairPut.j0L l0 a1 a2 y134 true))) else (spec_PairPut.j0L l0 a1 a2 y134 true))) := by
  refine LimIs.unique (spec_PairPut.fL_is l0 a1 a2) ?_
  unfold spec_PairPut.f
  repeat' first
    | (with_reducible exact LimIs.const _)
    | (with_reducible exact spec_KeyValid.fL_is _)
    | (with_reducible exact spec_PairPut.j0L_is _ _ _ _ _)
    | (with_reducible exact spec_PairsValid.fL_is _)
    | (with_reducible refine LimIs.ite ?_ ?_)
    | (with_reducible refine LimIs.bind ?_ (fun _ => ?_))
/-! ### spec_l20Rd_odd -/
noncomputable def spec_l20Rd_odd.fL (s0_0 : List Int) (s0_1 : Int) (a1 : Int) : Option (Bool × Int) := Lim (fun k => spec_l20Rd_odd.f k s0_0 s0_1 a1)
theorem spec_l20Rd_odd.fL_is (s0_0 : List Int) (s0_1 : Int) (a1 : Int) : LimIs (fun k => spec_l20Rd_odd.f k s0_0 s0_1 a1) (spec_l20Rd_odd.fL s0_0 s0_1 a1) := LimIs.of_mono (fun k r h => spec_l20Rd_odd.mono s0_0 s0_1 a1 k r h)
theorem spec_l20Rd_odd.fL_eq (s0_0 : List Int) (s0_1 : Int) (a1 : Int) : spec_l20Rd_odd.fL s0_0 s0_1 a1 = if a1 > 0 then ((spec_l20Rd_pick.fL s0_0 s0_1 a1).bind fun bt166 => (some ((bt166.1 == (wrap64 (a1 - 1))), bt166.2))) else (some (false, s0_1)) := by
  refine LimIs.unique (spec_l20Rd_odd.fL_is s0_0 s0_1 a1) ?_
  unfold spec_l20Rd_odd.f
  repeat' first
    | (with_reducible exact LimIs.const _)
    | (with_reducible exact spec_l20Rd_pick.fL_is _ _ _)
    | (with_reducible refine LimIs.ite ?_ ?_)
    | (with_reducible refine LimIs.bind ?_ (fun _ => ?_))
/-! ### spec_l20Key -/
noncomputable def spec_l20Key.l0L (x5 : ByteArray) (x6 : Int) (x1000 : List Int) (x1001 : Int) : Option (ByteArray × Int) := Lim (fun k => spec_l20Key.l0 k x5 x6 x1000 x1001)
theorem spec_l20Key.l0L_is (x5 : ByteArray) (x6 : Int) (x1000 : List Int) (x1001 : Int) : LimIs (fun k => spec_l20Key.l0 k x5 x6 x1000 x1001) (spec_l20Key.l0L x5 x6 x1000 x1001) := LimIs.of_mono (fun k r h => (spec_l20Key.mono_l k) x5 x6 x1000 x1001 r h)
noncomputable def spec_l20Key.fL (s0_0 : List Int) (s0_1 : Int) (a1 : Int) : Option (ByteArray × Int) := Lim (fun k => spec_l20Key.f k s0_0 s0_1 a1)
theorem spec_l20Key.fL_is (s0_0 : List Int) (s0_1 : Int) (a1 : Int) : LimIs (fun k => spec_l20Key.f k s0_0 s0_1 a1) (spec_l20Key.fL s0_0 s0_1 a1) := LimIs.of_mono (fun k r h => spec_l20Key.mono s0_0 s0_1 a1 k r h)
theorem spec_l20Key.l0L_eq (x5 : ByteArray) (x6 : Int) (x1000 : List Int) (x1001 : Int) : spec_l20Key.l0L x5 x6 x1000 x1001 = if x6 > 0 then ((spec_l20Rd_pick.fL x1000 x1001 4).bind fun bt186 => ((some (([(wrap64 (97 + bt186.1)) % 256] : List Int) : List Int)).bind fun y188 => (if x5.size + (strOfNums y188).size ≤ 9223372036854775807 then (spec_l20Key.l0L (x5 ++ (strOfNums y188)) (wrap64 (x6 - 1)) x1000 bt186.2) else (none)))) else (some (x5, x1001)) := by
  refine LimIs.unique (spec_l20Key.l0L_is x5 x6 x1000 x1001) (LimIs.step (f := fun k => if x6 > 0 then ((spec_l20Rd_pick.f k x1000 x1001 4).bind fun bt186 => ((some (([(wrap64 (97 + bt186.1)) % 256] : List Int) : List Int)).bind fun y188 => (if x5.size + (strOfNums y188).size ≤ 9223372036854775807 then (spec_l20Key.l0 k (x5 ++ (strOfNums y188)) (wrap64 (x6 - 1)) x1000 bt186.2) else (none)))) else (some (x5, x1001))) (by simp only [spec_l20Key.l0]) (fun k => by simp only [spec_l20Key.l0]) ?_)
  repeat' first
    | (with_reducible exact LimIs.const _)
    | (with_reducible exact spec_l20Key.l0L_is _ _ _ _)
    | (with_reducible exact spec_l20Rd_pick.fL_is _ _ _)
    | (with_reducible refine LimIs.ite ?_ ?_)
    | (with_reducible refine LimIs.bind ?_ (fun _ => ?_))
theorem spec_l20Key.fL_eq (s0_0 : List Int) (s0_1 : Int) (a1 : Int) : spec_l20Key.fL s0_0 s0_1 a1 = (spec_l20Rd_odd.fL s0_0 s0_1 a1).bind fun bt168 => (if bt168.1 = true then ((some (([(⟨#[]⟩ : ByteArray), (⟨#[65]⟩ : ByteArray), (⟨#[97, 49]⟩ : ByteArray), (⟨#[97, 98, 99, 100, 101]⟩ : ByteArray), (⟨#[98, 123]⟩ : ByteArray), (⟨#[97, 32, 98]⟩ : ByteArray)] : List ByteArray) : List ByteArray)).bind fun y170 => ((spec_l20Rd_pick.fL s0_0 bt168.2 6).bind fun bt173 => (if 0 ≤ bt173.1 then (if bt173.1 < (y170.length : Int) then (some (rdOf ByteArray.empty y170 bt173.1, bt173.2)) else (none)) else (none)))) else ((spec_l20Rd_pick.fL s0_0 bt168.2 12).bind fun bt176 => (if bt176.1 = 11 then ((some (([(⟨#[122, 122, 122, 122]⟩ : ByteArray), (⟨#[122, 122, 122]⟩ : ByteArray), (⟨#[97, 122, 122, 122]⟩ : ByteArray), (⟨#[122]⟩ : ByteArray), (⟨#[97, 97, 97, 97]⟩ : ByteArray)] : List ByteArray) : List ByteArray)).bind fun y178 => ((spec_l20Rd_pick.fL s0_0 bt176.2 5).bind fun bt181 => (if 0 ≤ bt181.1 then (if bt181.1 < (y178.length : Int) then (some (rdOf ByteArray.empty y178 bt181.1, bt181.2)) else (none)) else (none)))) else ((spec_l20Rd_pick.fL s0_0 bt176.2 2).bind fun bt184 => (spec_l20Key.l0L (⟨#[]⟩ : ByteArray) (wrap64 (1 + bt184.1)) s0_0 bt184.2))))) := by
  refine LimIs.unique (spec_l20Key.fL_is s0_0 s0_1 a1) ?_
  unfold spec_l20Key.f
  repeat' first
    | (with_reducible exact LimIs.const _)
    | (with_reducible exact spec_l20Key.l0L_is _ _ _ _)
    | (with_reducible exact spec_l20Rd_odd.fL_is _ _ _)
    | (with_reducible exact spec_l20Rd_pick.fL_is _ _ _)
    | (with_reducible refine LimIs.ite ?_ ?_)
    | (with_reducible refine LimIs.bind ?_ (fun _ => ?_))
/-! ### spec_l20Value -/
noncomputable def spec_l20Value.fL (s0_0 : List Int) (s0_1 : Int) (a1 : Int) : Option (Int × Int) := Lim (fun k => spec_l20Value.f k s0_0 s0_1 a1)
theorem spec_l20Value.fL_is (s0_0 : List Int) (s0_1 : Int) (a1 : Int) : LimIs (fun k => spec_l20Value.f k s0_0 s0_1 a1) (spec_l20Value.fL s0_0 s0_1 a1) := LimIs.of_mono (fun k r h => spec_l20Value.mono s0_0 s0_1 a1 k r h)
theorem spec_l20Value.fL_eq (s0_0 : List Int) (s0_1 : Int) (a1 : Int) : spec_l20Value.fL s0_0 s0_1 a1 = (spec_l20Rd_odd.fL s0_0 s0_1 a1).bind fun bt191 => (if bt191.1 = true then ((some (([(-1), 1000] : List Int) : List Int)).bind fun y193 => ((spec_l20Rd_pick.fL s0_0 bt191.2 2).bind fun bt196 => (if 0 ≤ bt196.1 then (if bt196.1 < (y193.length : Int) then (some (rd y193 bt196.1, bt196.2)) else (none)) else (none)))) else ((spec_l20Rd_pick.fL s0_0 bt191.2 20).bind fun bt199 => ((some (([bt199.1, 999] : List Int) : List Int)).bind fun y201 => ((spec_l20Rd_pick.fL s0_0 bt199.2 9).bind fun bt204 => (if 0 ≤ (wrap64 (Int.tdiv bt204.1 8)) then (if (wrap64 (Int.tdiv bt204.1 8)) < (y201.length : Int) then (some (rd y201 (wrap64 (Int.tdiv bt204.1 8)), bt204.2)) else (none)) else (none)))))) := by
  refine LimIs.unique (spec_l20Value.fL_is s0_0 s0_1 a1) ?_
  unfold spec_l20Value.f
  repeat' first
    | (with_reducible exact LimIs.const _)
    | (with_reducible exact spec_l20Rd_odd.fL_is _ _ _)
    | (with_reducible exact spec_l20Rd_pick.fL_is _ _ _)
    | (with_reducible refine LimIs.ite ?_ ?_)
    | (with_reducible refine LimIs.bind ?_ (fun _ => ?_))
/-! ### spec_KeyAt -/
noncomputable def spec_KeyAt.l0L (x0 : Int) (x3 : ByteArray) (x4 : Int) : Option (ByteArray) := Lim (fun k => spec_KeyAt.l0 k x0 x3 x4)
theorem spec_KeyAt.l0L_is (x0 : Int) (x3 : ByteArray) (x4 : Int) : LimIs (fun k => spec_KeyAt.l0 k x0 x3 x4) (spec_KeyAt.l0L x0 x3 x4) := LimIs.of_mono (fun k r h => (spec_KeyAt.mono_l k) x0 x3 x4 r h)
noncomputable def spec_KeyAt.fL (a0 : Int) : Option (ByteArray) := Lim (fun k => spec_KeyAt.f k a0)
theorem spec_KeyAt.fL_is (a0 : Int) : LimIs (fun k => spec_KeyAt.f k a0) (spec_KeyAt.fL a0) := LimIs.of_mono (fun k r h => spec_KeyAt.mono a0 k r h)
theorem spec_KeyAt.l0L_eq (x0 : Int) (x3 : ByteArray) (x4 : Int) : spec_KeyAt.l0L x0 x3 x4 = if x4 < 4 then ((spec_l1Weight.f x4).bind fun t208 => (if t208 = 0 then (none) else ((some (([(wrap64 (97 + (wrap64 (Int.tdiv x0 t208)))) % 256] : List Int) : List Int)).bind fun y209 => (if x3.size + (strOfNums y209).size ≤ 9223372036854775807 then ((spec_l1Weight.f x4).bind fun t212 => (if t212 = 0 then (none) else (if (Int.tmod x0 t212) = 0 then (some (x3 ++ (strOfNums y209))) else (spec_KeyAt.l0L (wrap64 ((Int.tmod x0 t212) - 1)) (x3 ++ (strOfNums y209)) (wrap64 (x4 + 1)))))) else (none))))) else (some x3) := by
  refine LimIs.unique (spec_KeyAt.l0L_is x0 x3 x4) (LimIs.step (f := fun k => if x4 < 4 then ((spec_l1Weight.f x4).bind fun t208 => (if t208 = 0 then (none) else ((some (([(wrap64 (97 + (wrap64 (Int.tdiv x0 t208)))) % 256] : List Int) : List Int)).bind fun y209 => (if x3.size + (strOfNums y209).size ≤ 9223372036854775807 then ((spec_l1Weight.f x4).bind fun t212 => (if t212 = 0 then (none) else (if (Int.tmod x0 t212) = 0 then (some (x3 ++ (strOfNums y209))) else (spec_KeyAt.l0 k (wrap64 ((Int.tmod x0 t212) - 1)) (x3 ++ (strOfNums y209)) (wrap64 (x4 + 1)))))) else (none))))) else (some x3)) (by simp only [spec_KeyAt.l0]) (fun k => by simp only [spec_KeyAt.l0]) ?_)
  repeat' first
    | (with_reducible exact LimIs.const _)
    | (with_reducible exact spec_KeyAt.l0L_is _ _ _)
    | (with_reducible refine LimIs.ite ?_ ?_)
    | (with_reducible refine LimIs.bind ?_ (fun _ => ?_))
theorem spec_KeyAt.fL_eq (a0 : Int) : spec_KeyAt.fL a0 = (spec_l1In.f a0 0 475253).bind fun t207 => (if t207 = true then (spec_KeyAt.l0L a0 (⟨#[]⟩ : ByteArray) 0) else (some (⟨#[]⟩ : ByteArray))) := by
  refine LimIs.unique (spec_KeyAt.fL_is a0) ?_
  unfold spec_KeyAt.f
  repeat' first
    | (with_reducible exact LimIs.const _)
    | (with_reducible exact spec_KeyAt.l0L_is _ _ _)
    | (with_reducible refine LimIs.ite ?_ ?_)
    | (with_reducible refine LimIs.bind ?_ (fun _ => ?_))
/-! ### spec_l20Pairs -/
noncomputable def spec_l20Pairs.l0L (x1 : Int) (x5 : List (S29)) (x6 : Int) (x1000 : List Int) (x1001 : Int) : Option ((List (S29)) × Int) := Lim (fun k => spec_l20Pairs.l0 k x1 x5 x6 x1000 x1001)
theorem spec_l20Pairs.l0L_is (x1 : Int) (x5 : List (S29)) (x6 : Int) (x1000 : List Int) (x1001 : Int) : LimIs (fun k => spec_l20Pairs.l0 k x1 x5 x6 x1000 x1001) (spec_l20Pairs.l0L x1 x5 x6 x1000 x1001) := LimIs.of_mono (fun k r h => (spec_l20Pairs.mono_l k).1 x1 x5 x6 x1000 x1001 r h)
noncomputable def spec_l20Pairs.j3L (x1 : Int) (x5 : List (S29)) (x1000 : List Int) (x1001 : Int) : Option ((List (S29)) × Int) := Lim (fun k => spec_l20Pairs.j3 k x1 x5 x1000 x1001)
theorem spec_l20Pairs.j3L_is (x1 : Int) (x5 : List (S29)) (x1000 : List Int) (x1001 : Int) : LimIs (fun k => spec_l20Pairs.j3 k x1 x5 x1000 x1001) (spec_l20Pairs.j3L x1 x5 x1000 x1001) := LimIs.of_mono (fun k r h => (spec_l20Pairs.mono_l k).2.1 x1 x5 x1000 x1001 r h)
noncomputable def spec_l20Pairs.l1L (x1 : Int) (x5 : List (S29)) (x9 : Int) (x1000 : List Int) (x1001 : Int) : Option ((List (S29)) × Int) := Lim (fun k => spec_l20Pairs.l1 k x1 x5 x9 x1000 x1001)
theorem spec_l20Pairs.l1L_is (x1 : Int) (x5 : List (S29)) (x9 : Int) (x1000 : List Int) (x1001 : Int) : LimIs (fun k => spec_l20Pairs.l1 k x1 x5 x9 x1000 x1001) (spec_l20Pairs.l1L x1 x5 x9 x1000 x1001) := LimIs.of_mono (fun k r h => (spec_l20Pairs.mono_l k).2.2.1 x1 x5 x9 x1000 x1001 r h)
noncomputable def spec_l20Pairs.j2L (x1 : Int) (x5 : List (S29)) (x9 : Int) (x38 : Bool) (x1000 : List Int) (x1001 : Int) : Option ((List (S29)) × Int) := Lim (fun k => spec_l20Pairs.j2 k x1 x5 x9 x38 x1000 x1001)
theorem spec_l20Pairs.j2L_is (x1 : Int) (x5 : List (S29)) (x9 : Int) (x38 : Bool) (x1000 : List Int) (x1001 : Int) : LimIs (fun k => spec_l20Pairs.j2 k x1 x5 x9 x38 x1000 x1001) (spec_l20Pairs.j2L x1 x5 x9 x38 x1000 x1001) := LimIs.of_mono (fun k r h => (spec_l20Pairs.mono_l k).2.2.2 x1 x5 x9 x38 x1000 x1001 r h)
noncomputable def spec_l20Pairs.fL (s0_0 : List Int) (s0_1 : Int) (a1 : Int) : Option ((List (S29)) × Int) := Lim (fun k => spec_l20Pairs.f k s0_0 s0_1 a1)
theorem spec_l20Pairs.fL_is (s0_0 : List Int) (s0_1 : Int) (a1 : Int) : LimIs (fun k => spec_l20Pairs.f k s0_0 s0_1 a1) (spec_l20Pairs.fL s0_0 s0_1 a1) := LimIs.of_mono (fun k r h => spec_l20Pairs.mono s0_0 s0_1 a1 k r h)
theorem spec_l20Pairs.l0L_eq (x1 : Int) (x5 : List (S29)) (x6 : Int) (x1000 : List Int) (x1001 : Int) : spec_l20Pairs.l0L x1 x5 x6 x1000 x1001 = if x6 > 0 then ((spec_l20Key.fL x1000 x1001 0).bind fun bt218 => ((spec_l20Value.fL x1000 bt218.2 0).bind fun bt220 => ((spec_PairPut.fL x5 bt218.1 bt220.1).bind fun bt222 => (spec_l20Pairs.l0L x1 bt222.1 (wrap64 (x6 - 1)) x1000 bt220.2)))) else ((spec_l20Rd_pick.fL x1000 x1001 16).bind fun bt226 => (if bt226.1 = 15 then (spec_l20Pairs.l1L x1 x5 0 x1000 bt226.2) else (spec_l20Pairs.j3L x1 x5 x1000 bt226.2))) := by
  refine LimIs.unique (spec_l20Pairs.l0L_is x1 x5 x6 x1000 x1001) (LimIs.step (f := fun k => if x6 > 0 then ((spec_l20Key.f k x1000 x1001 0).bind fun bt218 => ((spec_l20Value.f k x1000 bt218.2 0).bind fun bt220 => ((spec_PairPut.f k x5 bt218.1 bt220.1).bind fun bt222 => (spec_l20Pairs.l0 k x1 bt222.1 (wrap64 (x6 - 1)) x1000 bt220.2)))) else ((spec_l20Rd_pick.f k x1000 x1001 16).bind fun bt226 => (if bt226.1 = 15 then (spec_l20Pairs.l1 k x1 x5 0 x1000 bt226.2) else (spec_l20Pairs.j3 k x1 x5 x1000 bt226.2)))) (by simp only [spec_l20Pairs.l0]) (fun k => by simp only [spec_l20Pairs.l0]) ?_)
  repeat' first
    | (with_reducible exact LimIs.const _)
    | (with_reducible exact spec_PairPut.fL_is _ _ _)
    | (with_reducible exact spec_l20Key.fL_is _ _ _)
    | (with_reducible exact spec_l20Pairs.j3L_is _ _ _ _)
    | (with_reducible exact spec_l20Pairs.l0L_is _ _ _ _ _)
    | (with_reducible exact spec_l20Pairs.l1L_is _ _ _ _ _)
    | (with_reducible exact spec_l20Rd_pick.fL_is _ _ _)
    | (with_reducible exact spec_l20Value.fL_is _ _ _)
    | (with_reducible refine LimIs.ite ?_ ?_)
    | (with_reducible refine LimIs.bind ?_ (fun _ => ?_))
theorem spec_l20Pairs.j3L_eq (x1 : Int) (x5 : List (S29)) (x1000 : List Int) (x1001 : Int) : spec_l20Pairs.j3L x1 x5 x1000 x1001 = (spec_l20Rd_odd.fL x1000 x1001 x1).bind fun bt233 => (if bt233.1 = true then ((some (([(⟨(⟨#[]⟩ : ByteArray), 0⟩ : S29), (⟨(⟨#[122, 122, 122, 122]⟩ : ByteArray), (-1)⟩ : S29), (⟨(⟨#[122, 122, 122, 122]⟩ : ByteArray), 1000⟩ : S29), (⟨(⟨#[97]⟩ : ByteArray), 1⟩ : S29), (⟨(⟨#[65]⟩ : ByteArray), 0⟩ : S29)] : List (S29)) : List (S29))).bind fun y235 => ((spec_l20Rd_pick.fL x1000 bt233.2 5).bind fun bt238 => (if 0 ≤ bt238.1 then (if bt238.1 < (y235.length : Int) then (if x5.length < 5864062014805 then (some ((x5 ++ [(⟨(rd_T29 y235 bt238.1).f0, (rd_T29 y235 bt238.1).f1⟩ : S29)]), bt238.2)) else (none)) else (none)) else (none)))) else (some (x5, bt233.2))) := by
  refine LimIs.unique (spec_l20Pairs.j3L_is x1 x5 x1000 x1001) (LimIs.step (f := fun k => (spec_l20Rd_odd.f k x1000 x1001 x1).bind fun bt233 => (if bt233.1 = true then ((some (([(⟨(⟨#[]⟩ : ByteArray), 0⟩ : S29), (⟨(⟨#[122, 122, 122, 122]⟩ : ByteArray), (-1)⟩ : S29), (⟨(⟨#[122, 122, 122, 122]⟩ : ByteArray), 1000⟩ : S29), (⟨(⟨#[97]⟩ : ByteArray), 1⟩ : S29), (⟨(⟨#[65]⟩ : ByteArray), 0⟩ : S29)] : List (S29)) : List (S29))).bind fun y235 => ((spec_l20Rd_pick.f k x1000 bt233.2 5).bind fun bt238 => (if 0 ≤ bt238.1 then (if bt238.1 < (y235.length : Int) then (if x5.length < 5864062014805 then (some ((x5 ++ [(⟨(rd_T29 y235 bt238.1).f0, (rd_T29 y235 bt238.1).f1⟩ : S29)]), bt238.2)) else (none)) else (none)) else (none)))) else (some (x5, bt233.2)))) (by simp only [spec_l20Pairs.j3]) (fun k => by simp only [spec_l20Pairs.j3]) ?_)
  repeat' first
    | (with_reducible exact LimIs.const _)
    | (with_reducible exact spec_l20Rd_odd.fL_is _ _ _)
    | (with_reducible exact spec_l20Rd_pick.fL_is _ _ _)
    | (with_reducible refine LimIs.ite ?_ ?_)
    | (with_reducible refine LimIs.bind ?_ (fun _ => ?_))
theorem spec_l20Pairs.l1L_eq (x1 : Int) (x5 : List (S29)) (x9 : Int) (x1000 : List Int) (x1001 : Int) : spec_l20Pairs.l1L x1 x5 x9 x1000 x1001 = if (x5.length : Int) < 48 then (spec_l20Pairs.j2L x1 x5 x9 (decide (x9 < 200)) x1000 x1001) else (spec_l20Pairs.j2L x1 x5 x9 false x1000 x1001) := by
  refine LimIs.unique (spec_l20Pairs.l1L_is x1 x5 x9 x1000 x1001) (LimIs.step (f := fun k => if (x5.length : Int) < 48 then (spec_l20Pairs.j2 k x1 x5 x9 (decide (x9 < 200)) x1000 x1001) else (spec_l20Pairs.j2 k x1 x5 x9 false x1000 x1001)) (by simp only [spec_l20Pairs.l1]) (fun k => by simp only [spec_l20Pairs.l1]) ?_)
  repeat' first
    | (with_reducible exact LimIs.const _)
    | (with_reducible exact spec_l20Pairs.j2L_is _ _ _ _ _ _)
    | (with_reducible refine LimIs.ite ?_ ?_)
    | (with_reducible refine LimIs.bind ?_ (fun _ => ?_))
theorem spec_l20Pairs.j2L_eq (x1 : Int) (x5 : List (S29)) (x9 : Int) (x38 : Bool) (x1000 : List Int) (x1001 : Int) : spec_l20Pairs.j2L x1 x5 x9 x38 x1000 x1001 = if x38 = true then ((spec_KeyAt.fL (wrap64 (x9 * 9))).bind fun t228 => ((spec_PairPut.fL x5 t228 x9).bind fun bt229 => (spec_l20Pairs.l1L x1 bt229.1 (wrap64 (x9 + 1)) x1000 x1001))) else (spec_l20Pairs.j3L x1 x5 x1000 x1001) := by
  refine LimIs.unique (spec_l20Pairs.j2L_is x1 x5 x9 x38 x1000 x1001) (LimIs.step (f := fun k => if x38 = true then ((spec_KeyAt.f k (wrap64 (x9 * 9))).bind fun t228 => ((spec_PairPut.f k x5 t228 x9).bind fun bt229 => (spec_l20Pairs.l1 k x1 bt229.1 (wrap64 (x9 + 1)) x1000 x1001))) else (spec_l20Pairs.j3 k x1 x5 x1000 x1001)) (by simp only [spec_l20Pairs.j2]) (fun k => by simp only [spec_l20Pairs.j2]) ?_)
  repeat' first
    | (with_reducible exact LimIs.const _)
    | (with_reducible exact spec_KeyAt.fL_is _)
    | (with_reducible exact spec_PairPut.fL_is _ _ _)
    | (with_reducible exact spec_l20Pairs.j3L_is _ _ _ _)
    | (with_reducible exact spec_l20Pairs.l1L_is _ _ _ _ _)
    | (with_reducible refine LimIs.ite ?_ ?_)
    | (with_reducible refine LimIs.bind ?_ (fun _ => ?_))
theorem spec_l20Pairs.fL_eq (s0_0 : List Int) (s0_1 : Int) (a1 : Int) : spec_l20Pairs.fL s0_0 s0_1 a1 = (spec_l20Rd_pick.fL s0_0 s0_1 9).bind fun bt216 => (spec_l20Pairs.l0L a1 (([] : List (S29))) bt216.1 s0_0 bt216.2) := by
  refine LimIs.unique (spec_l20Pairs.fL_is s0_0 s0_1 a1) ?_
  unfold spec_l20Pairs.f
  repeat' first
    | (with_reducible exact LimIs.const _)
    | (with_reducible exact spec_l20Pairs.l0L_is _ _ _ _ _)
    | (with_reducible exact spec_l20Rd_pick.fL_is _ _ _)
    | (with_reducible refine LimIs.ite ?_ ?_)
    | (with_reducible refine LimIs.bind ?_ (fun _ => ?_))
/-! ### spec_IntervalValid -/
noncomputable def spec_IntervalValid.fL (a0_0 : ByteArray) (a0_1 : ByteArray) : Option (Bool) := Lim (fun k => spec_IntervalValid.f k a0_0 a0_1)
theorem spec_IntervalValid.fL_is (a0_0 : ByteArray) (a0_1 : ByteArray) : LimIs (fun k => spec_IntervalValid.f k a0_0 a0_1) (spec_IntervalValid.fL a0_0 a0_1) := LimIs.of_mono (fun k r h => spec_IntervalValid.mono a0_0 a0_1 k r h)
theorem spec_IntervalValid.fL_eq (a0_0 : ByteArray) (a0_1 : ByteArray) : spec_IntervalValid.fL a0_0 a0_1 = if a0_0.toList = ([] : List UInt8) then (if a0_1.toList = ([] : List UInt8) then (some true) else ((spec_KeyValid.fL a0_1).bind fun t251 => (if t251 = true then (if (Op.bytesLess a0_0.toList a0_1.toList) = true then (some (a0_1.toList != ([97] : List UInt8))) else (some false)) else (some false)))) else ((spec_KeyValid.fL a0_0).bind fun t252 => (if t252 = true then (if a0_1.toList = ([] : List UInt8) then (some true) else ((spec_KeyValid.fL a0_1).bind fun t253 => (if t253 = true then (if (Op.bytesLess a0_0.toList a0_1.toList) = true then (some true) else (some false)) else (some false)))) else (some false))) := by
  refine LimIs.unique (spec_IntervalValid.fL_is a0_0 a0_1) ?_
  unfold spec_IntervalValid.f
  repeat' first
    | (with_reducible exact LimIs.const _)
    | (with_reducible exact spec_KeyValid.fL_is _)
    | (with_reducible refine LimIs.ite ?_ ?_)
    | (with_reducible refine LimIs.bind ?_ (fun _ => ?_))
/-! ### spec_IntervalJoin -/
noncomputable def spec_IntervalJoin.fL (a0_0 : ByteArray) (a0_1 : ByteArray) (a1_0 : ByteArray) (a1_1 : ByteArray) : Option (ByteArray × ByteArray × Bool) := Lim (fun k => spec_IntervalJoin.f k a0_0 a0_1 a1_0 a1_1)
theorem spec_IntervalJoin.fL_is (a0_0 : ByteArray) (a0_1 : ByteArray) (a1_0 : ByteArray) (a1_1 : ByteArray) : LimIs (fun k => spec_IntervalJoin.f k a0_0 a0_1 a1_0 a1_1) (spec_IntervalJoin.fL a0_0 a0_1 a1_0 a1_1) := LimIs.of_mono (fun k r h => spec_IntervalJoin.mono a0_0 a0_1 a1_0 a1_1 k r h)
theorem spec_IntervalJoin.fL_eq (a0_0 : ByteArray) (a0_1 : ByteArray) (a1_0 : ByteArray) (a1_1 : ByteArray) : spec_IntervalJoin.fL a0_0 a0_1 a1_0 a1_1 = (spec_IntervalValid.fL a0_0 a0_1).bind fun t257 => (if t257 = true then ((spec_IntervalValid.fL a1_0 a1_1).bind fun t258 => (if t258 = true then (if a0_1.toList = ([] : List UInt8) then (some ((⟨#[]⟩ : ByteArray), (⟨#[]⟩ : ByteArray), false)) else (if a0_1.toList = a1_0.toList then (some (a0_0, a1_1, true)) else (some ((⟨#[]⟩ : ByteArray), (⟨#[]⟩ : ByteArray), false)))) else (some ((⟨#[]⟩ : ByteArray), (⟨#[]⟩ : ByteArray), false)))) else (some ((⟨#[]⟩ : ByteArray), (⟨#[]⟩ : ByteArray), false))) := by
  refine LimIs.unique (spec_IntervalJoin.fL_is a0_0 a0_1 a1_0 a1_1) ?_
  unfold spec_IntervalJoin.f
  repeat' first
    | (with_reducible exact LimIs.const _)
    | (with_reducible exact spec_IntervalValid.fL_is _ _)
    | (with_reducible refine LimIs.ite ?_ ?_)
    | (with_reducible refine LimIs.bind ?_ (fun _ => ?_))
/-! ### spec_PartitionValid -/
noncomputable def spec_PartitionValid.j0L (x0 : List (S83)) (x33 : Bool) : Option (Bool) := Lim (fun k => spec_PartitionValid.j0 k x0 x33)
theorem spec_PartitionValid.j0L_is (x0 : List (S83)) (x33 : Bool) : LimIs (fun k => spec_PartitionValid.j0 k x0 x33) (spec_PartitionValid.j0L x0 x33) := LimIs.of_mono (fun k r h => (spec_PartitionValid.mono_l k).1 x0 x33 r h)
noncomputable def spec_PartitionValid.l0L (x0 : List (S83)) (x3 : Int) : Option (Bool) := Lim (fun k => spec_PartitionValid.l0 k x0 x3)
theorem spec_PartitionValid.l0L_is (x0 : List (S83)) (x3 : Int) : LimIs (fun k => spec_PartitionValid.l0 k x0 x3) (spec_PartitionValid.l0L x0 x3) := LimIs.of_mono (fun k r h => (spec_PartitionValid.mono_l k).2 x0 x3 r h)
noncomputable def spec_PartitionValid.fL (l0 : List (S83)) : Option (Bool) := Lim (fun k => spec_PartitionValid.f k l0)
theorem spec_PartitionValid.fL_is (l0 : List (S83)) : LimIs (fun k => spec_PartitionValid.f k l0) (spec_PartitionValid.fL l0) := LimIs.of_mono (fun k r h => spec_PartitionValid.mono l0 k r h)
theorem spec_PartitionValid.j0L_eq (x0 : List (S83)) (x33 : Bool) : spec_PartitionValid.j0L x0 x33 = if x33 = true then (some false) else (spec_PartitionValid.l0L x0 1) := by
  refine LimIs.unique (spec_PartitionValid.j0L_is x0 x33) (LimIs.step (f := fun k => if x33 = true then (some false) else (spec_PartitionValid.l0 k x0 1)) (by simp only [spec_PartitionValid.j0]) (fun k => by simp only [spec_PartitionValid.j0]) ?_)
  repeat' first
    | (with_reducible exact LimIs.const _)
    | (with_reducible exact spec_PartitionValid.l0L_is _ _)
    | (with_reducible refine LimIs.ite ?_ ?_)
    | (with_reducible refine LimIs.bind ?_ (fun _ => ?_))
theorem spec_PartitionValid.l0L_eq (x0 : List (S83)) (x3 : Int) : spec_PartitionValid.l0L x0 x3 = if x3 < (x0.length : Int) then (if 0 ≤ (wrap64 (x3 - 1)) then (if (wrap64 (x3 - 1)) < (x0.length : Int) then (if 0 ≤ x3 then ((spec_IntervalJoin.fL ((rd_T83 x0 (wrap64 (x3 - 1))).f0) ((rd_T83 x0 (wrap64 (x3 - 1))).f1) ((rd_T83 x0 x3).f0) ((rd_T83 x0 x3).f1)).bind fun bt266 => (if bt266.2.2 = true then (spec_PartitionValid.l0L x0 (wrap64 (x3 + 1))) else (some false))) else (none)) else (none)) else (none)) else (some true) := by
  refine LimIs.unique (spec_PartitionValid.l0L_is x0 x3) (LimIs.step (f := fun k => if x3 < (x0.length : Int) then (if 0 ≤ (wrap64 (x3 - 1)) then (if (wrap64 (x3 - 1)) < (x0.length : Int) then (if 0 ≤ x3 then ((spec_IntervalJoin.f k ((rd_T83 x0 (wrap64 (x3 - 1))).f0) ((rd_T83 x0 (wrap64 (x3 - 1))).f1) ((rd_T83 x0 x3).f0) ((rd_T83 x0 x3).f1)).bind fun bt266 => (if bt266.2.2 = true then (spec_PartitionValid.l0 k x0 (wrap64 (x3 + 1))) else (some false))) else (none)) else (none)) else (none)) else (some true)) (by simp only [spec_PartitionValid.l0]) (fun k => by simp only [spec_PartitionValid.l0]) ?_)
  repeat' first
    | (with_reducible exact LimIs.const _)
    | (with_reducible exact spec_IntervalJoin.fL_is _ _ _ _)
    | (with_reducible exact spec_PartitionValid.l0L_is _ _)
    | (with_reducible refine LimIs.ite ?_ ?_)
    | (with_reducible refine LimIs.bind ?_ (fun _ => ?_))
theorem spec_PartitionValid.fL_eq (l0 : List (S83)) : spec_PartitionValid.fL l0 = (spec_l1In.f (l0.length : Int) 1 6).bind fun t259 => (if t259 = true then (if 0 < (l0.length : Int) then ((spec_IntervalValid.fL ((rd_T83 l0 0).f0) ((rd_T83 l0 0).f1)).bind fun t261 => (if t261 = true then (if ((rd_T83 l0 0).f0).toList = ([] : List UInt8) then (if 0 ≤ (wrap64 ((l0.length : Int) - 1)) then (if (wrap64 ((l0.length : Int) - 1)) < (l0.length : Int) then (spec_PartitionValid.j0L l0 (((rd_T83 l0 (wrap64 ((l0.length : Int) - 1))).f1).toList != ([] : List UInt8))) else (none)) else (none)) else (spec_PartitionValid.j0L l0 true)) else (spec_PartitionValid.j0L l0 true))) else (none)) else (spec_PartitionValid.j0L l0 true)) := by
  refine LimIs.unique (spec_PartitionValid.fL_is l0) ?_
  unfold spec_PartitionValid.f
  repeat' first
    | (with_reducible exact LimIs.const _)
    | (with_reducible exact spec_IntervalValid.fL_is _ _)
    | (with_reducible exact spec_PartitionValid.j0L_is _ _)
    | (with_reducible refine LimIs.ite ?_ ?_)
    | (with_reducible refine LimIs.bind ?_ (fun _ => ?_))
/-! ### spec_PartitionOf -/
noncomputable def spec_PartitionOf.l0L (x0 : List ByteArray) (x4 : List (S83)) (x5 : Int) : Option ((List (S83)) × Bool) := Lim (fun k => spec_PartitionOf.l0 k x0 x4 x5)
theorem spec_PartitionOf.l0L_is (x0 : List ByteArray) (x4 : List (S83)) (x5 : Int) : LimIs (fun k => spec_PartitionOf.l0 k x0 x4 x5) (spec_PartitionOf.l0L x0 x4 x5) := LimIs.of_mono (fun k r h => (spec_PartitionOf.mono_l k) x0 x4 x5 r h)
noncomputable def spec_PartitionOf.fL (l0 : List ByteArray) : Option ((List (S83)) × Bool) := Lim (fun k => spec_PartitionOf.f k l0)
theorem spec_PartitionOf.fL_is (l0 : List ByteArray) : LimIs (fun k => spec_PartitionOf.f k l0) (spec_PartitionOf.fL l0) := LimIs.of_mono (fun k r h => spec_PartitionOf.mono l0 k r h)
theorem spec_PartitionOf.l0L_eq (x0 : List ByteArray) (x4 : List (S83)) (x5 : Int) : spec_PartitionOf.l0L x0 x4 x5 = if x5 < (x0.length : Int) then (if (x4.length : Int) ≤ 6 then (if 0 ≤ x5 then (if 0 ≤ (wrap64 ((x4.length : Int) - 1)) then (if (wrap64 ((x4.length : Int) - 1)) < (x4.length : Int) then ((some (x4.set ((wrap64 ((x4.length : Int) - 1)) : Int).toNat (⟨(rd_T83 x4 (wrap64 ((x4.length : Int) - 1))).f0, rdOf ByteArray.empty x0 x5⟩ : S83) : List (S83))).bind fun y274 => (if y274.length < 4398046511104 then (spec_PartitionOf.l0L x0 (y274 ++ [(⟨rdOf ByteArray.empty x0 x5, (⟨#[]⟩ : ByteArray)⟩ : S83)]) (wrap64 (x5 + 1))) else (none))) else (none)) else (none)) else (none)) else ((spec_PartitionValid.fL x4).bind fun t279 => (if t279 = true then (some (x4, true)) else (some ((([] : List (S83))), false))))) else ((spec_PartitionValid.fL x4).bind fun t283 => (if t283 = true then (some (x4, true)) else (some ((([] : List (S83))), false)))) := by
  refine LimIs.unique (spec_PartitionOf.l0L_is x0 x4 x5) (LimIs.step (f := fun k => if x5 < (x0.length : Int) then (if (x4.length : Int) ≤ 6 then (if 0 ≤ x5 then (if 0 ≤ (wrap64 ((x4.length : Int) - 1)) then (if (wrap64 ((x4.length : Int) - 1)) < (x4.length : Int) then ((some (x4.set ((wrap64 ((x4.length : Int) - 1)) : Int).toNat (⟨(rd_T83 x4 (wrap64 ((x4.length : Int) - 1))).f0, rdOf ByteArray.empty x0 x5⟩ : S83) : List (S83))).bind fun y274 => (if y274.length < 4398046511104 then (spec_PartitionOf.l0 k x0 (y274 ++ [(⟨rdOf ByteArray.empty x0 x5, (⟨#[]⟩ : ByteArray)⟩ : S83)]) (wrap64 (x5 + 1))) else (none))) else (none)) else (none)) else (none)) else ((spec_PartitionValid.f k x4).bind fun t279 => (if t279 = true then (some (x4, true)) else (some ((([] : List (S83))), false))))) else ((spec_PartitionValid.f k x4).bind fun t283 => (if t283 = true then (some (x4, true)) else (some ((([] : List (S83))), false))))) (by simp only [spec_PartitionOf.l0]) (fun k => by simp only [spec_PartitionOf.l0]) ?_)
  repeat' first
    | (with_reducible exact LimIs.const _)
    | (with_reducible exact spec_PartitionOf.l0L_is _ _ _)
    | (with_reducible exact spec_PartitionValid.fL_is _)
    | (with_reducible refine LimIs.ite ?_ ?_)
    | (with_reducible refine LimIs.bind ?_ (fun _ => ?_))
theorem spec_PartitionOf.fL_eq (l0 : List ByteArray) : spec_PartitionOf.fL l0 = spec_PartitionOf.l0L l0 (([(⟨(⟨#[]⟩ : ByteArray), (⟨#[]⟩ : ByteArray)⟩ : S83)] : List (S83))) 0 := by
  refine LimIs.unique (spec_PartitionOf.fL_is l0) ?_
  unfold spec_PartitionOf.f
  repeat' first
    | (with_reducible exact LimIs.const _)
    | (with_reducible exact spec_PartitionOf.l0L_is _ _ _)
    | (with_reducible refine LimIs.ite ?_ ?_)
    | (with_reducible refine LimIs.bind ?_ (fun _ => ?_))
/-! ### spec_l20Bounds -/
noncomputable def spec_l20Bounds.l0L (x1 : Int) (x5 : List ByteArray) (x6 : Int) (x7 : Int) (x1000 : List Int) (x1001 : Int) : Option (List ByteArray × Int) := Lim (fun k => spec_l20Bounds.l0 k x1 x5 x6 x7 x1000 x1001)
theorem spec_l20Bounds.l0L_is (x1 : Int) (x5 : List ByteArray) (x6 : Int) (x7 : Int) (x1000 : List Int) (x1001 : Int) : LimIs (fun k => spec_l20Bounds.l0 k x1 x5 x6 x7 x1000 x1001) (spec_l20Bounds.l0L x1 x5 x6 x7 x1000 x1001) := LimIs.of_mono (fun k r h => (spec_l20Bounds.mono_l k) x1 x5 x6 x7 x1000 x1001 r h)
noncomputable def spec_l20Bounds.fL (s0_0 : List Int) (s0_1 : Int) (a1 : Int) : Option (List ByteArray × Int) := Lim (fun k => spec_l20Bounds.f k s0_0 s0_1 a1)
theorem spec_l20Bounds.fL_is (s0_0 : List Int) (s0_1 : Int) (a1 : Int) : LimIs (fun k => spec_l20Bounds.f k s0_0 s0_1 a1) (spec_l20Bounds.fL s0_0 s0_1 a1) := LimIs.of_mono (fun k r h => spec_l20Bounds.mono s0_0 s0_1 a1 k r h)
theorem spec_l20Bounds.l0L_eq (x1 : Int) (x5 : List ByteArray) (x6 : Int) (x7 : Int) (x1000 : List Int) (x1001 : Int) : spec_l20Bounds.l0L x1 x5 x6 x7 x1000 x1001 = if x7 > 0 then ((spec_KeyAt.fL x6).bind fun t294 => (if x5.length < 8796093022208 then ((spec_l20Rd_pick.fL x1000 x1001 256).bind fun bt298 => ((spec_l20Rd_pick.fL x1000 bt298.2 256).bind fun bt300 => (spec_l20Bounds.l0L x1 (x5 ++ [t294]) (wrap64 ((wrap64 (x6 + 1)) + (wrap64 (bt298.1 * bt300.1)))) (wrap64 (x7 - 1)) x1000 bt300.2))) else (none))) else ((spec_l20Rd_odd.fL x1000 x1001 x1).bind fun bt302 => (if bt302.1 = true then ((some (([(⟨#[97]⟩ : ByteArray), (⟨#[]⟩ : ByteArray), (⟨#[65]⟩ : ByteArray), (⟨#[98]⟩ : ByteArray)] : List ByteArray) : List ByteArray)).bind fun y304 => ((spec_l20Rd_pick.fL x1000 bt302.2 4).bind fun bt307 => (if 0 ≤ bt307.1 then (if bt307.1 < (y304.length : Int) then ((some (([rdOf ByteArray.empty y304 bt307.1, (⟨#[98, 98]⟩ : ByteArray)] : List ByteArray) : List ByteArray)).bind fun y310 => (if x5.length + y310.length < 8796093022208 then (some ((x5 ++ y310), bt307.2)) else (none))) else (none)) else (none)))) else (some (x5, bt302.2)))) := by
  refine LimIs.unique (spec_l20Bounds.l0L_is x1 x5 x6 x7 x1000 x1001) (LimIs.step (f := fun k => if x7 > 0 then ((spec_KeyAt.f k x6).bind fun t294 => (if x5.length < 8796093022208 then ((spec_l20Rd_pick.f k x1000 x1001 256).bind fun bt298 => ((spec_l20Rd_pick.f k x1000 bt298.2 256).bind fun bt300 => (spec_l20Bounds.l0 k x1 (x5 ++ [t294]) (wrap64 ((wrap64 (x6 + 1)) + (wrap64 (bt298.1 * bt300.1)))) (wrap64 (x7 - 1)) x1000 bt300.2))) else (none))) else ((spec_l20Rd_odd.f k x1000 x1001 x1).bind fun bt302 => (if bt302.1 = true then ((some (([(⟨#[97]⟩ : ByteArray), (⟨#[]⟩ : ByteArray), (⟨#[65]⟩ : ByteArray), (⟨#[98]⟩ : ByteArray)] : List ByteArray) : List ByteArray)).bind fun y304 => ((spec_l20Rd_pick.f k x1000 bt302.2 4).bind fun bt307 => (if 0 ≤ bt307.1 then (if bt307.1 < (y304.length : Int) then ((some (([rdOf ByteArray.empty y304 bt307.1, (⟨#[98, 98]⟩ : ByteArray)] : List ByteArray) : List ByteArray)).bind fun y310 => (if x5.length + y310.length < 8796093022208 then (some ((x5 ++ y310), bt307.2)) else (none))) else (none)) else (none)))) else (some (x5, bt302.2))))) (by simp only [spec_l20Bounds.l0]) (fun k => by simp only [spec_l20Bounds.l0]) ?_)
  repeat' first
    | (with_reducible exact LimIs.const _)
    | (with_reducible exact spec_KeyAt.fL_is _)
    | (with_reducible exact spec_l20Bounds.l0L_is _ _ _ _ _ _)
    | (with_reducible exact spec_l20Rd_odd.fL_is _ _ _)
    | (with_reducible exact spec_l20Rd_pick.fL_is _ _ _)
    | (with_reducible refine LimIs.ite ?_ ?_)
    | (with_reducible refine LimIs.bind ?_ (fun _ => ?_))
theorem spec_l20Bounds.fL_eq (s0_0 : List Int) (s0_1 : Int) (a1 : Int) : spec_l20Bounds.fL s0_0 s0_1 a1 = (spec_l20Rd_pick.fL s0_0 s0_1 200).bind fun bt290 => ((spec_l20Rd_pick.fL s0_0 bt290.2 6).bind fun bt292 => (spec_l20Bounds.l0L a1 (([] : List ByteArray)) (wrap64 (1 + bt290.1)) bt292.1 s0_0 bt292.2)) := by
  refine LimIs.unique (spec_l20Bounds.fL_is s0_0 s0_1 a1) ?_
  unfold spec_l20Bounds.f
  repeat' first
    | (with_reducible exact LimIs.const _)
    | (with_reducible exact spec_l20Bounds.l0L_is _ _ _ _ _ _)
    | (with_reducible exact spec_l20Rd_pick.fL_is _ _ _)
    | (with_reducible refine LimIs.ite ?_ ?_)
    | (with_reducible refine LimIs.bind ?_ (fun _ => ?_))
/-! ### spec_l20Parts -/
noncomputable def spec_l20Parts.fL (s0_0 : List Int) (s0_1 : Int) (a1 : Int) : Option ((List (S83)) × Int) := Lim (fun k => spec_l20Parts.f k s0_0 s0_1 a1)
theorem spec_l20Parts.fL_is (s0_0 : List Int) (s0_1 : Int) (a1 : Int) : LimIs (fun k => spec_l20Parts.f k s0_0 s0_1 a1) (spec_l20Parts.fL s0_0 s0_1 a1) := LimIs.of_mono (fun k r h => spec_l20Parts.mono s0_0 s0_1 a1 k r h)
theorem spec_l20Parts.fL_eq (s0_0 : List Int) (s0_1 : Int) (a1 : Int) : spec_l20Parts.fL s0_0 s0_1 a1 = (spec_l20Bounds.fL s0_0 s0_1 0).bind fun bt316 => ((spec_PartitionOf.fL bt316.1).bind fun bt320 => ((spec_l20Rd_odd.fL s0_0 bt316.2 a1).bind fun bt324 => (if bt324.1 = true then ((spec_l20Rd_pick.fL s0_0 bt324.2 5).bind fun bt326 => (if bt326.1 = 0 then (if 1 ≤ (bt320.1.length : Int) then (some ((bt320.1.drop (1 : Int).toNat), bt326.2)) else (none)) else (if bt326.1 = 1 then (if bt320.1.length < 4398046511104 then (some ((bt320.1 ++ [(⟨(⟨#[122, 122]⟩ : ByteArray), (⟨#[]⟩ : ByteArray)⟩ : S83)]), bt326.2)) else (none)) else (if bt326.1 = 2 then (if 0 ≤ (wrap64 ((bt320.1.length : Int) - 1)) then (if (wrap64 ((bt320.1.length : Int) - 1)) < (bt320.1.length : Int) then (some ((bt320.1.set ((wrap64 ((bt320.1.length : Int) - 1)) : Int).toNat (⟨(rd_T83 bt320.1 (wrap64 ((bt320.1.length : Int) - 1))).f0, (⟨#[122, 122, 122, 122]⟩ : ByteArray)⟩ : S83)), bt326.2)) else (none)) else (none)) else (if bt326.1 = 3 then (if 0 < (bt320.1.length : Int) then (some ((bt320.1.set (0 : Int).toNat (⟨(⟨#[97]⟩ : ByteArray), (rd_T83 bt320.1 0).f1⟩ : S83)), bt326.2)) else (none)) else (if bt320.1.length + bt320.1.length < 4398046511104 then (some ((bt320.1 ++ bt320.1), bt326.2)) else (none))))))) else (some (bt320.1, bt324.2))))) := by
  refine LimIs.unique (spec_l20Parts.fL_is s0_0 s0_1 a1) ?_
  unfold spec_l20Parts.f
  repeat' first
    | (with_reducible exact LimIs.const _)
    | (with_reducible exact spec_PartitionOf.fL_is _)
    | (with_reducible exact spec_l20Bounds.fL_is _ _ _)
    | (with_reducible exact spec_l20Rd_odd.fL_is _ _ _)
    | (with_reducible exact spec_l20Rd_pick.fL_is _ _ _)
    | (with_reducible refine LimIs.ite ?_ ?_)
    | (with_reducible refine LimIs.bind ?_ (fun _ => ?_))
/-! ### spec_DrawPartDigests -/
noncomputable def spec_DrawPartDigests.fL (l0 : List Int) : Option ((List (S29)) × (List (S83))) := Lim (fun k => spec_DrawPartDigests.f k l0)
theorem spec_DrawPartDigests.fL_is (l0 : List Int) : LimIs (fun k => spec_DrawPartDigests.f k l0) (spec_DrawPartDigests.fL l0) := LimIs.of_mono (fun k r h => spec_DrawPartDigests.mono l0 k r h)
theorem spec_DrawPartDigests.fL_eq (l0 : List Int) : spec_DrawPartDigests.fL l0 = (spec_l20Open.f l0).bind fun bt339 => ((spec_l20Pairs.fL bt339.1 bt339.2 12).bind fun bt342 => ((spec_l20Parts.fL bt339.1 bt342.2 12).bind fun bt346 => (some (bt342.1, bt346.1)))) := by
  refine LimIs.unique (spec_DrawPartDigests.fL_is l0) ?_
  unfold spec_DrawPartDigests.f
  repeat' first
    | (with_reducible exact LimIs.const _)
    | (with_reducible exact spec_l20Pairs.fL_is _ _ _)
    | (with_reducible exact spec_l20Parts.fL_is _ _ _)
    | (with_reducible refine LimIs.ite ?_ ?_)
    | (with_reducible refine LimIs.bind ?_ (fun _ => ?_))
/-! ### impl_IntervalValid -/
noncomputable def impl_IntervalValid.fL (a0_0 : ByteArray) (a0_1 : ByteArray) : Option (Bool) := Lim (fun k => impl_IntervalValid.f k a0_0 a0_1)
theorem impl_IntervalValid.fL_is (a0_0 : ByteArray) (a0_1 : ByteArray) : LimIs (fun k => impl_IntervalValid.f k a0_0 a0_1) (impl_IntervalValid.fL a0_0 a0_1) := LimIs.of_mono (fun k r h => impl_IntervalValid.mono a0_0 a0_1 k r h)
theorem impl_IntervalValid.fL_eq (a0_0 : ByteArray) (a0_1 : ByteArray) : impl_IntervalValid.fL a0_0 a0_1 = if a0_0.toList = ([] : List UInt8) then (if a0_1.toList = ([] : List UInt8) then (some true) else ((impl_KeyValid.fL a0_1).bind fun t352 => (if t352 = true then ((impl_lowestKey.f a0_0 a0_1).bind fun t353 => (some (Op.bytesLess t353.toList a0_1.toList))) else (some false)))) else ((impl_KeyValid.fL a0_0).bind fun t354 => (if t354 = true then (if a0_1.toList = ([] : List UInt8) then (some true) else ((impl_KeyValid.fL a0_1).bind fun t355 => (if t355 = true then ((impl_lowestKey.f a0_0 a0_1).bind fun t356 => (some (Op.bytesLess t356.toList a0_1.toList))) else (some false)))) else (some false))) := by
  refine LimIs.unique (impl_IntervalValid.fL_is a0_0 a0_1) ?_
  unfold impl_IntervalValid.f
  repeat' first
    | (with_reducible exact LimIs.const _)
    | (with_reducible exact impl_KeyValid.fL_is _)
    | (with_reducible refine LimIs.ite ?_ ?_)
    | (with_reducible refine LimIs.bind ?_ (fun _ => ?_))
/-! ### impl_IntervalJoin -/
noncomputable def impl_IntervalJoin.fL (a0_0 : ByteArray) (a0_1 : ByteArray) (a1_0 : ByteArray) (a1_1 : ByteArray) : Option (ByteArray × ByteArray × Bool) := Lim (fun k => impl_IntervalJoin.f k a0_0 a0_1 a1_0 a1_1)
theorem impl_IntervalJoin.fL_is (a0_0 : ByteArray) (a0_1 : ByteArray) (a1_0 : ByteArray) (a1_1 : ByteArray) : LimIs (fun k => impl_IntervalJoin.f k a0_0 a0_1 a1_0 a1_1) (impl_IntervalJoin.fL a0_0 a0_1 a1_0 a1_1) := LimIs.of_mono (fun k r h => impl_IntervalJoin.mono a0_0 a0_1 a1_0 a1_1 k r h)
theorem impl_IntervalJoin.fL_eq (a0_0 : ByteArray) (a0_1 : ByteArray) (a1_0 : ByteArray) (a1_1 : ByteArray) : impl_IntervalJoin.fL a0_0 a0_1 a1_0 a1_1 = (impl_IntervalValid.fL a0_0 a0_1).bind fun t360 => (if t360 = true then ((impl_IntervalValid.fL a1_0 a1_1).bind fun t361 => (if t361 = true then (if a0_1.toList = ([] : List UInt8) then (some ((⟨#[]⟩ : ByteArray), (⟨#[]⟩ : ByteArray), false)) else (if a0_1.toList = a1_0.toList then (some (a0_0, a1_1, true)) else (some ((⟨#[]⟩ : ByteArray), (⟨#[]⟩ : ByteArray), false)))) else (some ((⟨#[]⟩ : ByteArray), (⟨#[]⟩ : ByteArray), false)))) else (some ((⟨#[]⟩ : ByteArray), (⟨#[]⟩ : ByteArray), false))) := by
  refine LimIs.unique (impl_IntervalJoin.fL_is a0_0 a0_1 a1_0 a1_1) ?_
  unfold impl_IntervalJoin.f
  repeat' first
    | (with_reducible exact LimIs.const _)
    | (with_reducible exact impl_IntervalValid.fL_is _ _)
    | (with_reducible refine LimIs.ite ?_ ?_)
    | (with_reducible refine LimIs.bind ?_ (fun _ => ?_))
/-! ### impl_PartitionValid -/
noncomputable def impl_PartitionValid.j0L (x0 : List (S83)) (x31 : Bool) : Option (Bool) := Lim (fun k => impl_PartitionValid.j0 k x0 x31)
theorem impl_PartitionValid.j0L_is (x0 : List (S83)) (x31 : Bool) : LimIs (fun k => impl_PartitionValid.j0 k x0 x31) (impl_PartitionValid.j0L x0 x31) := LimIs.of_mono (fun k r h => (impl_PartitionValid.mono_l k).1 x0 x31 r h)
noncomputable def impl_PartitionValid.l0L (x0 : List (S83)) (x32 : List (S83)) (x33 : Int) (x34 : Int) : Option (Bool) := Lim (fun k => impl_PartitionValid.l0 k x0 x32 x33 x34)
theorem impl_PartitionValid.l0L_is (x0 : List (S83)) (x32 : List (S83)) (x33 : Int) (x34 : Int) : LimIs (fun k => impl_PartitionValid.l0 k x0 x32 x33 x34) (impl_PartitionValid.l0L x0 x32 x33 x34) := LimIs.of_mono (fun k r h => (impl_PartitionValid.mono_l k).2 x0 x32 x33 x34 r h)
noncomputable def impl_PartitionValid.fL (l0 : List (S83)) : Option (Bool) := Lim (fun k => impl_PartitionValid.f k l0)
theorem impl_PartitionValid.fL_is (l0 : List (S83)) : LimIs (fun k => impl_PartitionValid.f k l0) (impl_PartitionValid.fL l0) := LimIs.of_mono (fun k r h => impl_PartitionValid.mono l0 k r h)
theorem impl_PartitionValid.j0L_eq (x0 : List (S83)) (x31 : Bool) : impl_PartitionValid.j0L x0 x31 = if x31 = true then (some false) else (impl_PartitionValid.l0L x0 x0 (x0.length : Int) 0) := by
  refine LimIs.unique (impl_PartitionValid.j0L_is x0 x31) (LimIs.step (f := fun k => if x31 = true then (some false) else (impl_PartitionValid.l0 k x0 x0 (x0.length : Int) 0)) (by simp only [impl_PartitionValid.j0]) (fun k => by simp only [impl_PartitionValid.j0]) ?_)
  repeat' first
    | (with_reducible exact LimIs.const _)
    | (with_reducible exact impl_PartitionValid.l0L_is _ _ _ _)
    | (with_reducible refine LimIs.ite ?_ ?_)
    | (with_reducible refine LimIs.bind ?_ (fun _ => ?_))
theorem impl_PartitionValid.l0L_eq (x0 : List (S83)) (x32 : List (S83)) (x33 : Int) (x34 : Int) : impl_PartitionValid.l0L x0 x32 x33 x34 = if x34 < x33 then (if 0 ≤ x34 then (if x34 < (x32.length : Int) then ((impl_IntervalValid.fL ((rd_T83 x32 x34).f0) ((rd_T83 x32 x34).f1)).bind fun t366 => (if t366 = true then (if x34 > 0 then (if 0 ≤ (wrap64 (x34 - 1)) then (if (wrap64 (x34 - 1)) < (x0.length : Int) then ((impl_IntervalJoin.fL ((rd_T83 x0 (wrap64 (x34 - 1))).f0) ((rd_T83 x0 (wrap64 (x34 - 1))).f1) ((rd_T83 x32 x34).f0) ((rd_T83 x32 x34).f1)).bind fun bt368 => (if bt368.2.2 = true then (impl_PartitionValid.l0L x0 x32 x33 (wrap64 (x34 + 1))) else (some false))) else (none)) else (none)) else (impl_PartitionValid.l0L x0 x32 x33 (wrap64 (x34 + 1)))) else (some false))) else (none)) else (none)) else (some true) := by
  refine LimIs.unique (impl_PartitionValid.l0L_is x0 x32 x33 x34) (LimIs.step (f := fun k => if x34 < x33 then (if 0 ≤ x34 then (if x34 < (x32.length : Int) then ((impl_IntervalValid.f k ((rd_T83 x32 x34).f0) ((rd_T83 x32 x34).f1)).bind fun t366 => (if t366 = true then (if x34 > 0 then (if 0 ≤ (wrap64 (x34 - 1)) then (if (wrap64 (x34 - 1)) < (x0.length : Int) then ((impl_IntervalJoin.f k ((rd_T83 x0 (wrap64 (x34 - 1))).f0) ((rd_T83 x0 (wrap64 (x34 - 1))).f1) ((rd_T83 x32 x34).f0) ((rd_T83 x32 x34).f1)).bind fun bt368 => (if bt368.2.2 = true then (impl_PartitionValid.l0 k x0 x32 x33 (wrap64 (x34 + 1))) else (some false))) else (none)) else (none)) else (impl_PartitionValid.l0 k x0 x32 x33 (wrap64 (x34 + 1)))) else (some false))) else (none)) else (none)) else (some true)) (by simp only [impl_PartitionValid.l0]) (fun k => by simp only [impl_PartitionValid.l0]) ?_)
  repeat' first
    | (with_reducible exact LimIs.const _)
    | (with_reducible exact impl_IntervalJoin.fL_is _ _ _ _)
    | (with_reducible exact impl_IntervalValid.fL_is _ _)
    | (with_reducible exact impl_PartitionValid.l0L_is _ _ _ _)
    | (with_reducible refine LimIs.ite ?_ ?_)
    | (with_reducible refine LimIs.bind ?_ (fun _ => ?_))
theorem impl_PartitionValid.fL_eq (l0 : List (S83)) : impl_PartitionValid.fL l0 = if (l0.length : Int) < 1 then (impl_PartitionValid.j0L l0 true) else (if (l0.length : Int) > 6 then (impl_PartitionValid.j0L l0 true) else (if 0 < (l0.length : Int) then (if ((rd_T83 l0 0).f0).toList = ([] : List UInt8) then (if 0 ≤ (wrap64 ((l0.length : Int) - 1)) then (if (wrap64 ((l0.length : Int) - 1)) < (l0.length : Int) then (impl_PartitionValid.j0L l0 (((rd_T83 l0 (wrap64 ((l0.length : Int) - 1))).f1).toList != ([] : List UInt8))) else (none)) else (none)) else (impl_PartitionValid.j0L l0 true)) else (none))) := by
  refine LimIs.unique (impl_PartitionValid.fL_is l0) ?_
  unfold impl_PartitionValid.f
  repeat' first
    | (with_reducible exact LimIs.const _)
    | (with_reducible exact impl_PartitionValid.j0L_is _ _)
    | (with_reducible refine LimIs.ite ?_ ?_)
    | (with_reducible refine LimIs.bind ?_ (fun _ => ?_))
/-! ### impl_Pair_string -/
noncomputable def impl_Pair_string.l0L (x0 : List (S29)) (x1 : ByteArray) (x8 : Int) (x9 : Int) (x10 : Int) : Option (Int × Bool) := Lim (fun k => impl_Pair_string.l0 k x0 x1 x8 x9 x10)
theorem impl_Pair_string.l0L_is (x0 : List (S29)) (x1 : ByteArray) (x8 : Int) (x9 : Int) (x10 : Int) : LimIs (fun k => impl_Pair_string.l0 k x0 x1 x8 x9 x10) (impl_Pair_string.l0L x0 x1 x8 x9 x10) := LimIs.of_mono (fun k r h => (impl_Pair_string.mono_l k) x0 x1 x8 x9 x10 r h)
noncomputable def impl_Pair_string.fL (l0 : List (S29)) (a1 : ByteArray) (a2 : Unit) : Option (Int × Bool) := Lim (fun k => impl_Pair_string.f k l0 a1 a2)
theorem impl_Pair_string.fL_is (l0 : List (S29)) (a1 : ByteArray) (a2 : Unit) : LimIs (fun k => impl_Pair_string.f k l0 a1 a2) (impl_Pair_string.fL l0 a1 a2) := LimIs.of_mono (fun k r h => impl_Pair_string.mono l0 a1 a2 k r h)
theorem impl_Pair_string.l0L_eq (x0 : List (S29)) (x1 : ByteArray) (x8 : Int) (x9 : Int) (x10 : Int) : impl_Pair_string.l0L x0 x1 x8 x9 x10 = if x9 < x10 then (if 0 ≤ (wrap64 ((IntKind.u64.wrap (wrap64 (x9 + x10))) / 2)) then (if (wrap64 ((IntKind.u64.wrap (wrap64 (x9 + x10))) / 2)) < (x0.length : Int) then ((impl_pairPlace_1.f ((rd_T29 x0 (wrap64 ((IntKind.u64.wrap (wrap64 (x9 + x10))) / 2))).f0) ((rd_T29 x0 (wrap64 ((IntKind.u64.wrap (wrap64 (x9 + x10))) / 2))).f1) x1).bind fun t380 => (if t380 < 0 then (impl_Pair_string.l0L x0 x1 x8 (wrap64 ((wrap64 ((IntKind.u64.wrap (wrap64 (x9 + x10))) / 2)) + 1)) x10) else (impl_Pair_string.l0L x0 x1 x8 x9 (wrap64 ((IntKind.u64.wrap (wrap64 (x9 + x10))) / 2))))) else (none)) else (none)) else (if x9 < x8 then (if 0 ≤ x9 then (if x9 < (x0.length : Int) then ((impl_pairPlace_1.f ((rd_T29 x0 x9).f0) ((rd_T29 x0 x9).f1) x1).bind fun t382 => (some (x9, (t382 == 0)))) else (none)) else (none)) else (some (x9, false))) := by
  refine LimIs.unique (impl_Pair_string.l0L_is x0 x1 x8 x9 x10) (LimIs.step (f := fun k => if x9 < x10 then (if 0 ≤ (wrap64 ((IntKind.u64.wrap (wrap64 (x9 + x10))) / 2)) then (if (wrap64 ((IntKind.u64.wrap (wrap64 (x9 + x10))) / 2)) < (x0.length : Int) then ((impl_pairPlace_1.f ((rd_T29 x0 (wrap64 ((IntKind.u64.wrap (wrap64 (x9 + x10))) / 2))).f0) ((rd_T29 x0 (wrap64 ((IntKind.u64.wrap (wrap64 (x9 + x10))) / 2))).f1) x1).bind fun t380 => (if t380 < 0 then (impl_Pair_string.l0 k x0 x1 x8 (wrap64 ((wrap64 ((IntKind.u64.wrap (wrap64 (x9 + x10))) / 2)) + 1)) x10) else (impl_Pair_string.l0 k x0 x1 x8 x9 (wrap64 ((IntKind.u64.wrap (wrap64 (x9 + x10))) / 2))))) else (none)) else (none)) else (if x9 < x8 then (if 0 ≤ x9 then (if x9 < (x0.length : Int) then ((impl_pairPlace_1.f ((rd_T29 x0 x9).f0) ((rd_T29 x0 x9).f1) x1).bind fun t382 => (some (x9, (t382 == 0)))) else (none)) else (none)) else (some (x9, false)))) (by simp only [impl_Pair_string.l0]) (fun k => by simp only [impl_Pair_string.l0]) ?_)
  repeat' first
    | (with_reducible exact LimIs.const _)
    | (with_reducible exact impl_Pair_string.l0L_is _ _ _ _ _)
    | (with_reducible refine LimIs.ite ?_ ?_)
    | (with_reducible refine LimIs.bind ?_ (fun _ => ?_))
theorem impl_Pair_string.fL_eq (l0 : List (S29)) (a1 : ByteArray) (a2 : Unit) : impl_Pair_string.fL l0 a1 a2 = impl_Pair_string.l0L l0 a1 (l0.length : Int) 0 (l0.length : Int) := by
  refine LimIs.unique (impl_Pair_string.fL_is l0 a1 a2) ?_
  unfold impl_Pair_string.f
  repeat' first
    | (with_reducible exact LimIs.const _)
    | (with_reducible exact impl_Pair_string.l0L_is _ _ _ _ _)
    | (with_reducible refine LimIs.ite ?_ ?_)
    | (with_reducible refine LimIs.bind ?_ (fun _ => ?_))
/-! ### impl_pairPlace -/
noncomputable def impl_pairPlace.fL (l0 : List (S29)) (a1 : ByteArray) : Option (Int × Bool) := Lim (fun k => impl_pairPlace.f k l0 a1)
theorem impl_pairPlace.fL_is (l0 : List (S29)) (a1 : ByteArray) : LimIs (fun k => impl_pairPlace.f k l0 a1) (impl_pairPlace.fL l0 a1) := LimIs.of_mono (fun k r h => impl_pairPlace.mono l0 a1 k r h)
theorem impl_pairPlace.fL_eq (l0 : List (S29)) (a1 : ByteArray) : impl_pairPlace.fL l0 a1 = (impl_Pair_string.fL l0 a1 ()).bind fun bt383 => (some (bt383.1, bt383.2)) := by
  refine LimIs.unique (impl_pairPlace.fL_is l0 a1) ?_
  unfold impl_pairPlace.f
  repeat' first
    | (with_reducible exact LimIs.const _)
    | (with_reducible exact impl_Pair_string.fL_is _ _ _)
    | (with_reducible refine LimIs.ite ?_ ?_)
    | (with_reducible refine LimIs.bind ?_ (fun _ => ?_))
/-! ### impl_PairsIn -/
noncomputable def impl_PairsIn.j0L (x0 : List (S29)) (x15 : Bool) (x386000 : ByteArray) (x386001 : ByteArray) : Option ((List (S29))) := Lim (fun k => impl_PairsIn.j0 k x0 x15 x386000 x386001)
theorem impl_PairsIn.j0L_is (x0 : List (S29)) (x15 : Bool) (x386000 : ByteArray) (x386001 : ByteArray) : LimIs (fun k => impl_PairsIn.j0 k x0 x15 x386000 x386001) (impl_PairsIn.j0L x0 x15 x386000 x386001) := LimIs.of_mono (fun k r h => (impl_PairsIn.mono_l k) x0 x15 x386000 x386001 r h)
noncomputable def impl_PairsIn.fL (l0 : List (S29)) (a1_0 : ByteArray) (a1_1 : ByteArray) : Option ((List (S29))) := Lim (fun k => impl_PairsIn.f k l0 a1_0 a1_1)
theorem impl_PairsIn.fL_is (l0 : List (S29)) (a1_0 : ByteArray) (a1_1 : ByteArray) : LimIs (fun k => impl_PairsIn.f k l0 a1_0 a1_1) (impl_PairsIn.fL l0 a1_0 a1_1) := LimIs.of_mono (fun k r h => impl_PairsIn.mono l0 a1_0 a1_1 k r h)
theorem impl_PairsIn.j0L_eq (x0 : List (S29)) (x15 : Bool) (x386000 : ByteArray) (x386001 : ByteArray) : impl_PairsIn.j0L x0 x15 x386000 x386001 = if x15 = true then (some ([] : List (S29))) else ((impl_pairPlace.fL x0 x386000).bind fun bt388 => (if x386001.toList = ([] : List UInt8) then (if 0 ≤ bt388.1 then (if bt388.1 ≤ (x0.length : Int) then (if (x0.length : Int) ≤ (x0.length : Int) then ((impl_Pair.f ((x0.take ((x0.length : Int) : Int).toNat).drop (bt388.1 : Int).toNat)).bind fun t394 => (some t394)) else (none)) else (none)) else (none)) else ((impl_pairPlace.fL x0 x386001).bind fun bt397 => (if 0 ≤ bt388.1 then (if bt388.1 ≤ bt397.1 then (if bt397.1 ≤ (x0.length : Int) then ((impl_Pair.f ((x0.take (bt397.1 : Int).toNat).drop (bt388.1 : Int).toNat)).bind fun t403 => (some t403)) else (none)) else (none)) else (none))))) := by
  refine LimIs.unique (impl_PairsIn.j0L_is x0 x15 x386000 x386001) (LimIs.step (f := fun k => if x15 = true then (some ([] : List (S29))) else ((impl_pairPlace.f k x0 x386000).bind fun bt388 => (if x386001.toList = ([] : List UInt8) then (if 0 ≤ bt388.1 then (if bt388.1 ≤ (x0.length : Int) then (if (x0.length : Int) ≤ (x0.length : Int) then ((impl_Pair.f ((x0.take ((x0.length : Int) : Int).toNat).drop (bt388.1 : Int).toNat)).bind fun t394 => (some t394)) else (none)) else (none)) else (none)) else ((impl_pairPlace.f k x0 x386001).bind fun bt397 => (if 0 ≤ bt388.1 then (if bt388.1 ≤ bt397.1 then (if bt397.1 ≤ (x0.length : Int) then ((impl_Pair.f ((x0.take (bt397.1 : Int).toNat).drop (bt388.1 : Int).toNat)).bind fun t403 => (some t403)) else (none)) else (none)) else (none)))))) (by simp only [impl_PairsIn.j0]) (fun k => by simp only [impl_PairsIn.j0]) ?_)
  repeat' first
    | (with_reducible exact LimIs.const _)
    | (with_reducible exact impl_pairPlace.fL_is _ _)
    | (with_reducible refine LimIs.ite ?_ ?_)
    | (with_reducible refine LimIs.bind ?_ (fun _ => ?_))
theorem impl_PairsIn.fL_eq (l0 : List (S29)) (a1_0 : ByteArray) (a1_1 : ByteArray) : impl_PairsIn.fL l0 a1_0 a1_1 = (impl_PairsValid.fL l0).bind fun t386 => (if t386 = true then ((impl_IntervalValid.fL a1_0 a1_1).bind fun t387 => (impl_PairsIn.j0L l0 (!t387) a1_0 a1_1)) else (impl_PairsIn.j0L l0 true a1_0 a1_1)) := by
  refine LimIs.unique (impl_PairsIn.fL_is l0 a1_0 a1_1) ?_
  unfold impl_PairsIn.f
  repeat' first
    | (with_reducible exact LimIs.const _)
    | (with_reducible exact impl_IntervalValid.fL_is _ _)
    | (with_reducible exact impl_PairsIn.j0L_is _ _ _ _)
    | (with_reducible exact impl_PairsValid.fL_is _)
    | (with_reducible refine LimIs.ite ?_ ?_)
    | (with_reducible refine LimIs.bind ?_ (fun _ => ?_))
/-! ### impl_PartDigests -/
noncomputable def impl_PartDigests.j0L (x0 : List (S29)) (x1 : List (S83)) (x15 : Bool) : Option (List Int) := Lim (fun k => impl_PartDigests.j0 k x0 x1 x15)
theorem impl_PartDigests.j0L_is (x0 : List (S29)) (x1 : List (S83)) (x15 : Bool) : LimIs (fun k => impl_PartDigests.j0 k x0 x1 x15) (impl_PartDigests.j0L x0 x1 x15) := LimIs.of_mono (fun k r h => (impl_PartDigests.mono_l k).1 x0 x1 x15 r h)
noncomputable def impl_PartDigests.l0L (x0 : List (S29)) (x5 : List Int) (x16 : List (S83)) (x17 : Int) (x18 : Int) : Option (List Int) := Lim (fun k => impl_PartDigests.l0 k x0 x5 x16 x17 x18)
theorem impl_PartDigests.l0L_is (x0 : List (S29)) (x5 : List Int) (x16 : List (S83)) (x17 : Int) (x18 : Int) : LimIs (fun k => impl_PartDigests.l0 k x0 x5 x16 x17 x18) (impl_PartDigests.l0L x0 x5 x16 x17 x18) := LimIs.of_mono (fun k r h => (impl_PartDigests.mono_l k).2 x0 x5 x16 x17 x18 r h)
noncomputable def impl_PartDigests.fL (l0 : List (S29)) (l1 : List (S83)) : Option (List Int) := Lim (fun k => impl_PartDigests.f k l0 l1)
theorem impl_PartDigests.fL_is (l0 : List (S29)) (l1 : List (S83)) : LimIs (fun k => impl_PartDigests.f k l0 l1) (impl_PartDigests.fL l0 l1) := LimIs.of_mono (fun k r h => impl_PartDigests.mono l0 l1 k r h)
theorem impl_PartDigests.j0L_eq (x0 : List (S29)) (x1 : List (S83)) (x15 : Bool) : impl_PartDigests.j0L x0 x1 x15 = if x15 = true then (some ([] : List Int)) else (impl_PartDigests.l0L x0 ([] : List Int) x1 (x1.length : Int) 0) := by
  refine LimIs.unique (impl_PartDigests.j0L_is x0 x1 x15) (LimIs.step (f := fun k => if x15 = true then (some ([] : List Int)) else (impl_PartDigests.l0 k x0 ([] : List Int) x1 (x1.length : Int) 0)) (by simp only [impl_PartDigests.j0]) (fun k => by simp only [impl_PartDigests.j0]) ?_)
  repeat' first
    | (with_reducible exact LimIs.const _)
    | (with_reducible exact impl_PartDigests.l0L_is _ _ _ _ _)
    | (with_reducible refine LimIs.ite ?_ ?_)
    | (with_reducible refine LimIs.bind ?_ (fun _ => ?_))
theorem impl_PartDigests.l0L_eq (x0 : List (S29)) (x5 : List Int) (x16 : List (S83)) (x17 : Int) (x18 : Int) : impl_PartDigests.l0L x0 x5 x16 x17 x18 = if x18 < x17 then (if 0 ≤ x18 then (if x18 < (x16.length : Int) then ((impl_PairsIn.fL x0 ((rd_T83 x16 x18).f0) ((rd_T83 x16 x18).f1)).bind fun t410 => ((impl_PairsDigest.fL t410).bind fun t413 => (if x5.length < 17592186044416 then (impl_PartDigests.l0L x0 (x5 ++ [t413]) x16 x17 (wrap64 (x18 + 1))) else (none)))) else (none)) else (none)) else (some x5) := by
  refine LimIs.unique (impl_PartDigests.l0L_is x0 x5 x16 x17 x18) (LimIs.step (f := fun k => if x18 < x17 then (if 0 ≤ x18 then (if x18 < (x16.length : Int) then ((impl_PairsIn.f k x0 ((rd_T83 x16 x18).f0) ((rd_T83 x16 x18).f1)).bind fun t410 => ((impl_PairsDigest.f k t410).bind fun t413 => (if x5.length < 17592186044416 then (impl_PartDigests.l0 k x0 (x5 ++ [t413]) x16 x17 (wrap64 (x18 + 1))) else (none)))) else (none)) else (none)) else (some x5)) (by simp only [impl_PartDigests.l0]) (fun k => by simp only [impl_PartDigests.l0]) ?_)
  repeat' first
    | (with_reducible exact LimIs.const _)
    | (with_reducible exact impl_PairsDigest.fL_is _)
    | (with_reducible exact impl_PairsIn.fL_is _ _ _)
    | (with_reducible exact impl_PartDigests.l0L_is _ _ _ _ _)
    | (with_reducible refine LimIs.ite ?_ ?_)
    | (with_reducible refine LimIs.bind ?_ (fun _ => ?_))
theorem impl_PartDigests.fL_eq (l0 : List (S29)) (l1 : List (S83)) : impl_PartDigests.fL l0 l1 = (impl_PairsValid.fL l0).bind fun t406 => (if t406 = true then ((impl_PartitionValid.fL l1).bind fun t407 => (impl_PartDigests.j0L l0 l1 (!t407))) else (impl_PartDigests.j0L l0 l1 true)) := by
  refine LimIs.unique (impl_PartDigests.fL_is l0 l1) ?_
  unfold impl_PartDigests.f
  repeat' first
    | (with_reducible exact LimIs.const _)
    | (with_reducible exact impl_PairsValid.fL_is _)
    | (with_reducible exact impl_PartDigests.j0L_is _ _ _)
    | (with_reducible exact impl_PartitionValid.fL_is _)
    | (with_reducible refine LimIs.ite ?_ ?_)
    | (with_reducible refine LimIs.bind ?_ (fun _ => ?_))
/-! ### laws_sameInts -/
noncomputable def laws_sameInts.l0L (x0 : List Int) (x1 : List Int) (x5 : Int) : Option (Bool) := Lim (fun k => laws_sameInts.l0 k x0 x1 x5)
theorem laws_sameInts.l0L_is (x0 : List Int) (x1 : List Int) (x5 : Int) : LimIs (fun k => laws_sameInts.l0 k x0 x1 x5) (laws_sameInts.l0L x0 x1 x5) := LimIs.of_mono (fun k r h => (laws_sameInts.mono_l k) x0 x1 x5 r h)
noncomputable def laws_sameInts.fL (l0 : List Int) (l1 : List Int) : Option (Bool) := Lim (fun k => laws_sameInts.f k l0 l1)
theorem laws_sameInts.fL_is (l0 : List Int) (l1 : List Int) : LimIs (fun k => laws_sameInts.f k l0 l1) (laws_sameInts.fL l0 l1) := LimIs.of_mono (fun k r h => laws_sameInts.mono l0 l1 k r h)
theorem laws_sameInts.l0L_eq (x0 : List Int) (x1 : List Int) (x5 : Int) : laws_sameInts.l0L x0 x1 x5 = if x5 < (x0.length : Int) then (if 0 ≤ x5 then (if x5 < (x1.length : Int) then (if (rd x0 x5) = (rd x1 x5) then (laws_sameInts.l0L x0 x1 (wrap64 (x5 + 1))) else (some false)) else (none)) else (none)) else (some true) := by
  refine LimIs.unique (laws_sameInts.l0L_is x0 x1 x5) (LimIs.step (f := fun k => if x5 < (x0.length : Int) then (if 0 ≤ x5 then (if x5 < (x1.length : Int) then (if (rd x0 x5) = (rd x1 x5) then (laws_sameInts.l0 k x0 x1 (wrap64 (x5 + 1))) else (some false)) else (none)) else (none)) else (some true)) (by simp only [laws_sameInts.l0]) (fun k => by simp only [laws_sameInts.l0]) ?_)
  repeat' first
    | (with_reducible exact LimIs.const _)
    | (with_reducible exact laws_sameInts.l0L_is _ _ _)
    | (with_reducible refine LimIs.ite ?_ ?_)
    | (with_reducible refine LimIs.bind ?_ (fun _ => ?_))
theorem laws_sameInts.fL_eq (l0 : List Int) (l1 : List Int) : laws_sameInts.fL l0 l1 = if (l0.length : Int) = (l1.length : Int) then (laws_sameInts.l0L l0 l1 0) else (some false) := by
  refine LimIs.unique (laws_sameInts.fL_is l0 l1) ?_
  unfold laws_sameInts.f
  repeat' first
    | (with_reducible exact LimIs.const _)
    | (with_reducible exact laws_sameInts.l0L_is _ _ _)
    | (with_reducible refine LimIs.ite ?_ ?_)
    | (with_reducible refine LimIs.bind ?_ (fun _ => ?_))
/-! ### spec_KeyRank -/
noncomputable def spec_KeyRank.l0L (x0 : ByteArray) (x3 : Int) (x4 : Int) : Option (Int) := Lim (fun k => spec_KeyRank.l0 k x0 x3 x4)
theorem spec_KeyRank.l0L_is (x0 : ByteArray) (x3 : Int) (x4 : Int) : LimIs (fun k => spec_KeyRank.l0 k x0 x3 x4) (spec_KeyRank.l0L x0 x3 x4) := LimIs.of_mono (fun k r h => (spec_KeyRank.mono_l k) x0 x3 x4 r h)
noncomputable def spec_KeyRank.fL (a0 : ByteArray) : Option (Int) := Lim (fun k => spec_KeyRank.f k a0)
theorem spec_KeyRank.fL_is (a0 : ByteArray) : LimIs (fun k => spec_KeyRank.f k a0) (spec_KeyRank.fL a0) := LimIs.of_mono (fun k r h => spec_KeyRank.mono a0 k r h)
theorem spec_KeyRank.l0L_eq (x0 : ByteArray) (x3 : Int) (x4 : Int) : spec_KeyRank.l0L x0 x3 x4 = if x4 < (x0.size : Int) then (if 0 ≤ x4 then ((spec_l1Weight.f x4).bind fun t420 => (spec_KeyRank.l0L x0 (wrap64 ((wrap64 (x3 + 1)) + (wrap64 ((((bt x0 x4) - 97) % 256) * t420)))) (wrap64 (x4 + 1)))) else (none)) else (some x3) := by
  refine LimIs.unique (spec_KeyRank.l0L_is x0 x3 x4) (LimIs.step (f := fun k => if x4 < (x0.size : Int) then (if 0 ≤ x4 then ((spec_l1Weight.f x4).bind fun t420 => (spec_KeyRank.l0 k x0 (wrap64 ((wrap64 (x3 + 1)) + (wrap64 ((((bt x0 x4) - 97) % 256) * t420)))) (wrap64 (x4 + 1)))) else (none)) else (some x3)) (by simp only [spec_KeyRank.l0]) (fun k => by simp only [spec_KeyRank.l0]) ?_)
  repeat' first
    | (with_reducible exact LimIs.const _)
    | (with_reducible exact spec_KeyRank.l0L_is _ _ _)
    | (with_reducible refine LimIs.ite ?_ ?_)
    | (with_reducible refine LimIs.bind ?_ (fun _ => ?_))
theorem spec_KeyRank.fL_eq (a0 : ByteArray) : spec_KeyRank.fL a0 = (spec_KeyValid.fL a0).bind fun t419 => (if t419 = true then (spec_KeyRank.l0L a0 (-1) 0) else (some (-1))) := by
  refine LimIs.unique (spec_KeyRank.fL_is a0) ?_
  unfold spec_KeyRank.f
  repeat' first
    | (with_reducible exact LimIs.const _)
    | (with_reducible exact spec_KeyRank.l0L_is _ _ _)
    | (with_reducible exact spec_KeyValid.fL_is _)
    | (with_reducible refine LimIs.ite ?_ ?_)
    | (with_reducible refine LimIs.bind ?_ (fun _ => ?_))
/-! ### spec_PairDigest -/
noncomputable def spec_PairDigest.fL (a0_0 : ByteArray) (a0_1 : Int) : Option (Int) := Lim (fun k => spec_PairDigest.f k a0_0 a0_1)
theorem spec_PairDigest.fL_is (a0_0 : ByteArray) (a0_1 : Int) : LimIs (fun k => spec_PairDigest.f k a0_0 a0_1) (spec_PairDigest.fL a0_0 a0_1) := LimIs.of_mono (fun k r h => spec_PairDigest.mono a0_0 a0_1 k r h)
theorem spec_PairDigest.fL_eq (a0_0 : ByteArray) (a0_1 : Int) : spec_PairDigest.fL a0_0 a0_1 = (spec_KeyValid.fL a0_0).bind fun t422 => (if t422 = true then ((spec_l1In.f a0_1 0 999).bind fun t423 => (if t423 = true then ((spec_KeyRank.fL a0_0).bind fun t424 => (some (Int.tmod (wrap64 ((wrap64 ((wrap64 (1009 * t424)) + (wrap64 (7 * a0_1)))) + 3)) 99991))) else (some (-1)))) else (some (-1))) := by
  refine LimIs.unique (spec_PairDigest.fL_is a0_0 a0_1) ?_
  unfold spec_PairDigest.f
  repeat' first
    | (with_reducible exact LimIs.const _)
    | (with_reducible exact spec_KeyRank.fL_is _)
    | (with_reducible exact spec_KeyValid.fL_is _)
    | (with_reducible refine LimIs.ite ?_ ?_)
    | (with_reducible refine LimIs.bind ?_ (fun _ => ?_))
/-! ### spec_PairsDigest -/
noncomputable def spec_PairsDigest.l0L (x0 : List (S29)) (x3 : Int) (x4 : Int) : Option (Int) := Lim (fun k => spec_PairsDigest.l0 k x0 x3 x4)
theorem spec_PairsDigest.l0L_is (x0 : List (S29)) (x3 : Int) (x4 : Int) : LimIs (fun k => spec_PairsDigest.l0 k x0 x3 x4) (spec_PairsDigest.l0L x0 x3 x4) := LimIs.of_mono (fun k r h => (spec_PairsDigest.mono_l k) x0 x3 x4 r h)
noncomputable def spec_PairsDigest.fL (l0 : List (S29)) : Option (Int) := Lim (fun k => spec_PairsDigest.f k l0)
theorem spec_PairsDigest.fL_is (l0 : List (S29)) : LimIs (fun k => spec_PairsDigest.f k l0) (spec_PairsDigest.fL l0) := LimIs.of_mono (fun k r h => spec_PairsDigest.mono l0 k r h)
theorem spec_PairsDigest.l0L_eq (x0 : List (S29)) (x3 : Int) (x4 : Int) : spec_PairsDigest.l0L x0 x3 x4 = if x4 < (x0.length : Int) then (if 0 ≤ x4 then ((spec_PairDigest.fL ((rd_T29 x0 x4).f0) ((rd_T29 x0 x4).f1)).bind fun t427 => (spec_PairsDigest.l0L x0 (Int.tmod (wrap64 (x3 + t427)) 99991) (wrap64 (x4 + 1)))) else (none)) else (some x3) := by
  refine LimIs.unique (spec_PairsDigest.l0L_is x0 x3 x4) (LimIs.step (f := fun k => if x4 < (x0.length : Int) then (if 0 ≤ x4 then ((spec_PairDigest.f k ((rd_T29 x0 x4).f0) ((rd_T29 x0 x4).f1)).bind fun t427 => (spec_PairsDigest.l0 k x0 (Int.tmod (wrap64 (x3 + t427)) 99991) (wrap64 (x4 + 1)))) else (none)) else (some x3)) (by simp only [spec_PairsDigest.l0]) (fun k => by simp only [spec_PairsDigest.l0]) ?_)
  repeat' first
    | (with_reducible exact LimIs.const _)
    | (with_reducible exact spec_PairDigest.fL_is _ _)
    | (with_reducible exact spec_PairsDigest.l0L_is _ _ _)
    | (with_reducible refine LimIs.ite ?_ ?_)
    | (with_reducible refine LimIs.bind ?_ (fun _ => ?_))
theorem spec_PairsDigest.fL_eq (l0 : List (S29)) : spec_PairsDigest.fL l0 = (spec_PairsValid.fL l0).bind fun t425 => (if t425 = true then (spec_PairsDigest.l0L l0 0 0) else (some (-1))) := by
  refine LimIs.unique (spec_PairsDigest.fL_is l0) ?_
  unfold spec_PairsDigest.f
  repeat' first
    | (with_reducible exact LimIs.const _)
    | (with_reducible exact spec_PairsDigest.l0L_is _ _ _)
    | (with_reducible exact spec_PairsValid.fL_is _)
    | (with_reducible refine LimIs.ite ?_ ?_)
    | (with_reducible refine LimIs.bind ?_ (fun _ => ?_))
/-! ### spec_IntervalHas -/
noncomputable def spec_IntervalHas.fL (a0_0 : ByteArray) (a0_1 : ByteArray) (a1 : ByteArray) : Option (Bool) := Lim (fun k => spec_IntervalHas.f k a0_0 a0_1 a1)
theorem spec_IntervalHas.fL_is (a0_0 : ByteArray) (a0_1 : ByteArray) (a1 : ByteArray) : LimIs (fun k => spec_IntervalHas.f k a0_0 a0_1 a1) (spec_IntervalHas.fL a0_0 a0_1 a1) := LimIs.of_mono (fun k r h => spec_IntervalHas.mono a0_0 a0_1 a1 k r h)
theorem spec_IntervalHas.fL_eq (a0_0 : ByteArray) (a0_1 : ByteArray) (a1 : ByteArray) : spec_IntervalHas.fL a0_0 a0_1 a1 = (spec_IntervalValid.fL a0_0 a0_1).bind fun t429 => (if t429 = true then ((spec_KeyValid.fL a1).bind fun t430 => (if t430 = true then (if ((Op.bytesLess a1.toList a0_0.toList) = true) then (some false) else (if a0_1.toList = ([] : List UInt8) then (some true) else (some (Op.bytesLess a1.toList a0_1.toList)))) else (some false))) else (some false)) := by
  refine LimIs.unique (spec_IntervalHas.fL_is a0_0 a0_1 a1) ?_
  unfold spec_IntervalHas.f
  repeat' first
    | (with_reducible exact LimIs.const _)
    | (with_reducible exact spec_IntervalValid.fL_is _ _)
    | (with_reducible exact spec_KeyValid.fL_is _)
    | (with_reducible refine LimIs.ite ?_ ?_)
    | (with_reducible refine LimIs.bind ?_ (fun _ => ?_))
/-! ### spec_PairScan -/
noncomputable def spec_PairScan.j0L (x0 : List (S29)) (x2 : Int) (x7 : List (S29)) (x22 : Bool) (x432000 : ByteArray) (x432001 : ByteArray) : Option ((List (S29))) := Lim (fun k => spec_PairScan.j0 k x0 x2 x7 x22 x432000 x432001)
theorem spec_PairScan.j0L_is (x0 : List (S29)) (x2 : Int) (x7 : List (S29)) (x22 : Bool) (x432000 : ByteArray) (x432001 : ByteArray) : LimIs (fun k => spec_PairScan.j0 k x0 x2 x7 x22 x432000 x432001) (spec_PairScan.j0L x0 x2 x7 x22 x432000 x432001) := LimIs.of_mono (fun k r h => (spec_PairScan.mono_l k).1 x0 x2 x7 x22 x432000 x432001 r h)
noncomputable def spec_PairScan.l0L (x0 : List (S29)) (x2 : Int) (x7 : List (S29)) (x8 : Int) (x432000 : ByteArray) (x432001 : ByteArray) : Option ((List (S29))) := Lim (fun k => spec_PairScan.l0 k x0 x2 x7 x8 x432000 x432001)
theorem spec_PairScan.l0L_is (x0 : List (S29)) (x2 : Int) (x7 : List (S29)) (x8 : Int) (x432000 : ByteArray) (x432001 : ByteArray) : LimIs (fun k => spec_PairScan.l0 k x0 x2 x7 x8 x432000 x432001) (spec_PairScan.l0L x0 x2 x7 x8 x432000 x432001) := LimIs.of_mono (fun k r h => (spec_PairScan.mono_l k).2.1 x0 x2 x7 x8 x432000 x432001 r h)
noncomputable def spec_PairScan.j2L (x0 : List (S29)) (x2 : Int) (x7 : List (S29)) (x8 : Int) (x33 : Bool) (x432000 : ByteArray) (x432001 : ByteArray) : Option ((List (S29))) := Lim (fun k => spec_PairScan.j2 k x0 x2 x7 x8 x33 x432000 x432001)
theorem spec_PairScan.j2L_is (x0 : List (S29)) (x2 : Int) (x7 : List (S29)) (x8 : Int) (x33 : Bool) (x432000 : ByteArray) (x432001 : ByteArray) : LimIs (fun k => spec_PairScan.j2 k x0 x2 x7 x8 x33 x432000 x432001) (spec_PairScan.j2L x0 x2 x7 x8 x33 x432000 x432001) := LimIs.of_mono (fun k r h => (spec_PairScan.mono_l k).2.2 x0 x2 x7 x8 x33 x432000 x432001 r h)
noncomputable def spec_PairScan.fL (l0 : List (S29)) (a1_0 : ByteArray) (a1_1 : ByteArray) (a2 : Int) : Option ((List (S29))) := Lim (fun k => spec_PairScan.f k l0 a1_0 a1_1 a2)
theorem spec_PairScan.fL_is (l0 : List (S29)) (a1_0 : ByteArray) (a1_1 : ByteArray) (a2 : Int) : LimIs (fun k => spec_PairScan.f k l0 a1_0 a1_1 a2) (spec_PairScan.fL l0 a1_0 a1_1 a2) := LimIs.of_mono (fun k r h => spec_PairScan.mono l0 a1_0 a1_1 a2 k r h)
theorem spec_PairScan.j0L_eq (x0 : List (S29)) (x2 : Int) (x7 : List (S29)) (x22 : Bool) (x432000 : ByteArray) (x432001 : ByteArray) : spec_PairScan.j0L x0 x2 x7 x22 x432000 x432001 = if x22 = true then (some x7) else (spec_PairScan.l0L x0 x2 x7 0 x432000 x432001) := by
  refine LimIs.unique (spec_PairScan.j0L_is x0 x2 x7 x22 x432000 x432001) (LimIs.step (f := fun k => if x22 = true then (some x7) else (spec_PairScan.l0 k x0 x2 x7 0 x432000 x432001)) (by simp only [spec_PairScan.j0]) (fun k => by simp only [spec_PairScan.j0]) ?_)
  repeat' first
    | (with_reducible exact LimIs.const _)
    | (with_reducible exact spec_PairScan.l0L_is _ _ _ _ _ _)
    | (with_reducible refine LimIs.ite ?_ ?_)
    | (with_reducible refine LimIs.bind ?_ (fun _ => ?_))
theorem spec_PairScan.l0L_eq (x0 : List (S29)) (x2 : Int) (x7 : List (S29)) (x8 : Int) (x432000 : ByteArray) (x432001 : ByteArray) : spec_PairScan.l0L x0 x2 x7 x8 x432000 x432001 = if x8 < (x0.length : Int) then (spec_PairScan.j2L x0 x2 x7 x8 (decide ((x7.length : Int) < x2)) x432000 x432001) else (spec_PairScan.j2L x0 x2 x7 x8 false x432000 x432001) := by
  refine LimIs.unique (spec_PairScan.l0L_is x0 x2 x7 x8 x432000 x432001) (LimIs.step (f := fun k => if x8 < (x0.length : Int) then (spec_PairScan.j2 k x0 x2 x7 x8 (decide ((x7.length : Int) < x2)) x432000 x432001) else (spec_PairScan.j2 k x0 x2 x7 x8 false x432000 x432001)) (by simp only [spec_PairScan.l0]) (fun k => by simp only [spec_PairScan.l0]) ?_)
  repeat' first
    | (with_reducible exact LimIs.const _)
    | (with_reducible exact spec_PairScan.j2L_is _ _ _ _ _ _ _)
    | (with_reducible refine LimIs.ite ?_ ?_)
    | (with_reducible refine LimIs.bind ?_ (fun _ => ?_))
theorem spec_PairScan.j2L_eq (x0 : List (S29)) (x2 : Int) (x7 : List (S29)) (x8 : Int) (x33 : Bool) (x432000 : ByteArray) (x432001 : ByteArray) : spec_PairScan.j2L x0 x2 x7 x8 x33 x432000 x432001 = if x33 = true then (if 0 ≤ x8 then (if x8 < (x0.length : Int) then ((spec_IntervalHas.fL x432000 x432001 ((rd_T29 x0 x8).f0)).bind fun t439 => (if t439 = true then (if x7.length < 5864062014805 then (spec_PairScan.l0L x0 x2 (x7 ++ [(⟨(rd_T29 x0 x8).f0, (rd_T29 x0 x8).f1⟩ : S29)]) (wrap64 (x8 + 1)) x432000 x432001) else (none)) else (spec_PairScan.l0L x0 x2 x7 (wrap64 (x8 + 1)) x432000 x432001))) else (none)) else (none)) else (some x7) := by
  refine LimIs.unique (spec_PairScan.j2L_is x0 x2 x7 x8 x33 x432000 x432001) (LimIs.step (f := fun k => if x33 = true then (if 0 ≤ x8 then (if x8 < (x0.length : Int) then ((spec_IntervalHas.f k x432000 x432001 ((rd_T29 x0 x8).f0)).bind fun t439 => (if t439 = true then (if x7.length < 5864062014805 then (spec_PairScan.l0 k x0 x2 (x7 ++ [(⟨(rd_T29 x0 x8).f0, (rd_T29 x0 x8).f1⟩ : S29)]) (wrap64 (x8 + 1)) x432000 x432001) else (none)) else (spec_PairScan.l0 k x0 x2 x7 (wrap64 (x8 + 1)) x432000 x432001))) else (none)) else (none)) else (some x7)) (by simp only [spec_PairScan.j2]) (fun k => by simp only [spec_PairScan.j2]) ?_)
  repeat' first
    | (with_reducible exact LimIs.const _)
    | (with_reducible exact spec_IntervalHas.fL_is _ _ _)
    | (with_reducible exact spec_PairScan.l0L_is _ _ _ _ _ _)
    | (with_reducible refine LimIs.ite ?_ ?_)
    | (with_reducible refine LimIs.bind ?_ (fun _ => ?_))
theorem spec_PairScan.fL_eq (l0 : List (S29)) (a1_0 : ByteArray) (a1_1 : ByteArray) (a2 : Int) : spec_PairScan.fL l0 a1_0 a1_1 a2 = (some (([] : List (S29)) : List (S29))).bind fun y432 => ((spec_PairsValid.fL l0).bind fun t435 => (if t435 = true then ((spec_IntervalValid.fL a1_0 a1_1).bind fun t436 => (if t436 = true then ((spec_l1In.f a2 0 48).bind fun t437 => (spec_PairScan.j0L l0 a2 y432 (!t437) a1_0 a1_1)) else (spec_PairScan.j0L l0 a2 y432 true a1_0 a1_1))) else (spec_PairScan.j0L l0 a2 y432 true a1_0 a1_1))) := by
  refine LimIs.unique (spec_PairScan.fL_is l0 a1_0 a1_1 a2) ?_
  unfold spec_PairScan.f
  repeat' first
    | (with_reducible exact LimIs.const _)
    | (with_reducible exact spec_IntervalValid.fL_is _ _)
    | (with_reducible exact spec_PairScan.j0L_is _ _ _ _ _ _)
    | (with_reducible exact spec_PairsValid.fL_is _)
    | (with_reducible refine LimIs.ite ?_ ?_)
    | (with_reducible refine LimIs.bind ?_ (fun _ => ?_))
/-! ### spec_PairsIn -/
noncomputable def spec_PairsIn.fL (l0 : List (S29)) (a1_0 : ByteArray) (a1_1 : ByteArray) : Option ((List (S29))) := Lim (fun k => spec_PairsIn.f k l0 a1_0 a1_1)
theorem spec_PairsIn.fL_is (l0 : List (S29)) (a1_0 : ByteArray) (a1_1 : ByteArray) : LimIs (fun k => spec_PairsIn.f k l0 a1_0 a1_1) (spec_PairsIn.fL l0 a1_0 a1_1) := LimIs.of_mono (fun k r h => spec_PairsIn.mono l0 a1_0 a1_1 k r h)
theorem spec_PairsIn.fL_eq (l0 : List (S29)) (a1_0 : ByteArray) (a1_1 : ByteArray) : spec_PairsIn.fL l0 a1_0 a1_1 = (spec_PairScan.fL l0 a1_0 a1_1 48).bind fun t445 => (some t445) := by
  refine LimIs.unique (spec_PairsIn.fL_is l0 a1_0 a1_1) ?_
  unfold spec_PairsIn.f
  repeat' first
    | (with_reducible exact LimIs.const _)
    | (with_reducible exact spec_PairScan.fL_is _ _ _ _)
    | (with_reducible refine LimIs.ite ?_ ?_)
    | (with_reducible refine LimIs.bind ?_ (fun _ => ?_))
/-! ### spec_PartDigests -/
noncomputable def spec_PartDigests.j0L (x0 : List (S29)) (x1 : List (S83)) (x5 : List Int) (x15 : Bool) : Option (List Int) := Lim (fun k => spec_PartDigests.j0 k x0 x1 x5 x15)
theorem spec_PartDigests.j0L_is (x0 : List (S29)) (x1 : List (S83)) (x5 : List Int) (x15 : Bool) : LimIs (fun k => spec_PartDigests.j0 k x0 x1 x5 x15) (spec_PartDigests.j0L x0 x1 x5 x15) := LimIs.of_mono (fun k r h => (spec_PartDigests.mono_l k).1 x0 x1 x5 x15 r h)
noncomputable def spec_PartDigests.l0L (x0 : List (S29)) (x1 : List (S83)) (x5 : List Int) (x6 : Int) : Option (List Int) := Lim (fun k => spec_PartDigests.l0 k x0 x1 x5 x6)
theorem spec_PartDigests.l0L_is (x0 : List (S29)) (x1 : List (S83)) (x5 : List Int) (x6 : Int) : LimIs (fun k => spec_PartDigests.l0 k x0 x1 x5 x6) (spec_PartDigests.l0L x0 x1 x5 x6) := LimIs.of_mono (fun k r h => (spec_PartDigests.mono_l k).2 x0 x1 x5 x6 r h)
noncomputable def spec_PartDigests.fL (l0 : List (S29)) (l1 : List (S83)) : Option (List Int) := Lim (fun k => spec_PartDigests.f k l0 l1)
theorem spec_PartDigests.fL_is (l0 : List (S29)) (l1 : List (S83)) : LimIs (fun k => spec_PartDigests.f k l0 l1) (spec_PartDigests.fL l0 l1) := LimIs.of_mono (fun k r h => spec_PartDigests.mono l0 l1 k r h)
theorem spec_PartDigests.j0L_eq (x0 : List (S29)) (x1 : List (S83)) (x5 : List Int) (x15 : Bool) : spec_PartDigests.j0L x0 x1 x5 x15 = if x15 = true then (some x5) else (spec_PartDigests.l0L x0 x1 x5 0) := by
  refine LimIs.unique (spec_PartDigests.j0L_is x0 x1 x5 x15) (LimIs.step (f := fun k => if x15 = true then (some x5) else (spec_PartDigests.l0 k x0 x1 x5 0)) (by simp only [spec_PartDigests.j0]) (fun k => by simp only [spec_PartDigests.j0]) ?_)
  repeat' first
    | (with_reducible exact LimIs.const _)
    | (with_reducible exact spec_PartDigests.l0L_is _ _ _ _)
    | (with_reducible refine LimIs.ite ?_ ?_)
    | (with_reducible refine LimIs.bind ?_ (fun _ => ?_))
theorem spec_PartDigests.l0L_eq (x0 : List (S29)) (x1 : List (S83)) (x5 : List Int) (x6 : Int) : spec_PartDigests.l0L x0 x1 x5 x6 = if x6 < (x1.length : Int) then (if 0 ≤ x6 then ((spec_PairsIn.fL x0 ((rd_T83 x1 x6).f0) ((rd_T83 x1 x6).f1)).bind fun t454 => ((spec_PairsDigest.fL t454).bind fun t457 => (if x5.length < 17592186044416 then (spec_PartDigests.l0L x0 x1 (x5 ++ [t457]) (wrap64 (x6 + 1))) else (none)))) else (none)) else (some x5) := by
  refine LimIs.unique (spec_PartDigests.l0L_is x0 x1 x5 x6) (LimIs.step (f := fun k => if x6 < (x1.length : Int) then (if 0 ≤ x6 then ((spec_PairsIn.f k x0 ((rd_T83 x1 x6).f0) ((rd_T83 x1 x6).f1)).bind fun t454 => ((spec_PairsDigest.f k t454).bind fun t457 => (if x5.length < 17592186044416 then (spec_PartDigests.l0 k x0 x1 (x5 ++ [t457]) (wrap64 (x6 + 1))) else (none)))) else (none)) else (some x5)) (by simp only [spec_PartDigests.l0]) (fun k => by simp only [spec_PartDigests.l0]) ?_)
  repeat' first
    | (with_reducible exact LimIs.const _)
    | (with_reducible exact spec_PairsDigest.fL_is _)
    | (with_reducible exact spec_PairsIn.fL_is _ _ _)
    | (with_reducible exact spec_PartDigests.l0L_is _ _ _ _)
    | (with_reducible refine LimIs.ite ?_ ?_)
    | (with_reducible refine LimIs.bind ?_ (fun _ => ?_))
theorem spec_PartDigests.fL_eq (l0 : List (S29)) (l1 : List (S83)) : spec_PartDigests.fL l0 l1 = (some (([] : List Int) : List Int)).bind fun y448 => ((spec_PairsValid.fL l0).bind fun t451 => (if t451 = true then ((spec_PartitionValid.fL l1).bind fun t452 => (spec_PartDigests.j0L l0 l1 y448 (!t452))) else (spec_PartDigests.j0L l0 l1 y448 true))) := by
  refine LimIs.unique (spec_PartDigests.fL_is l0 l1) ?_
  unfold spec_PartDigests.f
  repeat' first
    | (with_reducible exact LimIs.const _)
    | (with_reducible exact spec_PairsValid.fL_is _)
    | (with_reducible exact spec_PartDigests.j0L_is _ _ _ _)
    | (with_reducible exact spec_PartitionValid.fL_is _)
    | (with_reducible refine LimIs.ite ?_ ?_)
    | (with_reducible refine LimIs.bind ?_ (fun _ => ?_))
/-! ### laws_FnPartDigests -/
noncomputable def laws_FnPartDigests.l0L (x3 : List (S29)) (x4 : List (S83)) (x5 : List Int) (x6 : Int) (x7 : Int) : Option (Bool) := Lim (fun k => laws_FnPartDigests.l0 k x3 x4 x5 x6 x7)
theorem laws_FnPartDigests.l0L_is (x3 : List (S29)) (x4 : List (S83)) (x5 : List Int) (x6 : Int) (x7 : Int) : LimIs (fun k => laws_FnPartDigests.l0 k x3 x4 x5 x6 x7) (laws_FnPartDigests.l0L x3 x4 x5 x6 x7) := LimIs.of_mono (fun k r h => (laws_FnPartDigests.mono_l k) x3 x4 x5 x6 x7 r h)
noncomputable def laws_FnPartDigests.fL (l0 : List Int) : Option (Bool) := Lim (fun k => laws_FnPartDigests.f k l0)
theorem laws_FnPartDigests.fL_is (l0 : List Int) : LimIs (fun k => laws_FnPartDigests.f k l0) (laws_FnPartDigests.fL l0) := LimIs.of_mono (fun k r h => laws_FnPartDigests.mono l0 k r h)
theorem laws_FnPartDigests.l0L_eq (x3 : List (S29)) (x4 : List (S83)) (x5 : List Int) (x6 : Int) (x7 : Int) : laws_FnPartDigests.l0L x3 x4 x5 x6 x7 = if x7 < (x5.length : Int) then (if 0 ≤ x7 then (laws_FnPartDigests.l0L x3 x4 x5 (wrap64 (x6 + (rd x5 x7))) (wrap64 (x7 + 1))) else (none)) else (if (x5.length : Int) = (x4.length : Int) then ((impl_PairsDigest.fL x3).bind fun t479 => (some ((Int.tmod x6 99991) == t479))) else (some false)) := by
  refine LimIs.unique (laws_FnPartDigests.l0L_is x3 x4 x5 x6 x7) (LimIs.step (f := fun k => if x7 < (x5.length : Int) then (if 0 ≤ x7 then (laws_FnPartDigests.l0 k x3 x4 x5 (wrap64 (x6 + (rd x5 x7))) (wrap64 (x7 + 1))) else (none)) else (if (x5.length : Int) = (x4.length : Int) then ((impl_PairsDigest.f k x3).bind fun t479 => (some ((Int.tmod x6 99991) == t479))) else (some false))) (by simp only [laws_FnPartDigests.l0]) (fun k => by simp only [laws_FnPartDigests.l0]) ?_)
  repeat' first
    | (with_reducible exact LimIs.const _)
    | (with_reducible exact impl_PairsDigest.fL_is _)
    | (with_reducible exact laws_FnPartDigests.l0L_is _ _ _ _ _)
    | (with_reducible refine LimIs.ite ?_ ?_)
    | (with_reducible refine LimIs.bind ?_ (fun _ => ?_))
theorem laws_FnPartDigests.fL_eq (l0 : List Int) : laws_FnPartDigests.fL l0 = if (l0.length : Int) > 1048576 then (some true) else ((spec_DrawPartDigests.fL l0).bind fun bt461 => ((impl_PartDigests.fL bt461.1 bt461.2).bind fun t467 => ((spec_PartDigests.fL bt461.1 bt461.2).bind fun t470 => ((laws_sameInts.fL t467 t470).bind fun t473 => (if t473 = true then (if (t467.length : Int) = 0 then ((impl_PairsValid.fL bt461.1).bind fun t474 => (if t474 = true then ((impl_PartitionValid.fL bt461.2).bind fun t475 => (if t475 = true then (some false) else ((laws_alive.fL).bind fun t476 => (some t476)))) else ((laws_alive.fL).bind fun t477 => (some t477)))) else (laws_FnPartDigests.l0L bt461.1 bt461.2 t467 0 0)) else (some false)))))) := by
  refine LimIs.unique (laws_FnPartDigests.fL_is l0) ?_
  unfold laws_FnPartDigests.f
  repeat' first
    | (with_reducible exact LimIs.const _)
    | (with_reducible exact impl_PairsValid.fL_is _)
    | (with_reducible exact impl_PartDigests.fL_is _ _)
    | (with_reducible exact impl_PartitionValid.fL_is _)
    | (with_reducible exact laws_FnPartDigests.l0L_is _ _ _ _ _)
    | (with_reducible exact laws_alive.fL_is)
    | (with_reducible exact laws_sameInts.fL_is _ _)
    | (with_reducible exact spec_DrawPartDigests.fL_is _)
    | (with_reducible exact spec_PartDigests.fL_is _ _)
    | (with_reducible refine LimIs.ite ?_ ?_)
    | (with_reducible refine LimIs.bind ?_ (fun _ => ?_))
end Go.Proofs.Ytfeeifefmenlmaa.PFnPartDigests
