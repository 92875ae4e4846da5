/- The limits of the printed functions, and their equations. Written by lim.py out of the print. No condition. -/
import Derived.Test.YtpeifepnaecjiaaPFnOrderValidx4
import Derived.Test.YtpeifepnaecjiaaLim
namespace Go.Proofs.Ytpeifepnaecjiaa.PFnOrderValid
open Go.RowKit Go.Proofs.YtpeifepnaecjiaaW.PrintWords Go.Proofs.YtpeifepnaecjiaaW.PrintLast Go.Proofs.YtpeifepnaecjiaaW.PrintMore Go.Proofs.Ytpeifepnaecjiaa.Lim
set_option linter.unusedVariables false

/-! ### spec_OrderValid -/
noncomputable def spec_OrderValid.j0L (x0 : Int) (x1 : List Int) (x14 : Bool) : Option (Bool) := Lim (fun k => spec_OrderValid.j0 k x0 x1 x14)
theorem spec_OrderValid.j0L_is (x0 : Int) (x1 : List Int) (x14 : Bool) : LimIs (fun k => spec_OrderValid.j0 k x0 x1 x14) (spec_OrderValid.j0L x0 x1 x14) := LimIs.of_mono (fun k r h => (spec_OrderValid.mono_l k).1 x0 x1 x14 r h)
noncomputable def spec_OrderValid.l0L (x0 : Int) (x1 : List Int) (x5 : Int) : Option (Bool) := Lim (fun k => spec_OrderValid.l0 k x0 x1 x5)
theorem spec_OrderValid.l0L_is (x0 : Int) (x1 : List Int) (x5 : Int) : LimIs (fun k => spec_OrderValid.l0 k x0 x1 x5) (spec_OrderValid.l0L x0 x1 x5) := LimIs.of_mono (fun k r h => (spec_OrderValid.mono_l k).2.1 x0 x1 x5 r h)
noncomputable def spec_OrderValid.l1L (x0 : Int) (x1 : List Int) (x5 : Int) (x6 : Int) : Option (Bool) := Lim (fun k => spec_OrderValid.l1 k x0 x1 x5 x6)
theorem spec_OrderValid.l1L_is (x0 : Int) (x1 : List Int) (x5 : Int) (x6 : Int) : LimIs (fun k => spec_OrderValid.l1 k x0 x1 x5 x6) (spec_OrderValid.l1L x0 x1 x5 x6) := LimIs.of_mono (fun k r h => (spec_OrderValid.mono_l k).2.2 x0 x1 x5 x6 r h)
noncomputable def spec_OrderValid.fL (a0 : Int) (l1 : List Int) : Option (Bool) := Lim (fun k => spec_OrderValid.f k a0 l1)
theorem spec_OrderValid.fL_is (a0 : Int) (l1 : List Int) : LimIs (fun k => spec_OrderValid.f k a0 l1) (spec_OrderValid.fL a0 l1) := LimIs.of_mono (fun k r h => spec_OrderValid.mono a0 l1 k r h)
theorem spec_OrderValid.j0L_eq (x0 : Int) (x1 : List Int) (x14 : Bool) : spec_OrderValid.j0L x0 x1 x14 = if x14 = true then (some false) else (spec_OrderValid.l0L x0 x1 0) := by
  refine LimIs.unique (spec_OrderValid.j0L_is x0 x1 x14) (LimIs.step (f := fun k => if x14 = true then (some false) else (spec_OrderValid.l0 k x0 x1 0)) (by simp only [spec_OrderValid.j0]) (fun k => by simp only [spec_OrderValid.j0]) ?_)
  repeat' first
    | (with_reducible exact LimIs.const _)
    | (with_reducible exact spec_OrderValid.l0L_is _ _ _)
    | (with_reducible refine LimIs.ite ?_ ?_)
    | (with_reducible refine LimIs.bind ?_ (fun _ => ?_))
theorem spec_OrderValid.l0L_eq (x0 : Int) (x1 : List Int) (x5 : Int) : spec_OrderValid.l0L x0 x1 x5 = if x5 < (x1.length : Int) then (if 0 ≤ x5 then ((spec_l1In.f (rd x1 x5) 0 (wrap64 (x0 - 1))).bind fun t102 => (if t102 = true then (spec_OrderValid.l1L x0 x1 x5 0) else (some false))) else (none)) else (some true) := by
  refine LimIs.unique (spec_OrderValid.l0L_is x0 x1 x5) (LimIs.step (f := fun k => if x5 < (x1.length : Int) then (if 0 ≤ x5 then ((spec_l1In.f (rd x1 x5) 0 (wrap64 (x0 - 1))).bind fun t102 => (if t102 = true then (spec_OrderValid.l1 k x0 x1 x5 0) else (some false))) else (none)) else (some true)) (by simp only [spec_OrderValid.l0]) (fun k => by simp only [spec_OrderValid.l0]) ?_)
  repeat' first
    | (with_reducible exact LimIs.const _)
    | (with_reducible exact spec_OrderValid.l1L_is _ _ _ _)
    | (with_reducible refine LimIs.ite ?_ ?_)
    | (with_reducible refine LimIs.bind ?_ (fun _ => ?_))
theorem spec_OrderValid.l1L_eq (x0 : Int) (x1 : List Int) (x5 : Int) (x6 : Int) : spec_OrderValid.l1L x0 x1 x5 x6 = if x6 < x5 then (if 0 ≤ x6 then (if x6 < (x1.length : Int) then (if 0 ≤ x5 then (if x5 < (x1.length : Int) then (if (rd x1 x6) = (rd x1 x5) then (some false) else (spec_OrderValid.l1L x0 x1 x5 (wrap64 (x6 + 1)))) else (none)) else (none)) else (none)) else (none)) else (spec_OrderValid.l0L x0 x1 (wrap64 (x5 + 1))) := by
  refine LimIs.unique (spec_OrderValid.l1L_is x0 x1 x5 x6) (LimIs.step (f := fun k => if x6 < x5 then (if 0 ≤ x6 then (if x6 < (x1.length : Int) then (if 0 ≤ x5 then (if x5 < (x1.length : Int) then (if (rd x1 x6) = (rd x1 x5) then (some false) else (spec_OrderValid.l1 k x0 x1 x5 (wrap64 (x6 + 1)))) else (none)) else (none)) else (none)) else (none)) else (spec_OrderValid.l0 k x0 x1 (wrap64 (x5 + 1)))) (by simp only [spec_OrderValid.l1]) (fun k => by simp only [spec_OrderValid.l1]) ?_)
  repeat' first
    | (with_reducible exact LimIs.const _)
    | (with_reducible exact spec_OrderValid.l0L_is _ _ _)
    | (with_reducible exact spec_OrderValid.l1L_is _ _ _ _)
    | (with_reducible refine LimIs.ite ?_ ?_)
    | (with_reducible refine LimIs.bind ?_ (fun _ => ?_))
theorem spec_OrderValid.fL_eq (a0 : Int) (l1 : List Int) : spec_OrderValid.fL a0 l1 = if a0 > 5 then (spec_OrderValid.j0L a0 l1 true) else (spec_OrderValid.j0L a0 l1 ((l1.length : Int) != a0)) := by
  refine LimIs.unique (spec_OrderValid.fL_is a0 l1) ?_
  unfold spec_OrderValid.f
  repeat' first
    | (with_reducible exact LimIs.const _)
    | (with_reducible exact spec_OrderValid.j0L_is _ _ _)
    | (with_reducible refine LimIs.ite ?_ ?_)
    | (with_reducible refine LimIs.bind ?_ (fun _ => ?_))
/-! ### slices_Index_int_int -/
noncomputable def slices_Index_int_int.l0L (x0 : List Int) (x1 : Int) (x7 : Int) (x8 : Int) : Option (Int) := Lim (fun k => slices_Index_int_int.l0 k x0 x1 x7 x8)
theorem slices_Index_int_int.l0L_is (x0 : List Int) (x1 : Int) (x7 : Int) (x8 : Int) : LimIs (fun k => slices_Index_int_int.l0 k x0 x1 x7 x8) (slices_Index_int_int.l0L x0 x1 x7 x8) := LimIs.of_mono (fun k r h => (slices_Index_int_int.mono_l k) x0 x1 x7 x8 r h)
noncomputable def slices_Index_int_int.fL (l0 : List Int) (a1 : Int) : Option (Int) := Lim (fun k => slices_Index_int_int.f k l0 a1)
theorem slices_Index_int_int.fL_is (l0 : List Int) (a1 : Int) : LimIs (fun k => slices_Index_int_int.f k l0 a1) (slices_Index_int_int.fL l0 a1) := LimIs.of_mono (fun k r h => slices_Index_int_int.mono l0 a1 k r h)
theorem slices_Index_int_int.l0L_eq (x0 : List Int) (x1 : Int) (x7 : Int) (x8 : Int) : slices_Index_int_int.l0L x0 x1 x7 x8 = if x8 < x7 then (if 0 ≤ x8 then (if x8 < (x0.length : Int) then (if x1 = (rd x0 x8) then (some x8) else (slices_Index_int_int.l0L x0 x1 x7 (wrap64 (x8 + 1)))) else (none)) else (none)) else (some (-1)) := by
  refine LimIs.unique (slices_Index_int_int.l0L_is x0 x1 x7 x8) (LimIs.step (f := fun k => if x8 < x7 then (if 0 ≤ x8 then (if x8 < (x0.length : Int) then (if x1 = (rd x0 x8) then (some x8) else (slices_Index_int_int.l0 k x0 x1 x7 (wrap64 (x8 + 1)))) else (none)) else (none)) else (some (-1))) (by simp only [slices_Index_int_int.l0]) (fun k => by simp only [slices_Index_int_int.l0]) ?_)
  repeat' first
    | (with_reducible exact LimIs.const _)
    | (with_reducible exact slices_Index_int_int.l0L_is _ _ _ _)
    | (with_reducible refine LimIs.ite ?_ ?_)
    | (with_reducible refine LimIs.bind ?_ (fun _ => ?_))
theorem slices_Index_int_int.fL_eq (l0 : List Int) (a1 : Int) : slices_Index_int_int.fL l0 a1 = slices_Index_int_int.l0L l0 a1 (l0.length : Int) 0 := by
  refine LimIs.unique (slices_Index_int_int.fL_is l0 a1) ?_
  unfold slices_Index_int_int.f
  repeat' first
    | (with_reducible exact LimIs.const _)
    | (with_reducible exact slices_Index_int_int.l0L_is _ _ _ _)
    | (with_reducible refine LimIs.ite ?_ ?_)
    | (with_reducible refine LimIs.bind ?_ (fun _ => ?_))
/-! ### slices_Contains_int_int -/
noncomputable def slices_Contains_int_int.fL (l0 : List Int) (a1 : Int) : Option (Bool) := Lim (fun k => slices_Contains_int_int.f k l0 a1)
theorem slices_Contains_int_int.fL_is (l0 : List Int) (a1 : Int) : LimIs (fun k => slices_Contains_int_int.f k l0 a1) (slices_Contains_int_int.fL l0 a1) := LimIs.of_mono (fun k r h => slices_Contains_int_int.mono l0 a1 k r h)
theorem slices_Contains_int_int.fL_eq (l0 : List Int) (a1 : Int) : slices_Contains_int_int.fL l0 a1 = (slices_Index_int_int.fL l0 a1).bind fun t106 => (some (decide (t106 ≥ 0))) := by
  refine LimIs.unique (slices_Contains_int_int.fL_is l0 a1) ?_
  unfold slices_Contains_int_int.f
  repeat' first
    | (with_reducible exact LimIs.const _)
    | (with_reducible exact slices_Index_int_int.fL_is _ _)
    | (with_reducible refine LimIs.ite ?_ ?_)
    | (with_reducible refine LimIs.bind ?_ (fun _ => ?_))
/-! ### impl_OrderValid -/
noncomputable def impl_OrderValid.j0L (x0 : Int) (x1 : List Int) (x15 : Bool) : Option (Bool) := Lim (fun k => impl_OrderValid.j0 k x0 x1 x15)
theorem impl_OrderValid.j0L_is (x0 : Int) (x1 : List Int) (x15 : Bool) : LimIs (fun k => impl_OrderValid.j0 k x0 x1 x15) (impl_OrderValid.j0L x0 x1 x15) := LimIs.of_mono (fun k r h => (impl_OrderValid.mono_l k).1 x0 x1 x15 r h)
noncomputable def impl_OrderValid.l0L (x0 : Int) (x1 : List Int) (x16 : List Int) (x17 : Int) (x18 : Int) : Option (Bool) := Lim (fun k => impl_OrderValid.l0 k x0 x1 x16 x17 x18)
theorem impl_OrderValid.l0L_is (x0 : Int) (x1 : List Int) (x16 : List Int) (x17 : Int) (x18 : Int) : LimIs (fun k => impl_OrderValid.l0 k x0 x1 x16 x17 x18) (impl_OrderValid.l0L x0 x1 x16 x17 x18) := LimIs.of_mono (fun k r h => (impl_OrderValid.mono_l k).2 x0 x1 x16 x17 x18 r h)
noncomputable def impl_OrderValid.fL (a0 : Int) (l1 : List Int) : Option (Bool) := Lim (fun k => impl_OrderValid.f k a0 l1)
theorem impl_OrderValid.fL_is (a0 : Int) (l1 : List Int) : LimIs (fun k => impl_OrderValid.f k a0 l1) (impl_OrderValid.fL a0 l1) := LimIs.of_mono (fun k r h => impl_OrderValid.mono a0 l1 k r h)
theorem impl_OrderValid.j0L_eq (x0 : Int) (x1 : List Int) (x15 : Bool) : impl_OrderValid.j0L x0 x1 x15 = if x15 = true then (some false) else (impl_OrderValid.l0L x0 x1 x1 (x1.length : Int) 0) := by
  refine LimIs.unique (impl_OrderValid.j0L_is x0 x1 x15) (LimIs.step (f := fun k => if x15 = true then (some false) else (impl_OrderValid.l0 k x0 x1 x1 (x1.length : Int) 0)) (by simp only [impl_OrderValid.j0]) (fun k => by simp only [impl_OrderValid.j0]) ?_)
  repeat' first
    | (with_reducible exact LimIs.const _)
    | (with_reducible exact impl_OrderValid.l0L_is _ _ _ _ _)
    | (with_reducible refine LimIs.ite ?_ ?_)
    | (with_reducible refine LimIs.bind ?_ (fun _ => ?_))
theorem impl_OrderValid.l0L_eq (x0 : Int) (x1 : List Int) (x16 : List Int) (x17 : Int) (x18 : Int) : impl_OrderValid.l0L x0 x1 x16 x17 x18 = if x18 < x17 then (if 0 ≤ x18 then (if x18 < (x16.length : Int) then (if (rd x16 x18) < 0 then (some false) else (if (rd x16 x18) ≥ x0 then (some false) else (if x18 ≤ (x1.length : Int) then ((slices_Contains_int_int.fL (x1.take (x18 : Int).toNat) (rd x16 x18)).bind fun t112 => (if t112 = true then (some false) else (impl_OrderValid.l0L x0 x1 x16 x17 (wrap64 (x18 + 1))))) else (none)))) else (none)) else (none)) else (some true) := by
  refine LimIs.unique (impl_OrderValid.l0L_is x0 x1 x16 x17 x18) (LimIs.step (f := fun k => if x18 < x17 then (if 0 ≤ x18 then (if x18 < (x16.length : Int) then (if (rd x16 x18) < 0 then (some false) else (if (rd x16 x18) ≥ x0 then (some false) else (if x18 ≤ (x1.length : Int) then ((slices_Contains_int_int.f k (x1.take (x18 : Int).toNat) (rd x16 x18)).bind fun t112 => (if t112 = true then (some false) else (impl_OrderValid.l0 k x0 x1 x16 x17 (wrap64 (x18 + 1))))) else (none)))) else (none)) else (none)) else (some true)) (by simp only [impl_OrderValid.l0]) (fun k => by simp only [impl_OrderValid.l0]) ?_)
  repeat' first
    | (with_reducible exact LimIs.const _)
    | (with_reducible exact impl_OrderValid.l0L_is _ _ _ _ _)
    | (with_reducible exact slices_Contains_int_int.fL_is _ _)
    | (with_reducible refine LimIs.ite ?_ ?_)
    | (with_reducible refine LimIs.bind ?_ (fun _ => ?_))
theorem impl_OrderValid.fL_eq (a0 : Int) (l1 : List Int) : impl_OrderValid.fL a0 l1 = if (l1.length : Int) > 5 then (impl_OrderValid.j0L a0 l1 true) else (impl_OrderValid.j0L a0 l1 ((l1.length : Int) != a0)) := by
  refine LimIs.unique (impl_OrderValid.fL_is a0 l1) ?_
  unfold impl_OrderValid.f
  repeat' first
    | (with_reducible exact LimIs.const _)
    | (with_reducible exact impl_OrderValid.j0L_is _ _ _)
    | (with_reducible refine LimIs.ite ?_ ?_)
    | (with_reducible refine LimIs.bind ?_ (fun _ => ?_))
/-! ### impl_lettersOnly -/
noncomputable def impl_lettersOnly.fL (a0 : ByteArray) : Option (Bool) := Lim (fun k => impl_lettersOnly.f k a0)
theorem impl_lettersOnly.fL_is (a0 : ByteArray) : LimIs (fun k => impl_lettersOnly.f k a0) (impl_lettersOnly.fL a0) := LimIs.of_mono (fun k r h => impl_lettersOnly.mono a0 k r h)
theorem impl_lettersOnly.fL_eq (a0 : ByteArray) : impl_lettersOnly.fL a0 = if a0.toList = ([] : List UInt8) then (some true) else (if 0 < (a0.size : Int) then (if (bt a0 0) ≥ 97 then (if (bt a0 0) ≤ 122 then (if 1 ≤ (a0.size : Int) then ((impl_lettersOnly.fL (a0.extract 1 a0.size)).bind fun t113 => (some t113)) else (none)) else (some false)) else (some false)) else (none)) := by
  refine LimIs.unique (impl_lettersOnly.fL_is a0) (LimIs.step (f := fun k => if a0.toList = ([] : List UInt8) then (some true) else (if 0 < (a0.size : Int) then (if (bt a0 0) ≥ 97 then (if (bt a0 0) ≤ 122 then (if 1 ≤ (a0.size : Int) then ((impl_lettersOnly.f k (a0.extract 1 a0.size)).bind fun t113 => (some t113)) else (none)) else (some false)) else (some false)) else (none))) (by simp only [impl_lettersOnly.f]) (fun k => by simp only [impl_lettersOnly.f]) ?_)
  repeat' first
    | (with_reducible exact LimIs.const _)
    | (with_reducible exact impl_lettersOnly.fL_is _)
    | (with_reducible refine LimIs.ite ?_ ?_)
    | (with_reducible refine LimIs.bind ?_ (fun _ => ?_))
/-! ### impl_KeyValid -/
noncomputable def impl_KeyValid.fL (a0 : ByteArray) : Option (Bool) := Lim (fun k => impl_KeyValid.f k a0)
theorem impl_KeyValid.fL_is (a0 : ByteArray) : LimIs (fun k => impl_KeyValid.f k a0) (impl_KeyValid.fL a0) := LimIs.of_mono (fun k r h => impl_KeyValid.mono a0 k r h)
theorem impl_KeyValid.fL_eq (a0 : ByteArray) : impl_KeyValid.fL a0 = if (a0.size : Int) < 1 then (some false) else (if (a0.size : Int) > 4 then (some false) else ((impl_lettersOnly.fL a0).bind fun t114 => (some t114))) := by
  refine LimIs.unique (impl_KeyValid.fL_is a0) ?_
  unfold impl_KeyValid.f
  repeat' first
    | (with_reducible exact LimIs.const _)
    | (with_reducible exact impl_lettersOnly.fL_is _)
    | (with_reducible refine LimIs.ite ?_ ?_)
    | (with_reducible refine LimIs.bind ?_ (fun _ => ?_))
/-! ### impl_keysFrom -/
noncomputable def impl_keysFrom.fL (a0 : Int) : Option (Int) := Lim (fun k => impl_keysFrom.f k a0)
theorem impl_keysFrom.fL_is (a0 : Int) : LimIs (fun k => impl_keysFrom.f k a0) (impl_keysFrom.fL a0) := LimIs.of_mono (fun k r h => impl_keysFrom.mono a0 k r h)
theorem impl_keysFrom.fL_eq (a0 : Int) : impl_keysFrom.fL a0 = if a0 ≥ 4 then (some 1) else ((impl_keysFrom.fL (wrap64 (a0 + 1))).bind fun t115 => (some (wrap64 (1 + (wrap64 (26 * t115)))))) := by
  refine LimIs.unique (impl_keysFrom.fL_is a0) (LimIs.step (f := fun k => if a0 ≥ 4 then (some 1) else ((impl_keysFrom.f k (wrap64 (a0 + 1))).bind fun t115 => (some (wrap64 (1 + (wrap64 (26 * t115))))))) (by simp only [impl_keysFrom.f]) (fun k => by simp only [impl_keysFrom.f]) ?_)
  repeat' first
    | (with_reducible exact LimIs.const _)
    | (with_reducible exact impl_keysFrom.fL_is _)
    | (with_reducible refine LimIs.ite ?_ ?_)
    | (with_reducible refine LimIs.bind ?_ (fun _ => ?_))
/-! ### impl_rankBelow -/
noncomputable def impl_rankBelow.fL (a0 : ByteArray) (a1 : Int) : Option (Int) := Lim (fun k => impl_rankBelow.f k a0 a1)
theorem impl_rankBelow.fL_is (a0 : ByteArray) (a1 : Int) : LimIs (fun k => impl_rankBelow.f k a0 a1) (impl_rankBelow.fL a0 a1) := LimIs.of_mono (fun k r h => impl_rankBelow.mono a0 a1 k r h)
theorem impl_rankBelow.fL_eq (a0 : ByteArray) (a1 : Int) : impl_rankBelow.fL a0 a1 = if a0.toList = ([] : List UInt8) then (some 0) else (if 0 < (a0.size : Int) then ((impl_keysFrom.fL a1).bind fun t116 => (if 1 ≤ (a0.size : Int) then ((impl_rankBelow.fL (a0.extract 1 a0.size) (wrap64 (a1 + 1))).bind fun t117 => (some (wrap64 ((wrap64 (1 + (wrap64 ((((bt a0 0) - 97) % 256) * t116)))) + t117)))) else (none))) else (none)) := by
  refine LimIs.unique (impl_rankBelow.fL_is a0 a1) (LimIs.step (f := fun k => if a0.toList = ([] : List UInt8) then (some 0) else (if 0 < (a0.size : Int) then ((impl_keysFrom.f k a1).bind fun t116 => (if 1 ≤ (a0.size : Int) then ((impl_rankBelow.f k (a0.extract 1 a0.size) (wrap64 (a1 + 1))).bind fun t117 => (some (wrap64 ((wrap64 (1 + (wrap64 ((((bt a0 0) - 97) % 256) * t116)))) + t117)))) else (none))) else (none))) (by simp only [impl_rankBelow.f]) (fun k => by simp only [impl_rankBelow.f]) ?_)
  repeat' first
    | (with_reducible exact LimIs.const _)
    | (with_reducible exact impl_keysFrom.fL_is _)
    | (with_reducible exact impl_rankBelow.fL_is _ _)
    | (with_reducible refine LimIs.ite ?_ ?_)
    | (with_reducible refine LimIs.bind ?_ (fun _ => ?_))
/-! ### impl_KeyRank -/
noncomputable def impl_KeyRank.fL (a0 : ByteArray) : Option (Int) := Lim (fun k => impl_KeyRank.f k a0)
theorem impl_KeyRank.fL_is (a0 : ByteArray) : LimIs (fun k => impl_KeyRank.f k a0) (impl_KeyRank.fL a0) := LimIs.of_mono (fun k r h => impl_KeyRank.mono a0 k r h)
theorem impl_KeyRank.fL_eq (a0 : ByteArray) : impl_KeyRank.fL a0 = (impl_KeyValid.fL a0).bind fun t118 => (if t118 = true then ((impl_rankBelow.fL a0 1).bind fun t119 => (some (wrap64 (t119 - 1)))) else (some (-1))) := by
  refine LimIs.unique (impl_KeyRank.fL_is a0) ?_
  unfold impl_KeyRank.f
  repeat' first
    | (with_reducible exact LimIs.const _)
    | (with_reducible exact impl_KeyValid.fL_is _)
    | (with_reducible exact impl_rankBelow.fL_is _ _)
    | (with_reducible refine LimIs.ite ?_ ?_)
    | (with_reducible refine LimIs.bind ?_ (fun _ => ?_))
/-! ### laws_alive -/
noncomputable def laws_alive.fL : Option (Bool) := Lim (fun k => laws_alive.f k)
theorem laws_alive.fL_is : LimIs (fun k => laws_alive.f k) (laws_alive.fL) := LimIs.of_mono (fun k r h => laws_alive.mono k r h)
theorem laws_alive.fL_eq : laws_alive.fL = (impl_KeyRank.fL (⟨#[97, 97]⟩ : ByteArray)).bind fun t120 => (if t120 = 1 then ((impl_KeyRank.fL (⟨#[]⟩ : ByteArray)).bind fun t121 => (some (t121 == (-1)))) else (some false)) := by
  refine LimIs.unique (laws_alive.fL_is) ?_
  unfold laws_alive.f
  repeat' first
    | (with_reducible exact LimIs.const _)
    | (with_reducible exact impl_KeyRank.fL_is _)
    | (with_reducible refine LimIs.ite ?_ ?_)
    | (with_reducible refine LimIs.bind ?_ (fun _ => ?_))
/-! ### spec_l20Rd_pick -/
noncomputable def spec_l20Rd_pick.j0L (x1 : Int) (x24 : Bool) (x1000 : List Int) (x1001 : Int) : Option (Int × Int) := Lim (fun k => spec_l20Rd_pick.j0 k x1 x24 x1000 x1001)
theorem spec_l20Rd_pick.j0L_is (x1 : Int) (x24 : Bool) (x1000 : List Int) (x1001 : Int) : LimIs (fun k => spec_l20Rd_pick.j0 k x1 x24 x1000 x1001) (spec_l20Rd_pick.j0L x1 x24 x1000 x1001) := LimIs.of_mono (fun k r h => (spec_l20Rd_pick.mono_l k) x1 x24 x1000 x1001 r h)
noncomputable def spec_l20Rd_pick.fL (s0_0 : List Int) (s0_1 : Int) (a1 : Int) : Option (Int × Int) := Lim (fun k => spec_l20Rd_pick.f k s0_0 s0_1 a1)
theorem spec_l20Rd_pick.fL_is (s0_0 : List Int) (s0_1 : Int) (a1 : Int) : LimIs (fun k => spec_l20Rd_pick.f k s0_0 s0_1 a1) (spec_l20Rd_pick.fL s0_0 s0_1 a1) := LimIs.of_mono (fun k r h => spec_l20Rd_pick.mono s0_0 s0_1 a1 k r h)
theorem spec_l20Rd_pick.j0L_eq (x1 : Int) (x24 : Bool) (x1000 : List Int) (x1001 : Int) : spec_l20Rd_pick.j0L x1 x24 x1000 x1001 = if x24 = true then (some (0, x1001)) else (if (wrap64 (x1001 - 1)) < (x1000.length : Int) then (if 0 ≤ (wrap64 (x1001 - 1)) then (if x1 = 0 then (none) else (some (Int.tmod (wrap64 (rd x1000 (wrap64 (x1001 - 1)))) x1, x1001))) else (none)) else (if (x1000.length : Int) = 0 then (none) else (if 0 ≤ (Int.tmod (wrap64 (x1001 - 1)) (x1000.length : Int)) then (if (Int.tmod (wrap64 (x1001 - 1)) (x1000.length : Int)) < (x1000.length : Int) then (if 0 ≤ (Int.tmod (wrap64 ((wrap64 ((wrap64 (x1001 - 1)) * 7)) + 3)) (x1000.length : Int)) then (if (Int.tmod (wrap64 ((wrap64 ((wrap64 (x1001 - 1)) * 7)) + 3)) (x1000.length : Int)) < (x1000.length : Int) then (if x1 = 0 then (none) else (some (Int.tmod (Go.bits .xor .i64 (wrap64 ((wrap64 ((wrap64 ((wrap64 ((wrap64 (rd x1000 (Int.tmod (wrap64 (x1001 - 1)) (x1000.length : Int)))) * 131)) + (wrap64 ((wrap64 (rd x1000 (Int.tmod (wrap64 ((wrap64 ((wrap64 (x1001 - 1)) * 7)) + 3)) (x1000.length : Int)))) * 1117)))) + (wrap64 ((wrap64 (x1001 - 1)) * 29)))) + (wrap64 ((wrap64 (Int.tdiv (wrap64 (x1001 - 1)) (x1000.length : Int))) * 53)))) (wrap64 (Int.tdiv (wrap64 ((wrap64 ((wrap64 ((wrap64 ((wrap64 (rd x1000 (Int.tmod (wrap64 (x1001 - 1)) (x1000.length : Int)))) * 131)) + (wrap64 ((wrap64 (rd x1000 (Int.tmod (wrap64 ((wrap64 ((wrap64 (x1001 - 1)) * 7)) + 3)) (x1000.length : Int)))) * 1117)))) + (wrap64 ((wrap64 (x1001 - 1)) * 29)))) + (wrap64 ((wrap64 (Int.tdiv (wrap64 (x1001 - 1)) (x1000.length : Int))) * 53)))) 64))) x1, x1001))) else (none)) else (none)) else (none)) else (none)))) := by
  refine LimIs.unique (spec_l20Rd_pick.j0L_is x1 x24 x1000 x1001) (LimIs.step (f := fun k => if x24 = true then (some (0, x1001)) else (if (wrap64 (x1001 - 1)) < (x1000.length : Int) then (if 0 ≤ (wrap64 (x1001 - 1)) then (if x1 = 0 then (none) else (some (Int.tmod (wrap64 (rd x1000 (wrap64 (x1001 - 1)))) x1, x1001))) else (none)) else (if (x1000.length : Int) = 0 then (none) else (if 0 ≤ (Int.tmod (wrap64 (x1001 - 1)) (x1000.length : Int)) then (if (Int.tmod (wrap64 (x1001 - 1)) (x1000.length : Int)) < (x1000.length : Int) then (if 0 ≤ (Int.tmod (wrap64 ((wrap64 ((wrap64 (x1001 - 1)) * 7)) + 3)) (x1000.length : Int)) then (if (Int.tmod (wrap64 ((wrap64 ((wrap64 (x1001 - 1)) * 7)) + 3)) (x1000.length : Int)) < (x1000.length : Int) then (if x1 = 0 then (none) else (some (Int.tmod (Go.bits .xor .i64 (wrap64 ((wrap64 ((wrap64 ((wrap64 ((wrap64 (rd x1000 (Int.tmod (wrap64 (x1001 - 1)) (x1000.length : Int)))) * 131)) + (wrap64 ((wrap64 (rd x1000 (Int.tmod (wrap64 ((wrap64 ((wrap64 (x1001 - 1)) * 7)) + 3)) (x1000.length : Int)))) * 1117)))) + (wrap64 ((wrap64 (x1001 - 1)) * 29)))) + (wrap64 ((wrap64 (Int.tdiv (wrap64 (x1001 - 1)) (x1000.length : Int))) * 53)))) (wrap64 (Int.tdiv (wrap64 ((wrap64 ((wrap64 ((wrap64 ((wrap64 (rd x1000 (Int.tmod (wrap64 (x1001 - 1)) (x1000.length : Int)))) * 131)) + (wrap64 ((wrap64 (rd x1000 (Int.tmod (wrap64 ((wrap64 ((wrap64 (x1001 - 1)) * 7)) + 3)) (x1000.length : Int)))) * 1117)))) + (wrap64 ((wrap64 (x1001 - 1)) * 29)))) + (wrap64 ((wrap64 (Int.tdiv (wrap64 (x1001 - 1)) (x1000.length : Int))) * 53)))) 64))) x1, x1001))) else (none)) else (none)) else (none)) else (none))))) (by simp only [spec_l20Rd_pick.j0]) (fun k => by simp only [spec_l20Rd_pick.j0]) ?_)
  repeat' first
    | (with_reducible exact LimIs.const _)
    | (with_reducible refine LimIs.ite ?_ ?_)
    | (with_reducible refine LimIs.bind ?_ (fun _ => ?_))
theorem spec_l20Rd_pick.fL_eq (s0_0 : List Int) (s0_1 : Int) (a1 : Int) : spec_l20Rd_pick.fL s0_0 s0_1 a1 = if a1 < 1 then (spec_l20Rd_pick.j0L a1 true s0_0 (wrap64 (s0_1 + 1))) else (spec_l20Rd_pick.j0L a1 ((s0_0.length : Int) == 0) s0_0 (wrap64 (s0_1 + 1))) := by
  refine LimIs.unique (spec_l20Rd_pick.fL_is s0_0 s0_1 a1) ?_
  unfold spec_l20Rd_pick.f
  repeat' first
    | (with_reducible exact LimIs.const _)
    | (with_reducible exact spec_l20Rd_pick.j0L_is _ _ _ _)
    | (with_reducible refine LimIs.ite ?_ ?_)
    | (with_reducible refine LimIs.bind ?_ (fun _ => ?_))
/-! ### spec_l20Rd_odd -/
noncomputable def spec_l20Rd_odd.fL (s0_0 : List Int) (s0_1 : Int) (a1 : Int) : Option (Bool × Int) := Lim (fun k => spec_l20Rd_odd.f k s0_0 s0_1 a1)
theorem spec_l20Rd_odd.fL_is (s0_0 : List Int) (s0_1 : Int) (a1 : Int) : LimIs (fun k => spec_l20Rd_odd.f k s0_0 s0_1 a1) (spec_l20Rd_odd.fL s0_0 s0_1 a1) := LimIs.of_mono (fun k r h => spec_l20Rd_odd.mono s0_0 s0_1 a1 k r h)
theorem spec_l20Rd_odd.fL_eq (s0_0 : List Int) (s0_1 : Int) (a1 : Int) : spec_l20Rd_odd.fL s0_0 s0_1 a1 = if a1 > 0 then ((spec_l20Rd_pick.fL s0_0 s0_1 a1).bind fun bt131 => (some ((bt131.1 == (wrap64 (a1 - 1))), bt131.2))) else (some (false, s0_1)) := by
  refine LimIs.unique (spec_l20Rd_odd.fL_is s0_0 s0_1 a1) ?_
  unfold spec_l20Rd_odd.f
  repeat' first
    | (with_reducible exact LimIs.const _)
    | (with_reducible exact spec_l20Rd_pick.fL_is _ _ _)
    | (with_reducible refine LimIs.ite ?_ ?_)
    | (with_reducible refine LimIs.bind ?_ (fun _ => ?_))
/-! ### spec_l20Order -/
noncomputable def spec_l20Order.l0L (x1 : Int) (x2 : Int) (x7 : List Int) (x8 : Int) (x1000 : List Int) (x1001 : Int) : Option (List Int × Int) := Lim (fun k => spec_l20Order.l0 k x1 x2 x7 x8 x1000 x1001)
theorem spec_l20Order.l0L_is (x1 : Int) (x2 : Int) (x7 : List Int) (x8 : Int) (x1000 : List Int) (x1001 : Int) : LimIs (fun k => spec_l20Order.l0 k x1 x2 x7 x8 x1000 x1001) (spec_l20Order.l0L x1 x2 x7 x8 x1000 x1001) := LimIs.of_mono (fun k r h => (spec_l20Order.mono_l k).1 x1 x2 x7 x8 x1000 x1001 r h)
noncomputable def spec_l20Order.l1L (x1 : Int) (x2 : Int) (x7 : List Int) (x9 : Int) (x1000 : List Int) (x1001 : Int) : Option (List Int × Int) := Lim (fun k => spec_l20Order.l1 k x1 x2 x7 x9 x1000 x1001)
theorem spec_l20Order.l1L_is (x1 : Int) (x2 : Int) (x7 : List Int) (x9 : Int) (x1000 : List Int) (x1001 : Int) : LimIs (fun k => spec_l20Order.l1 k x1 x2 x7 x9 x1000 x1001) (spec_l20Order.l1L x1 x2 x7 x9 x1000 x1001) := LimIs.of_mono (fun k r h => (spec_l20Order.mono_l k).2 x1 x2 x7 x9 x1000 x1001 r h)
noncomputable def spec_l20Order.fL (s0_0 : List Int) (s0_1 : Int) (a1 : Int) (a2 : Int) : Option (List Int × Int) := Lim (fun k => spec_l20Order.f k s0_0 s0_1 a1 a2)
theorem spec_l20Order.fL_is (s0_0 : List Int) (s0_1 : Int) (a1 : Int) (a2 : Int) : LimIs (fun k => spec_l20Order.f k s0_0 s0_1 a1 a2) (spec_l20Order.fL s0_0 s0_1 a1 a2) := LimIs.of_mono (fun k r h => spec_l20Order.mono s0_0 s0_1 a1 a2 k r h)
theorem spec_l20Order.l0L_eq (x1 : Int) (x2 : Int) (x7 : List Int) (x8 : Int) (x1000 : List Int) (x1001 : Int) : spec_l20Order.l0L x1 x2 x7 x8 x1000 x1001 = if x8 < x1 then (if x7.length < 17592186044416 then (spec_l20Order.l0L x1 x2 (x7 ++ [x8]) (wrap64 (x8 + 1)) x1000 x1001) else (none)) else (spec_l20Order.l1L x1 x2 x7 0 x1000 x1001) := by
  refine LimIs.unique (spec_l20Order.l0L_is x1 x2 x7 x8 x1000 x1001) (LimIs.step (f := fun k => if x8 < x1 then (if x7.length < 17592186044416 then (spec_l20Order.l0 k x1 x2 (x7 ++ [x8]) (wrap64 (x8 + 1)) x1000 x1001) else (none)) else (spec_l20Order.l1 k x1 x2 x7 0 x1000 x1001)) (by simp only [spec_l20Order.l0]) (fun k => by simp only [spec_l20Order.l0]) ?_)
  repeat' first
    | (with_reducible exact LimIs.const _)
    | (with_reducible exact spec_l20Order.l0L_is _ _ _ _ _ _)
    | (with_reducible exact spec_l20Order.l1L_is _ _ _ _ _ _)
    | (with_reducible refine LimIs.ite ?_ ?_)
    | (with_reducible refine LimIs.bind ?_ (fun _ => ?_))
theorem spec_l20Order.l1L_eq (x1 : Int) (x2 : Int) (x7 : List Int) (x9 : Int) (x1000 : List Int) (x1001 : Int) : spec_l20Order.l1L x1 x2 x7 x9 x1000 x1001 = if x9 < x1 then ((spec_l20Rd_pick.fL x1000 x1001 x1).bind fun bt139 => (if 0 ≤ x9 then (if x9 < (x7.length : Int) then (if 0 ≤ bt139.1 then (if bt139.1 < (x7.length : Int) then (spec_l20Order.l1L x1 x2 ((x7.set (x9 : Int).toNat (rd x7 bt139.1)).set (bt139.1 : Int).toNat (rd x7 x9)) (wrap64 (x9 + 1)) x1000 bt139.2) else (none)) else (none)) else (none)) else (none))) else ((spec_l20Rd_odd.fL x1000 x1001 x2).bind fun bt145 => (if bt145.1 = true then ((some (([0, (-1), x1] : List Int) : List Int)).bind fun y147 => ((spec_l20Rd_pick.fL x1000 bt145.2 3).bind fun bt150 => (if 0 ≤ bt150.1 then (if bt150.1 < (y147.length : Int) then (if x7.length < 17592186044416 then (some ((x7 ++ [rd y147 bt150.1]), bt150.2)) else (none)) else (none)) else (none)))) else (some (x7, bt145.2)))) := by
  refine LimIs.unique (spec_l20Order.l1L_is x1 x2 x7 x9 x1000 x1001) (LimIs.step (f := fun k => if x9 < x1 then ((spec_l20Rd_pick.f k x1000 x1001 x1).bind fun bt139 => (if 0 ≤ x9 then (if x9 < (x7.length : Int) then (if 0 ≤ bt139.1 then (if bt139.1 < (x7.length : Int) then (spec_l20Order.l1 k x1 x2 ((x7.set (x9 : Int).toNat (rd x7 bt139.1)).set (bt139.1 : Int).toNat (rd x7 x9)) (wrap64 (x9 + 1)) x1000 bt139.2) else (none)) else (none)) else (none)) else (none))) else ((spec_l20Rd_odd.f k x1000 x1001 x2).bind fun bt145 => (if bt145.1 = true then ((some (([0, (-1), x1] : List Int) : List Int)).bind fun y147 => ((spec_l20Rd_pick.f k x1000 bt145.2 3).bind fun bt150 => (if 0 ≤ bt150.1 then (if bt150.1 < (y147.length : Int) then (if x7.length < 17592186044416 then (some ((x7 ++ [rd y147 bt150.1]), bt150.2)) else (none)) else (none)) else (none)))) else (some (x7, bt145.2))))) (by simp only [spec_l20Order.l1]) (fun k => by simp only [spec_l20Order.l1]) ?_)
  repeat' first
    | (with_reducible exact LimIs.const _)
    | (with_reducible exact spec_l20Order.l1L_is _ _ _ _ _ _)
    | (with_reducible exact spec_l20Rd_odd.fL_is _ _ _)
    | (with_reducible exact spec_l20Rd_pick.fL_is _ _ _)
    | (with_reducible refine LimIs.ite ?_ ?_)
    | (with_reducible refine LimIs.bind ?_ (fun _ => ?_))
theorem spec_l20Order.fL_eq (s0_0 : List Int) (s0_1 : Int) (a1 : Int) (a2 : Int) : spec_l20Order.fL s0_0 s0_1 a1 a2 = spec_l20Order.l0L a1 a2 (([] : List Int)) 0 s0_0 s0_1 := by
  refine LimIs.unique (spec_l20Order.fL_is s0_0 s0_1 a1 a2) ?_
  unfold spec_l20Order.f
  repeat' first
    | (with_reducible exact LimIs.const _)
    | (with_reducible exact spec_l20Order.l0L_is _ _ _ _ _ _)
    | (with_reducible refine LimIs.ite ?_ ?_)
    | (with_reducible refine LimIs.bind ?_ (fun _ => ?_))
/-! ### spec_DrawOrderValid -/
noncomputable def spec_DrawOrderValid.fL (l0 : List Int) : Option (Int × List Int) := Lim (fun k => spec_DrawOrderValid.f k l0)
theorem spec_DrawOrderValid.fL_is (l0 : List Int) : LimIs (fun k => spec_DrawOrderValid.f k l0) (spec_DrawOrderValid.fL l0) := LimIs.of_mono (fun k r h => spec_DrawOrderValid.mono l0 k r h)
theorem spec_DrawOrderValid.fL_eq (l0 : List Int) : spec_DrawOrderValid.fL l0 = (spec_l20Open.f l0).bind fun bt156 => ((spec_l20Rd_pick.fL bt156.1 bt156.2 7).bind fun bt159 => ((spec_l20Rd_pick.fL bt156.1 bt159.2 12).bind fun bt161 => ((spec_l20Order.fL bt156.1 bt161.2 bt159.1 4).bind fun bt163 => (some (wrap64 (bt159.1 + (wrap64 (Int.tdiv bt161.1 11))), bt163.1))))) := by
  refine LimIs.unique (spec_DrawOrderValid.fL_is l0) ?_
  unfold spec_DrawOrderValid.f
  repeat' first
    | (with_reducible exact LimIs.const _)
    | (with_reducible exact spec_l20Order.fL_is _ _ _ _)
    | (with_reducible exact spec_l20Rd_pick.fL_is _ _ _)
    | (with_reducible refine LimIs.ite ?_ ?_)
    | (with_reducible refine LimIs.bind ?_ (fun _ => ?_))
/-! ### laws_FnOrderValid -/
noncomputable def laws_FnOrderValid.l0L (x3 : Int) (x4 : List Int) (x5 : Bool) (x6 : List Int) (x7 : Int) : Option (Bool) := Lim (fun k => laws_FnOrderValid.l0 k x3 x4 x5 x6 x7)
theorem laws_FnOrderValid.l0L_is (x3 : Int) (x4 : List Int) (x5 : Bool) (x6 : List Int) (x7 : Int) : LimIs (fun k => laws_FnOrderValid.l0 k x3 x4 x5 x6 x7) (laws_FnOrderValid.l0L x3 x4 x5 x6 x7) := LimIs.of_mono (fun k r h => (laws_FnOrderValid.mono_l k) x3 x4 x5 x6 x7 r h)
noncomputable def laws_FnOrderValid.fL (l0 : List Int) : Option (Bool) := Lim (fun k => laws_FnOrderValid.f k l0)
theorem laws_FnOrderValid.fL_is (l0 : List Int) : LimIs (fun k => laws_FnOrderValid.f k l0) (laws_FnOrderValid.fL l0) := LimIs.of_mono (fun k r h => laws_FnOrderValid.mono l0 k r h)
theorem laws_FnOrderValid.l0L_eq (x3 : Int) (x4 : List Int) (x5 : Bool) (x6 : List Int) (x7 : Int) : laws_FnOrderValid.l0L x3 x4 x5 x6 x7 = if x7 ≥ 0 then (if 0 ≤ x7 then (if x7 < (x4.length : Int) then (if x6.length < 17592186044416 then (laws_FnOrderValid.l0L x3 x4 x5 (x6 ++ [rd x4 x7]) (wrap64 (x7 - 1))) else (none)) else (none)) else (none)) else (if 0 ≤ (wrap64 ((x4.length : Int) - 1)) then (if (wrap64 ((x4.length : Int) - 1)) ≤ (x4.length : Int) then ((impl_OrderValid.fL (x4.length : Int) (x4.take ((wrap64 ((x4.length : Int) - 1)) : Int).toNat)).bind fun t185 => (if t185 = true then (some false) else ((impl_OrderValid.fL x3 x6).bind fun t186 => (if (t186 == x5) = true then ((laws_alive.fL).bind fun t187 => (some t187)) else (some false))))) else (none)) else (none)) := by
  refine LimIs.unique (laws_FnOrderValid.l0L_is x3 x4 x5 x6 x7) (LimIs.step (f := fun k => if x7 ≥ 0 then (if 0 ≤ x7 then (if x7 < (x4.length : Int) then (if x6.length < 17592186044416 then (laws_FnOrderValid.l0 k x3 x4 x5 (x6 ++ [rd x4 x7]) (wrap64 (x7 - 1))) else (none)) else (none)) else (none)) else (if 0 ≤ (wrap64 ((x4.length : Int) - 1)) then (if (wrap64 ((x4.length : Int) - 1)) ≤ (x4.length : Int) then ((impl_OrderValid.f k (x4.length : Int) (x4.take ((wrap64 ((x4.length : Int) - 1)) : Int).toNat)).bind fun t185 => (if t185 = true then (some false) else ((impl_OrderValid.f k x3 x6).bind fun t186 => (if (t186 == x5) = true then ((laws_alive.f k).bind fun t187 => (some t187)) else (some false))))) else (none)) else (none))) (by simp only [laws_FnOrderValid.l0]) (fun k => by simp only [laws_FnOrderValid.l0]) ?_)
  repeat' first
    | (with_reducible exact LimIs.const _)
    | (with_reducible exact impl_OrderValid.fL_is _ _)
    | (with_reducible exact laws_FnOrderValid.l0L_is _ _ _ _ _)
    | (with_reducible exact laws_alive.fL_is)
    | (with_reducible refine LimIs.ite ?_ ?_)
    | (with_reducible refine LimIs.bind ?_ (fun _ => ?_))
theorem laws_FnOrderValid.fL_eq (l0 : List Int) : laws_FnOrderValid.fL l0 = if (l0.length : Int) > 1048576 then (some true) else ((spec_DrawOrderValid.fL l0).bind fun bt167 => ((impl_OrderValid.fL bt167.1 bt167.2).bind fun t171 => ((spec_OrderValid.fL bt167.1 bt167.2).bind fun t172 => (if (t171 != t172) = true then (some false) else (if (bt167.2.length : Int) = 0 then (if (t171 == (bt167.1 == 0)) = true then ((laws_alive.fL).bind fun t173 => (some t173)) else (some false)) else (laws_FnOrderValid.l0L bt167.1 bt167.2 t171 (([] : List Int)) (wrap64 ((bt167.2.length : Int) - 1)))))))) := by
  refine LimIs.unique (laws_FnOrderValid.fL_is l0) ?_
  unfold laws_FnOrderValid.f
  repeat' first
    | (with_reducible exact LimIs.const _)
    | (with_reducible exact impl_OrderValid.fL_is _ _)
    | (with_reducible exact laws_FnOrderValid.l0L_is _ _ _ _ _)
    | (with_reducible exact laws_alive.fL_is)
    | (with_reducible exact spec_DrawOrderValid.fL_is _)
    | (with_reducible exact spec_OrderValid.fL_is _ _)
    | (with_reducible refine LimIs.ite ?_ ?_)
    | (with_reducible refine LimIs.bind ?_ (fun _ => ?_))
end Go.Proofs.Ytpeifepnaecjiaa.PFnOrderValid
