/- The limits of the printed functions, and their equations. Written by lim.py out of the print. No condition. -/
import Derived.Test.YtpeifepnaecjiaaPFnExactOrderValidx2
import Derived.Test.YtpeifepnaecjiaaLim
namespace Go.Proofs.Ytpeifepnaecjiaa.PFnExactOrderValid
open Go.RowKit Go.Proofs.YtpeifepnaecjiaaW.PrintWords Go.Proofs.YtpeifepnaecjiaaW.PrintLast Go.Proofs.YtpeifepnaecjiaaW.PrintMore Go.Proofs.Ytpeifepnaecjiaa.Lim
set_option linter.unusedVariables false

/-! ### spec_OrderValid -/
noncomputable def spec_OrderValid.j0L (x0 : Int) (x1 : List Int) (x14 : Bool) : Option (Bool) := Lim (fun k => spec_OrderValid.j0 k x0 x1 x14)
theorem spec_OrderValid.j0L_is (x0 : Int) (x1 : List Int) (x14 : Bool) : LimIs (fun k => spec_OrderValid.j0 k x0 x1 x14) (spec_OrderValid.j0L x0 x1 x14) := LimIs.of_mono (fun k r h => (spec_OrderValid.mono_l k).1 x0 x1 x14 r h)
noncomputable def spec_OrderValid.l0L (x0 : Int) (x1 : List Int) (x5 : Int) : Option (Bool) := Lim (fun k => spec_OrderValid.l0 k x0 x1 x5)
theorem spec_OrderValid.l0L_is (x0 : Int) (x1 : List Int) (x5 : Int) : LimIs (fun k => spec_OrderValid.l0 k x0 x1 x5) (spec_OrderValid.l0L x0 x1 x5) := LimIs.of_mono (fun k r h => (spec_OrderValid.mono_l k).2.1 x0 x1 x5 r h)
noncomputable def spec_OrderValid.l1L (x0 : Int) (x1 : List Int) (x5 : Int) (x6 : Int) : Option (Bool) := Lim (fun k => spec_OrderValid.l1 k x0 x1 x5 x6)
theorem spec_OrderValid.l1L_is (x0 : Int) (x1 : List Int) (x5 : Int) (x6 : Int) : LimIs (fun k => spec_OrderValid.l1 k x0 x1 x5 x6) (spec_OrderValid.l1L x0 x1 x5 x6) := LimIs.of_mono (fun k r h => (spec_OrderValid.mono_l k).2.2 x0 x1 x5 x6 r h)
noncomputable def spec_OrderValid.fL (a0 : Int) (l1 : List Int) : Option (Bool) := Lim (fun k => spec_OrderValid.f k a0 l1)
theorem spec_OrderValid.fL_is (a0 : Int) (l1 : List Int) : LimIs (fun k => spec_OrderValid.f k a0 l1) (spec_OrderValid.fL a0 l1) := LimIs.of_mono (fun k r h => spec_OrderValid.mono a0 l1 k r h)
theorem spec_OrderValid.j0L_eq (x0 : Int) (x1 : List Int) (x14 : Bool) : spec_OrderValid.j0L x0 x1 x14 = if x14 = true then (some false) else (spec_OrderValid.l0L x0 x1 0) := by
  refine LimIs.unique (spec_OrderValid.j0L_is x0 x1 x14) (LimIs.step (f := fun k => if x14 = true then (some false) else (spec_OrderValid.l0 k x0 x1 0)) (by simp only [spec_OrderValid.j0]) (fun k => by simp only [spec_OrderValid.j0]) ?_)
  repeat' first
    | (with_reducible exact LimIs.const _)
    | (with_reducible exact spec_OrderValid.l0L_is _ _ _)
    | (with_reducible refine LimIs.ite ?_ ?_)
    | (with_reducible refine LimIs.bind ?_ (fun _ => ?_))
theorem spec_OrderValid.l0L_eq (x0 : Int) (x1 : List Int) (x5 : Int) : spec_OrderValid.l0L x0 x1 x5 = if x5 < (x1.length : Int) then (if 0 ≤ x5 then ((spec_l1In.f (rd x1 x5) 0 (wrap64 (x0 - 1))).bind fun t102 => (if t102 = true then (spec_OrderValid.l1L x0 x1 x5 0) else (some false))) else (none)) else (some true) := by
  refine LimIs.unique (spec_OrderValid.l0L_is x0 x1 x5) (LimIs.step (f := fun k => if x5 < (x1.length : Int) then (if 0 ≤ x5 then ((spec_l1In.f (rd x1 x5) 0 (wrap64 (x0 - 1))).bind fun t102 => (if t102 = true then (spec_OrderValid.l1 k x0 x1 x5 0) else (some false))) else (none)) else (some true)) (by simp only [spec_OrderValid.l0]) (fun k => by simp only [spec_OrderValid.l0]) ?_)
  repeat' first
    | (with_reducible exact LimIs.const _)
    | (with_reducible exact spec_OrderValid.l1L_is _ _ _ _)
    | (with_reducible refine LimIs.ite ?_ ?_)
    | (with_reducible refine LimIs.bind ?_ (fun _ => ?_))
theorem spec_OrderValid.l1L_eq (x0 : Int) (x1 : List Int) (x5 : Int) (x6 : Int) : spec_OrderValid.l1L x0 x1 x5 x6 = if x6 < x5 then (if 0 ≤ x6 then (if x6 < (x1.length : Int) then (if 0 ≤ x5 then (if x5 < (x1.length : Int) then (if (rd x1 x6) = (rd x1 x5) then (some false) else (spec_OrderValid.l1L x0 x1 x5 (wrap64 (x6 + 1)))) else (none)) else (none)) else (none)) else (none)) else (spec_OrderValid.l0L x0 x1 (wrap64 (x5 + 1))) := by
  refine LimIs.unique (spec_OrderValid.l1L_is x0 x1 x5 x6) (LimIs.step (f := fun k => if x6 < x5 then (if 0 ≤ x6 then (if x6 < (x1.length : Int) then (if 0 ≤ x5 then (if x5 < (x1.length : Int) then (if (rd x1 x6) = (rd x1 x5) then (some false) else (spec_OrderValid.l1 k x0 x1 x5 (wrap64 (x6 + 1)))) else (none)) else (none)) else (none)) else (none)) else (spec_OrderValid.l0 k x0 x1 (wrap64 (x5 + 1)))) (by simp only [spec_OrderValid.l1]) (fun k => by simp only [spec_OrderValid.l1]) ?_)
  repeat' first
    | (with_reducible exact LimIs.const _)
    | (with_reducible exact spec_OrderValid.l0L_is _ _ _)
    | (with_reducible exact spec_OrderValid.l1L_is _ _ _ _)
    | (with_reducible refine LimIs.ite ?_ ?_)
    | (with_reducible refine LimIs.bind ?_ (fun _ => ?_))
theorem spec_OrderValid.fL_eq (a0 : Int) (l1 : List Int) : spec_OrderValid.fL a0 l1 = if a0 > 5 then (spec_OrderValid.j0L a0 l1 true) else (spec_OrderValid.j0L a0 l1 ((l1.length : Int) != a0)) := by
  refine LimIs.unique (spec_OrderValid.fL_is a0 l1) ?_
  unfold spec_OrderValid.f
  repeat' first
    | (with_reducible exact LimIs.const _)
    | (with_reducible exact spec_OrderValid.j0L_is _ _ _)
    | (with_reducible refine LimIs.ite ?_ ?_)
    | (with_reducible refine LimIs.bind ?_ (fun _ => ?_))
/-! ### laws_toIntS -/
noncomputable def laws_toIntS.l0L (x0 : List Int) (x3 : List Int) (x4 : Int) : Option (List Int) := Lim (fun k => laws_toIntS.l0 k x0 x3 x4)
theorem laws_toIntS.l0L_is (x0 : List Int) (x3 : List Int) (x4 : Int) : LimIs (fun k => laws_toIntS.l0 k x0 x3 x4) (laws_toIntS.l0L x0 x3 x4) := LimIs.of_mono (fun k r h => (laws_toIntS.mono_l k) x0 x3 x4 r h)
noncomputable def laws_toIntS.fL (l0 : List Int) : Option (List Int) := Lim (fun k => laws_toIntS.f k l0)
theorem laws_toIntS.fL_is (l0 : List Int) : LimIs (fun k => laws_toIntS.f k l0) (laws_toIntS.fL l0) := LimIs.of_mono (fun k r h => laws_toIntS.mono l0 k r h)
theorem laws_toIntS.l0L_eq (x0 : List Int) (x3 : List Int) (x4 : Int) : laws_toIntS.l0L x0 x3 x4 = if x4 < (x0.length : Int) then (if 0 ≤ x4 then (if x4 < (x3.length : Int) then (laws_toIntS.l0L x0 (x3.set (x4 : Int).toNat (rd x0 x4)) (wrap64 (x4 + 1))) else (none)) else (none)) else (some x3) := by
  refine LimIs.unique (laws_toIntS.l0L_is x0 x3 x4) (LimIs.step (f := fun k => if x4 < (x0.length : Int) then (if 0 ≤ x4 then (if x4 < (x3.length : Int) then (laws_toIntS.l0 k x0 (x3.set (x4 : Int).toNat (rd x0 x4)) (wrap64 (x4 + 1))) else (none)) else (none)) else (some x3)) (by simp only [laws_toIntS.l0]) (fun k => by simp only [laws_toIntS.l0]) ?_)
  repeat' first
    | (with_reducible exact LimIs.const _)
    | (with_reducible exact laws_toIntS.l0L_is _ _ _)
    | (with_reducible refine LimIs.ite ?_ ?_)
    | (with_reducible refine LimIs.bind ?_ (fun _ => ?_))
theorem laws_toIntS.fL_eq (l0 : List Int) : laws_toIntS.fL l0 = if 0 ≤ (l0.length : Int) then (if ((l0.length : Int) : Int).toNat ≤ 35184372088832 then (laws_toIntS.l0L l0 (List.replicate ((l0.length : Int) : Int).toNat 0) 0) else (none)) else (none) := by
  refine LimIs.unique (laws_toIntS.fL_is l0) ?_
  unfold laws_toIntS.f
  repeat' first
    | (with_reducible exact LimIs.const _)
    | (with_reducible exact laws_toIntS.l0L_is _ _ _)
    | (with_reducible refine LimIs.ite ?_ ?_)
    | (with_reducible refine LimIs.bind ?_ (fun _ => ?_))
/-! ### slices_Index_int_int -/
noncomputable def slices_Index_int_int.l0L (x0 : List Int) (x1 : Int) (x7 : Int) (x8 : Int) : Option (Int) := Lim (fun k => slices_Index_int_int.l0 k x0 x1 x7 x8)
theorem slices_Index_int_int.l0L_is (x0 : List Int) (x1 : Int) (x7 : Int) (x8 : Int) : LimIs (fun k => slices_Index_int_int.l0 k x0 x1 x7 x8) (slices_Index_int_int.l0L x0 x1 x7 x8) := LimIs.of_mono (fun k r h => (slices_Index_int_int.mono_l k) x0 x1 x7 x8 r h)
noncomputable def slices_Index_int_int.fL (l0 : List Int) (a1 : Int) : Option (Int) := Lim (fun k => slices_Index_int_int.f k l0 a1)
theorem slices_Index_int_int.fL_is (l0 : List Int) (a1 : Int) : LimIs (fun k => slices_Index_int_int.f k l0 a1) (slices_Index_int_int.fL l0 a1) := LimIs.of_mono (fun k r h => slices_Index_int_int.mono l0 a1 k r h)
theorem slices_Index_int_int.l0L_eq (x0 : List Int) (x1 : Int) (x7 : Int) (x8 : Int) : slices_Index_int_int.l0L x0 x1 x7 x8 = if x8 < x7 then (if 0 ≤ x8 then (if x8 < (x0.length : Int) then (if x1 = (rd x0 x8) then (some x8) else (slices_Index_int_int.l0L x0 x1 x7 (wrap64 (x8 + 1)))) else (none)) else (none)) else (some (-1)) := by
  refine LimIs.unique (slices_Index_int_int.l0L_is x0 x1 x7 x8) (LimIs.step (f := fun k => if x8 < x7 then (if 0 ≤ x8 then (if x8 < (x0.length : Int) then (if x1 = (rd x0 x8) then (some x8) else (slices_Index_int_int.l0 k x0 x1 x7 (wrap64 (x8 + 1)))) else (none)) else (none)) else (some (-1))) (by simp only [slices_Index_int_int.l0]) (fun k => by simp only [slices_Index_int_int.l0]) ?_)
  repeat' first
    | (with_reducible exact LimIs.const _)
    | (with_reducible exact slices_Index_int_int.l0L_is _ _ _ _)
    | (with_reducible refine LimIs.ite ?_ ?_)
    | (with_reducible refine LimIs.bind ?_ (fun _ => ?_))
theorem slices_Index_int_int.fL_eq (l0 : List Int) (a1 : Int) : slices_Index_int_int.fL l0 a1 = slices_Index_int_int.l0L l0 a1 (l0.length : Int) 0 := by
  refine LimIs.unique (slices_Index_int_int.fL_is l0 a1) ?_
  unfold slices_Index_int_int.f
  repeat' first
    | (with_reducible exact LimIs.const _)
    | (with_reducible exact slices_Index_int_int.l0L_is _ _ _ _)
    | (with_reducible refine LimIs.ite ?_ ?_)
    | (with_reducible refine LimIs.bind ?_ (fun _ => ?_))
/-! ### slices_Contains_int_int -/
noncomputable def slices_Contains_int_int.fL (l0 : List Int) (a1 : Int) : Option (Bool) := Lim (fun k => slices_Contains_int_int.f k l0 a1)
theorem slices_Contains_int_int.fL_is (l0 : List Int) (a1 : Int) : LimIs (fun k => slices_Contains_int_int.f k l0 a1) (slices_Contains_int_int.fL l0 a1) := LimIs.of_mono (fun k r h => slices_Contains_int_int.mono l0 a1 k r h)
theorem slices_Contains_int_int.fL_eq (l0 : List Int) (a1 : Int) : slices_Contains_int_int.fL l0 a1 = (slices_Index_int_int.fL l0 a1).bind fun t111 => (some (decide (t111 ≥ 0))) := by
  refine LimIs.unique (slices_Contains_int_int.fL_is l0 a1) ?_
  unfold slices_Contains_int_int.f
  repeat' first
    | (with_reducible exact LimIs.const _)
    | (with_reducible exact slices_Index_int_int.fL_is _ _)
    | (with_reducible refine LimIs.ite ?_ ?_)
    | (with_reducible refine LimIs.bind ?_ (fun _ => ?_))
/-! ### impl_OrderValid -/
noncomputable def impl_OrderValid.j0L (x0 : Int) (x1 : List Int) (x15 : Bool) : Option (Bool) := Lim (fun k => impl_OrderValid.j0 k x0 x1 x15)
theorem impl_OrderValid.j0L_is (x0 : Int) (x1 : List Int) (x15 : Bool) : LimIs (fun k => impl_OrderValid.j0 k x0 x1 x15) (impl_OrderValid.j0L x0 x1 x15) := LimIs.of_mono (fun k r h => (impl_OrderValid.mono_l k).1 x0 x1 x15 r h)
noncomputable def impl_OrderValid.l0L (x0 : Int) (x1 : List Int) (x16 : List Int) (x17 : Int) (x18 : Int) : Option (Bool) := Lim (fun k => impl_OrderValid.l0 k x0 x1 x16 x17 x18)
theorem impl_OrderValid.l0L_is (x0 : Int) (x1 : List Int) (x16 : List Int) (x17 : Int) (x18 : Int) : LimIs (fun k => impl_OrderValid.l0 k x0 x1 x16 x17 x18) (impl_OrderValid.l0L x0 x1 x16 x17 x18) := LimIs.of_mono (fun k r h => (impl_OrderValid.mono_l k).2 x0 x1 x16 x17 x18 r h)
noncomputable def impl_OrderValid.fL (a0 : Int) (l1 : List Int) : Option (Bool) := Lim (fun k => impl_OrderValid.f k a0 l1)
theorem impl_OrderValid.fL_is (a0 : Int) (l1 : List Int) : LimIs (fun k => impl_OrderValid.f k a0 l1) (impl_OrderValid.fL a0 l1) := LimIs.of_mono (fun k r h => impl_OrderValid.mono a0 l1 k r h)
theorem impl_OrderValid.j0L_eq (x0 : Int) (x1 : List Int) (x15 : Bool) : impl_OrderValid.j0L x0 x1 x15 = if x15 = true then (some false) else (impl_OrderValid.l0L x0 x1 x1 (x1.length : Int) 0) := by
  refine LimIs.unique (impl_OrderValid.j0L_is x0 x1 x15) (LimIs.step (f := fun k => if x15 = true then (some false) else (impl_OrderValid.l0 k x0 x1 x1 (x1.length : Int) 0)) (by simp only [impl_OrderValid.j0]) (fun k => by simp only [impl_OrderValid.j0]) ?_)
  repeat' first
    | (with_reducible exact LimIs.const _)
    | (with_reducible exact impl_OrderValid.l0L_is _ _ _ _ _)
    | (with_reducible refine LimIs.ite ?_ ?_)
    | (with_reducible refine LimIs.bind ?_ (fun _ => ?_))
theorem impl_OrderValid.l0L_eq (x0 : Int) (x1 : List Int) (x16 : List Int) (x17 : Int) (x18 : Int) : impl_OrderValid.l0L x0 x1 x16 x17 x18 = if x18 < x17 then (if 0 ≤ x18 then (if x18 < (x16.length : Int) then (if (rd x16 x18) < 0 then (some false) else (if (rd x16 x18) ≥ x0 then (some false) else (if x18 ≤ (x1.length : Int) then ((slices_Contains_int_int.fL (x1.take (x18 : Int).toNat) (rd x16 x18)).bind fun t117 => (if t117 = true then (some false) else (impl_OrderValid.l0L x0 x1 x16 x17 (wrap64 (x18 + 1))))) else (none)))) else (none)) else (none)) else (some true) := by
  refine LimIs.unique (impl_OrderValid.l0L_is x0 x1 x16 x17 x18) (LimIs.step (f := fun k => if x18 < x17 then (if 0 ≤ x18 then (if x18 < (x16.length : Int) then (if (rd x16 x18) < 0 then (some false) else (if (rd x16 x18) ≥ x0 then (some false) else (if x18 ≤ (x1.length : Int) then ((slices_Contains_int_int.f k (x1.take (x18 : Int).toNat) (rd x16 x18)).bind fun t117 => (if t117 = true then (some false) else (impl_OrderValid.l0 k x0 x1 x16 x17 (wrap64 (x18 + 1))))) else (none)))) else (none)) else (none)) else (some true)) (by simp only [impl_OrderValid.l0]) (fun k => by simp only [impl_OrderValid.l0]) ?_)
  repeat' first
    | (with_reducible exact LimIs.const _)
    | (with_reducible exact impl_OrderValid.l0L_is _ _ _ _ _)
    | (with_reducible exact slices_Contains_int_int.fL_is _ _)
    | (with_reducible refine LimIs.ite ?_ ?_)
    | (with_reducible refine LimIs.bind ?_ (fun _ => ?_))
theorem impl_OrderValid.fL_eq (a0 : Int) (l1 : List Int) : impl_OrderValid.fL a0 l1 = if (l1.length : Int) > 5 then (impl_OrderValid.j0L a0 l1 true) else (impl_OrderValid.j0L a0 l1 ((l1.length : Int) != a0)) := by
  refine LimIs.unique (impl_OrderValid.fL_is a0 l1) ?_
  unfold impl_OrderValid.f
  repeat' first
    | (with_reducible exact LimIs.const _)
    | (with_reducible exact impl_OrderValid.j0L_is _ _ _)
    | (with_reducible refine LimIs.ite ?_ ?_)
    | (with_reducible refine LimIs.bind ?_ (fun _ => ?_))
/-! ### laws_eqIntS -/
noncomputable def laws_eqIntS.l0L (x0 : List Int) (x1 : List Int) (x5 : Int) : Option (Bool) := Lim (fun k => laws_eqIntS.l0 k x0 x1 x5)
theorem laws_eqIntS.l0L_is (x0 : List Int) (x1 : List Int) (x5 : Int) : LimIs (fun k => laws_eqIntS.l0 k x0 x1 x5) (laws_eqIntS.l0L x0 x1 x5) := LimIs.of_mono (fun k r h => (laws_eqIntS.mono_l k) x0 x1 x5 r h)
noncomputable def laws_eqIntS.fL (l0 : List Int) (l1 : List Int) : Option (Bool) := Lim (fun k => laws_eqIntS.f k l0 l1)
theorem laws_eqIntS.fL_is (l0 : List Int) (l1 : List Int) : LimIs (fun k => laws_eqIntS.f k l0 l1) (laws_eqIntS.fL l0 l1) := LimIs.of_mono (fun k r h => laws_eqIntS.mono l0 l1 k r h)
theorem laws_eqIntS.l0L_eq (x0 : List Int) (x1 : List Int) (x5 : Int) : laws_eqIntS.l0L x0 x1 x5 = if x5 < (x0.length : Int) then (if 0 ≤ x5 then (if x5 < (x1.length : Int) then (if (rd x0 x5) = (rd x1 x5) then (laws_eqIntS.l0L x0 x1 (wrap64 (x5 + 1))) else (some false)) else (none)) else (none)) else (some true) := by
  refine LimIs.unique (laws_eqIntS.l0L_is x0 x1 x5) (LimIs.step (f := fun k => if x5 < (x0.length : Int) then (if 0 ≤ x5 then (if x5 < (x1.length : Int) then (if (rd x0 x5) = (rd x1 x5) then (laws_eqIntS.l0 k x0 x1 (wrap64 (x5 + 1))) else (some false)) else (none)) else (none)) else (some true)) (by simp only [laws_eqIntS.l0]) (fun k => by simp only [laws_eqIntS.l0]) ?_)
  repeat' first
    | (with_reducible exact LimIs.const _)
    | (with_reducible exact laws_eqIntS.l0L_is _ _ _)
    | (with_reducible refine LimIs.ite ?_ ?_)
    | (with_reducible refine LimIs.bind ?_ (fun _ => ?_))
theorem laws_eqIntS.fL_eq (l0 : List Int) (l1 : List Int) : laws_eqIntS.fL l0 l1 = if (l0.length : Int) = (l1.length : Int) then (laws_eqIntS.l0L l0 l1 0) else (some false) := by
  refine LimIs.unique (laws_eqIntS.fL_is l0 l1) ?_
  unfold laws_eqIntS.f
  repeat' first
    | (with_reducible exact LimIs.const _)
    | (with_reducible exact laws_eqIntS.l0L_is _ _ _)
    | (with_reducible refine LimIs.ite ?_ ?_)
    | (with_reducible refine LimIs.bind ?_ (fun _ => ?_))
/-! ### laws_FnExactOrderValid -/
noncomputable def laws_FnExactOrderValid.fL (a0 : Int) (l1 : List Int) : Option (Bool) := Lim (fun k => laws_FnExactOrderValid.f k a0 l1)
theorem laws_FnExactOrderValid.fL_is (a0 : Int) (l1 : List Int) : LimIs (fun k => laws_FnExactOrderValid.f k a0 l1) (laws_FnExactOrderValid.fL a0 l1) := LimIs.of_mono (fun k r h => laws_FnExactOrderValid.mono a0 l1 k r h)
theorem laws_FnExactOrderValid.fL_eq (a0 : Int) (l1 : List Int) : laws_FnExactOrderValid.fL a0 l1 = if (l1.length : Int) > 1048576 then (some true) else ((laws_toIntS.fL l1).bind fun t120 => ((spec_OrderValid.fL a0 t120).bind fun t123 => ((laws_toIntS.fL l1).bind fun t124 => ((impl_OrderValid.fL a0 t124).bind fun t127 => (if (t127 != t123) = true then (some false) else ((laws_toIntS.fL l1).bind fun t128 => ((laws_eqIntS.fL t124 t128).bind fun t131 => (if t131 = true then (some true) else (some false))))))))) := by
  refine LimIs.unique (laws_FnExactOrderValid.fL_is a0 l1) ?_
  unfold laws_FnExactOrderValid.f
  repeat' first
    | (with_reducible exact LimIs.const _)
    | (with_reducible exact impl_OrderValid.fL_is _ _)
    | (with_reducible exact laws_eqIntS.fL_is _ _)
    | (with_reducible exact laws_toIntS.fL_is _)
    | (with_reducible exact spec_OrderValid.fL_is _ _)
    | (with_reducible refine LimIs.ite ?_ ?_)
    | (with_reducible refine LimIs.bind ?_ (fun _ => ?_))
end Go.Proofs.Ytpeifepnaecjiaa.PFnExactOrderValid
