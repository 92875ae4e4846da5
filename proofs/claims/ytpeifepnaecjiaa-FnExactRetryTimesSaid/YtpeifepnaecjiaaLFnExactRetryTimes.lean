/- The limits of the printed functions, and their equations. Written by lim.py out of the print. No condition. -/
import Derived.Test.YtpeifepnaecjiaaPFnExactRetryTimesx2
import Derived.Test.YtpeifepnaecjiaaLim
namespace Go.Proofs.Ytpeifepnaecjiaa.PFnExactRetryTimes
open Go.RowKit Go.Proofs.YtpeifepnaecjiaaW.PrintWords Go.Proofs.YtpeifepnaecjiaaW.PrintLast Go.Proofs.YtpeifepnaecjiaaW.PrintMore Go.Proofs.Ytpeifepnaecjiaa.Lim
set_option linter.unusedVariables false

/-! ### laws_eqIntS -/
noncomputable def laws_eqIntS.l0L (x0 : List Int) (x1 : List Int) (x5 : Int) : Option (Bool) := Lim (fun k => laws_eqIntS.l0 k x0 x1 x5)
theorem laws_eqIntS.l0L_is (x0 : List Int) (x1 : List Int) (x5 : Int) : LimIs (fun k => laws_eqIntS.l0 k x0 x1 x5) (laws_eqIntS.l0L x0 x1 x5) := LimIs.of_mono (fun k r h => (laws_eqIntS.mono_l k) x0 x1 x5 r h)
noncomputable def laws_eqIntS.fL (l0 : List Int) (l1 : List Int) : Option (Bool) := Lim (fun k => laws_eqIntS.f k l0 l1)
theorem laws_eqIntS.fL_is (l0 : List Int) (l1 : List Int) : LimIs (fun k => laws_eqIntS.f k l0 l1) (laws_eqIntS.fL l0 l1) := LimIs.of_mono (fun k r h => laws_eqIntS.mono l0 l1 k r h)
theorem laws_eqIntS.l0L_eq (x0 : List Int) (x1 : List Int) (x5 : Int) : laws_eqIntS.l0L x0 x1 x5 = if x5 < (x0.length : Int) then (if 0 ≤ x5 then (if x5 < (x1.length : Int) then (if (rd x0 x5) = (rd x1 x5) then (laws_eqIntS.l0L x0 x1 (wrap64 (x5 + 1))) else (some false)) else (none)) else (none)) else (some true) := by
  refine LimIs.unique (laws_eqIntS.l0L_is x0 x1 x5) (LimIs.step (f := fun k => if x5 < (x0.length : Int) then (if 0 ≤ x5 then (if x5 < (x1.length : Int) then (if (rd x0 x5) = (rd x1 x5) then (laws_eqIntS.l0 k x0 x1 (wrap64 (x5 + 1))) else (some false)) else (none)) else (none)) else (some true)) (by simp only [laws_eqIntS.l0]) (fun k => by simp only [laws_eqIntS.l0]) ?_)
  repeat' first
    | (with_reducible exact LimIs.const _)
    | (with_reducible exact laws_eqIntS.l0L_is _ _ _)
    | (with_reducible refine LimIs.ite ?_ ?_)
    | (with_reducible refine LimIs.bind ?_ (fun _ => ?_))
theorem laws_eqIntS.fL_eq (l0 : List Int) (l1 : List Int) : laws_eqIntS.fL l0 l1 = if (l0.length : Int) = (l1.length : Int) then (laws_eqIntS.l0L l0 l1 0) else (some false) := by
  refine LimIs.unique (laws_eqIntS.fL_is l0 l1) ?_
  unfold laws_eqIntS.f
  repeat' first
    | (with_reducible exact LimIs.const _)
    | (with_reducible exact laws_eqIntS.l0L_is _ _ _)
    | (with_reducible refine LimIs.ite ?_ ?_)
    | (with_reducible refine LimIs.bind ?_ (fun _ => ?_))
/-! ### spec_Backoff -/
noncomputable def spec_Backoff.l0L (x0 : Int) (x3 : Int) (x4 : Int) : Option (Int) := Lim (fun k => spec_Backoff.l0 k x0 x3 x4)
theorem spec_Backoff.l0L_is (x0 : Int) (x3 : Int) (x4 : Int) : LimIs (fun k => spec_Backoff.l0 k x0 x3 x4) (spec_Backoff.l0L x0 x3 x4) := LimIs.of_mono (fun k r h => (spec_Backoff.mono_l k) x0 x3 x4 r h)
noncomputable def spec_Backoff.fL (a0 : Int) : Option (Int) := Lim (fun k => spec_Backoff.f k a0)
theorem spec_Backoff.fL_is (a0 : Int) : LimIs (fun k => spec_Backoff.f k a0) (spec_Backoff.fL a0) := LimIs.of_mono (fun k r h => spec_Backoff.mono a0 k r h)
theorem spec_Backoff.l0L_eq (x0 : Int) (x3 : Int) (x4 : Int) : spec_Backoff.l0L x0 x3 x4 = if x4 < x0 then (spec_Backoff.l0L x0 (mn 32 (wrap64 (2 * x3))) (wrap64 (x4 + 1))) else (some x3) := by
  refine LimIs.unique (spec_Backoff.l0L_is x0 x3 x4) (LimIs.step (f := fun k => if x4 < x0 then (spec_Backoff.l0 k x0 (mn 32 (wrap64 (2 * x3))) (wrap64 (x4 + 1))) else (some x3)) (by simp only [spec_Backoff.l0]) (fun k => by simp only [spec_Backoff.l0]) ?_)
  repeat' first
    | (with_reducible exact LimIs.const _)
    | (with_reducible exact spec_Backoff.l0L_is _ _ _)
    | (with_reducible refine LimIs.ite ?_ ?_)
    | (with_reducible refine LimIs.bind ?_ (fun _ => ?_))
theorem spec_Backoff.fL_eq (a0 : Int) : spec_Backoff.fL a0 = (spec_l1In.f a0 1 10).bind fun t103 => (if t103 = true then (spec_Backoff.l0L a0 1 1) else (some (-1))) := by
  refine LimIs.unique (spec_Backoff.fL_is a0) ?_
  unfold spec_Backoff.f
  repeat' first
    | (with_reducible exact LimIs.const _)
    | (with_reducible exact spec_Backoff.l0L_is _ _ _)
    | (with_reducible refine LimIs.ite ?_ ?_)
    | (with_reducible refine LimIs.bind ?_ (fun _ => ?_))
/-! ### spec_RetryTimes -/
noncomputable def spec_RetryTimes.j0L (x0 : Int) (x1 : Int) (x5 : List Int) (x16 : Bool) : Option (List Int) := Lim (fun k => spec_RetryTimes.j0 k x0 x1 x5 x16)
theorem spec_RetryTimes.j0L_is (x0 : Int) (x1 : Int) (x5 : List Int) (x16 : Bool) : LimIs (fun k => spec_RetryTimes.j0 k x0 x1 x5 x16) (spec_RetryTimes.j0L x0 x1 x5 x16) := LimIs.of_mono (fun k r h => (spec_RetryTimes.mono_l k).1 x0 x1 x5 x16 r h)
noncomputable def spec_RetryTimes.l0L (x1 : Int) (x5 : List Int) (x6 : Int) (x7 : Int) : Option (List Int) := Lim (fun k => spec_RetryTimes.l0 k x1 x5 x6 x7)
theorem spec_RetryTimes.l0L_is (x1 : Int) (x5 : List Int) (x6 : Int) (x7 : Int) : LimIs (fun k => spec_RetryTimes.l0 k x1 x5 x6 x7) (spec_RetryTimes.l0L x1 x5 x6 x7) := LimIs.of_mono (fun k r h => (spec_RetryTimes.mono_l k).2 x1 x5 x6 x7 r h)
noncomputable def spec_RetryTimes.fL (a0 : Int) (a1 : Int) : Option (List Int) := Lim (fun k => spec_RetryTimes.f k a0 a1)
theorem spec_RetryTimes.fL_is (a0 : Int) (a1 : Int) : LimIs (fun k => spec_RetryTimes.f k a0 a1) (spec_RetryTimes.fL a0 a1) := LimIs.of_mono (fun k r h => spec_RetryTimes.mono a0 a1 k r h)
theorem spec_RetryTimes.j0L_eq (x0 : Int) (x1 : Int) (x5 : List Int) (x16 : Bool) : spec_RetryTimes.j0L x0 x1 x5 x16 = if x16 = true then (some x5) else (spec_RetryTimes.l0L x1 x5 x0 1) := by
  refine LimIs.unique (spec_RetryTimes.j0L_is x0 x1 x5 x16) (LimIs.step (f := fun k => if x16 = true then (some x5) else (spec_RetryTimes.l0 k x1 x5 x0 1)) (by simp only [spec_RetryTimes.j0]) (fun k => by simp only [spec_RetryTimes.j0]) ?_)
  repeat' first
    | (with_reducible exact LimIs.const _)
    | (with_reducible exact spec_RetryTimes.l0L_is _ _ _ _)
    | (with_reducible refine LimIs.ite ?_ ?_)
    | (with_reducible refine LimIs.bind ?_ (fun _ => ?_))
theorem spec_RetryTimes.l0L_eq (x1 : Int) (x5 : List Int) (x6 : Int) (x7 : Int) : spec_RetryTimes.l0L x1 x5 x6 x7 = if x7 ≤ x1 then (if x6 ≤ 200 then (if x5.length < 17592186044416 then ((spec_Backoff.fL x7).bind fun t112 => (spec_RetryTimes.l0L x1 (x5 ++ [x6]) (wrap64 (x6 + t112)) (wrap64 (x7 + 1)))) else (none)) else (some x5)) else (some x5) := by
  refine LimIs.unique (spec_RetryTimes.l0L_is x1 x5 x6 x7) (LimIs.step (f := fun k => if x7 ≤ x1 then (if x6 ≤ 200 then (if x5.length < 17592186044416 then ((spec_Backoff.f k x7).bind fun t112 => (spec_RetryTimes.l0 k x1 (x5 ++ [x6]) (wrap64 (x6 + t112)) (wrap64 (x7 + 1)))) else (none)) else (some x5)) else (some x5)) (by simp only [spec_RetryTimes.l0]) (fun k => by simp only [spec_RetryTimes.l0]) ?_)
  repeat' first
    | (with_reducible exact LimIs.const _)
    | (with_reducible exact spec_Backoff.fL_is _)
    | (with_reducible exact spec_RetryTimes.l0L_is _ _ _ _)
    | (with_reducible refine LimIs.ite ?_ ?_)
    | (with_reducible refine LimIs.bind ?_ (fun _ => ?_))
theorem spec_RetryTimes.fL_eq (a0 : Int) (a1 : Int) : spec_RetryTimes.fL a0 a1 = (some (([] : List Int) : List Int)).bind fun y104 => ((spec_l1In.f a0 0 200).bind fun t107 => (if t107 = true then ((spec_l1In.f a1 0 10).bind fun t108 => (spec_RetryTimes.j0L a0 a1 y104 (!t108))) else (spec_RetryTimes.j0L a0 a1 y104 true))) := by
  refine LimIs.unique (spec_RetryTimes.fL_is a0 a1) ?_
  unfold spec_RetryTimes.f
  repeat' first
    | (with_reducible exact LimIs.const _)
    | (with_reducible exact spec_RetryTimes.j0L_is _ _ _ _)
    | (with_reducible refine LimIs.ite ?_ ?_)
    | (with_reducible refine LimIs.bind ?_ (fun _ => ?_))
/-! ### impl_Backoff -/
noncomputable def impl_Backoff.j0L (x0 : Int) (x9 : Bool) : Option (Int) := Lim (fun k => impl_Backoff.j0 k x0 x9)
theorem impl_Backoff.j0L_is (x0 : Int) (x9 : Bool) : LimIs (fun k => impl_Backoff.j0 k x0 x9) (impl_Backoff.j0L x0 x9) := LimIs.of_mono (fun k r h => (impl_Backoff.mono_l k).1 x0 x9 r h)
noncomputable def impl_Backoff.l0L (x3 : Int) (x11 : Int) (x12 : Int) : Option (Int) := Lim (fun k => impl_Backoff.l0 k x3 x11 x12)
theorem impl_Backoff.l0L_is (x3 : Int) (x11 : Int) (x12 : Int) : LimIs (fun k => impl_Backoff.l0 k x3 x11 x12) (impl_Backoff.l0L x3 x11 x12) := LimIs.of_mono (fun k r h => (impl_Backoff.mono_l k).2 x3 x11 x12 r h)
noncomputable def impl_Backoff.fL (a0 : Int) : Option (Int) := Lim (fun k => impl_Backoff.f k a0)
theorem impl_Backoff.fL_is (a0 : Int) : LimIs (fun k => impl_Backoff.f k a0) (impl_Backoff.fL a0) := LimIs.of_mono (fun k r h => impl_Backoff.mono a0 k r h)
theorem impl_Backoff.j0L_eq (x0 : Int) (x9 : Bool) : impl_Backoff.j0L x0 x9 = if x9 = true then (some (-1)) else (impl_Backoff.l0L 1 (wrap64 (x0 - 1)) 0) := by
  refine LimIs.unique (impl_Backoff.j0L_is x0 x9) (LimIs.step (f := fun k => if x9 = true then (some (-1)) else (impl_Backoff.l0 k 1 (wrap64 (x0 - 1)) 0)) (by simp only [impl_Backoff.j0]) (fun k => by simp only [impl_Backoff.j0]) ?_)
  repeat' first
    | (with_reducible exact LimIs.const _)
    | (with_reducible exact impl_Backoff.l0L_is _ _ _)
    | (with_reducible refine LimIs.ite ?_ ?_)
    | (with_reducible refine LimIs.bind ?_ (fun _ => ?_))
theorem impl_Backoff.l0L_eq (x3 : Int) (x11 : Int) (x12 : Int) : impl_Backoff.l0L x3 x11 x12 = if x12 < x11 then (impl_Backoff.l0L (mn (wrap64 (2 * x3)) 32) x11 (wrap64 (x12 + 1))) else (some x3) := by
  refine LimIs.unique (impl_Backoff.l0L_is x3 x11 x12) (LimIs.step (f := fun k => if x12 < x11 then (impl_Backoff.l0 k (mn (wrap64 (2 * x3)) 32) x11 (wrap64 (x12 + 1))) else (some x3)) (by simp only [impl_Backoff.l0]) (fun k => by simp only [impl_Backoff.l0]) ?_)
  repeat' first
    | (with_reducible exact LimIs.const _)
    | (with_reducible exact impl_Backoff.l0L_is _ _ _)
    | (with_reducible refine LimIs.ite ?_ ?_)
    | (with_reducible refine LimIs.bind ?_ (fun _ => ?_))
theorem impl_Backoff.fL_eq (a0 : Int) : impl_Backoff.fL a0 = if a0 < 1 then (impl_Backoff.j0L a0 true) else (impl_Backoff.j0L a0 (decide (a0 > 10))) := by
  refine LimIs.unique (impl_Backoff.fL_is a0) ?_
  unfold impl_Backoff.f
  repeat' first
    | (with_reducible exact LimIs.const _)
    | (with_reducible exact impl_Backoff.j0L_is _ _)
    | (with_reducible refine LimIs.ite ?_ ?_)
    | (with_reducible refine LimIs.bind ?_ (fun _ => ?_))
/-! ### impl_RetryTimes -/
noncomputable def impl_RetryTimes.j0L (x0 : Int) (x1 : Int) (x18 : Bool) : Option (List Int) := Lim (fun k => impl_RetryTimes.j0 k x0 x1 x18)
theorem impl_RetryTimes.j0L_is (x0 : Int) (x1 : Int) (x18 : Bool) : LimIs (fun k => impl_RetryTimes.j0 k x0 x1 x18) (impl_RetryTimes.j0L x0 x1 x18) := LimIs.of_mono (fun k r h => (impl_RetryTimes.mono_l k).1 x0 x1 x18 r h)
noncomputable def impl_RetryTimes.l0L (x1 : Int) (x5 : List Int) (x6 : Int) (x7 : Int) : Option (List Int) := Lim (fun k => impl_RetryTimes.l0 k x1 x5 x6 x7)
theorem impl_RetryTimes.l0L_is (x1 : Int) (x5 : List Int) (x6 : Int) (x7 : Int) : LimIs (fun k => impl_RetryTimes.l0 k x1 x5 x6 x7) (impl_RetryTimes.l0L x1 x5 x6 x7) := LimIs.of_mono (fun k r h => (impl_RetryTimes.mono_l k).2 x1 x5 x6 x7 r h)
noncomputable def impl_RetryTimes.fL (a0 : Int) (a1 : Int) : Option (List Int) := Lim (fun k => impl_RetryTimes.f k a0 a1)
theorem impl_RetryTimes.fL_is (a0 : Int) (a1 : Int) : LimIs (fun k => impl_RetryTimes.f k a0 a1) (impl_RetryTimes.fL a0 a1) := LimIs.of_mono (fun k r h => impl_RetryTimes.mono a0 a1 k r h)
theorem impl_RetryTimes.j0L_eq (x0 : Int) (x1 : Int) (x18 : Bool) : impl_RetryTimes.j0L x0 x1 x18 = if x18 = true then (some ([] : List Int)) else (impl_RetryTimes.l0L x1 ([] : List Int) x0 1) := by
  refine LimIs.unique (impl_RetryTimes.j0L_is x0 x1 x18) (LimIs.step (f := fun k => if x18 = true then (some ([] : List Int)) else (impl_RetryTimes.l0 k x1 ([] : List Int) x0 1)) (by simp only [impl_RetryTimes.j0]) (fun k => by simp only [impl_RetryTimes.j0]) ?_)
  repeat' first
    | (with_reducible exact LimIs.const _)
    | (with_reducible exact impl_RetryTimes.l0L_is _ _ _ _)
    | (with_reducible refine LimIs.ite ?_ ?_)
    | (with_reducible refine LimIs.bind ?_ (fun _ => ?_))
theorem impl_RetryTimes.l0L_eq (x1 : Int) (x5 : List Int) (x6 : Int) (x7 : Int) : impl_RetryTimes.l0L x1 x5 x6 x7 = if x7 ≤ x1 then (if x6 ≤ 200 then (if x5.length < 17592186044416 then ((impl_Backoff.fL x7).bind fun t117 => (impl_RetryTimes.l0L x1 (x5 ++ [x6]) (wrap64 (x6 + t117)) (wrap64 (x7 + 1)))) else (none)) else (some x5)) else (some x5) := by
  refine LimIs.unique (impl_RetryTimes.l0L_is x1 x5 x6 x7) (LimIs.step (f := fun k => if x7 ≤ x1 then (if x6 ≤ 200 then (if x5.length < 17592186044416 then ((impl_Backoff.f k x7).bind fun t117 => (impl_RetryTimes.l0 k x1 (x5 ++ [x6]) (wrap64 (x6 + t117)) (wrap64 (x7 + 1)))) else (none)) else (some x5)) else (some x5)) (by simp only [impl_RetryTimes.l0]) (fun k => by simp only [impl_RetryTimes.l0]) ?_)
  repeat' first
    | (with_reducible exact LimIs.const _)
    | (with_reducible exact impl_Backoff.fL_is _)
    | (with_reducible exact impl_RetryTimes.l0L_is _ _ _ _)
    | (with_reducible refine LimIs.ite ?_ ?_)
    | (with_reducible refine LimIs.bind ?_ (fun _ => ?_))
theorem impl_RetryTimes.fL_eq (a0 : Int) (a1 : Int) : impl_RetryTimes.fL a0 a1 = (impl_timeValid.f a0).bind fun t113 => (if t113 = true then (if a1 < 0 then (impl_RetryTimes.j0L a0 a1 true) else (impl_RetryTimes.j0L a0 a1 (decide (a1 > 10)))) else (impl_RetryTimes.j0L a0 a1 true)) := by
  refine LimIs.unique (impl_RetryTimes.fL_is a0 a1) ?_
  unfold impl_RetryTimes.f
  repeat' first
    | (with_reducible exact LimIs.const _)
    | (with_reducible exact impl_RetryTimes.j0L_is _ _ _)
    | (with_reducible refine LimIs.ite ?_ ?_)
    | (with_reducible refine LimIs.bind ?_ (fun _ => ?_))
/-! ### laws_markIntS -/
noncomputable def laws_markIntS.l0L (x0 : List Int) (x1 : Int) (x5 : Int) : Option (Int × List Int) := Lim (fun k => laws_markIntS.l0 k x0 x1 x5)
theorem laws_markIntS.l0L_is (x0 : List Int) (x1 : Int) (x5 : Int) : LimIs (fun k => laws_markIntS.l0 k x0 x1 x5) (laws_markIntS.l0L x0 x1 x5) := LimIs.of_mono (fun k r h => (laws_markIntS.mono_l k) x0 x1 x5 r h)
noncomputable def laws_markIntS.fL (l0 : List Int) (a1 : Int) : Option (Int × List Int) := Lim (fun k => laws_markIntS.f k l0 a1)
theorem laws_markIntS.fL_is (l0 : List Int) (a1 : Int) : LimIs (fun k => laws_markIntS.f k l0 a1) (laws_markIntS.fL l0 a1) := LimIs.of_mono (fun k r h => laws_markIntS.mono l0 a1 k r h)
theorem laws_markIntS.l0L_eq (x0 : List Int) (x1 : Int) (x5 : Int) : laws_markIntS.l0L x0 x1 x5 = if x5 < (x0.length : Int) then (if 0 ≤ x5 then (laws_markIntS.l0L (x0.set (x5 : Int).toNat x1) (wrap64 (x1 + 1)) (wrap64 (x5 + 1))) else (none)) else (some (x1, x0)) := by
  refine LimIs.unique (laws_markIntS.l0L_is x0 x1 x5) (LimIs.step (f := fun k => if x5 < (x0.length : Int) then (if 0 ≤ x5 then (laws_markIntS.l0 k (x0.set (x5 : Int).toNat x1) (wrap64 (x1 + 1)) (wrap64 (x5 + 1))) else (none)) else (some (x1, x0))) (by simp only [laws_markIntS.l0]) (fun k => by simp only [laws_markIntS.l0]) ?_)
  repeat' first
    | (with_reducible exact LimIs.const _)
    | (with_reducible exact laws_markIntS.l0L_is _ _ _)
    | (with_reducible refine LimIs.ite ?_ ?_)
    | (with_reducible refine LimIs.bind ?_ (fun _ => ?_))
theorem laws_markIntS.fL_eq (l0 : List Int) (a1 : Int) : laws_markIntS.fL l0 a1 = laws_markIntS.l0L l0 a1 0 := by
  refine LimIs.unique (laws_markIntS.fL_is l0 a1) ?_
  unfold laws_markIntS.f
  repeat' first
    | (with_reducible exact LimIs.const _)
    | (with_reducible exact laws_markIntS.l0L_is _ _ _)
    | (with_reducible refine LimIs.ite ?_ ?_)
    | (with_reducible refine LimIs.bind ?_ (fun _ => ?_))
/-! ### laws_heldIntS -/
noncomputable def laws_heldIntS.l0L (x0 : List Int) (x1 : Int) (x5 : Int) : Option (Int) := Lim (fun k => laws_heldIntS.l0 k x0 x1 x5)
theorem laws_heldIntS.l0L_is (x0 : List Int) (x1 : Int) (x5 : Int) : LimIs (fun k => laws_heldIntS.l0 k x0 x1 x5) (laws_heldIntS.l0L x0 x1 x5) := LimIs.of_mono (fun k r h => (laws_heldIntS.mono_l k) x0 x1 x5 r h)
noncomputable def laws_heldIntS.fL (l0 : List Int) (a1 : Int) : Option (Int) := Lim (fun k => laws_heldIntS.f k l0 a1)
theorem laws_heldIntS.fL_is (l0 : List Int) (a1 : Int) : LimIs (fun k => laws_heldIntS.f k l0 a1) (laws_heldIntS.fL l0 a1) := LimIs.of_mono (fun k r h => laws_heldIntS.mono l0 a1 k r h)
theorem laws_heldIntS.l0L_eq (x0 : List Int) (x1 : Int) (x5 : Int) : laws_heldIntS.l0L x0 x1 x5 = if x5 < (x0.length : Int) then (if 0 ≤ x5 then (if (rd x0 x5) = x1 then (laws_heldIntS.l0L x0 (wrap64 (x1 + 1)) (wrap64 (x5 + 1))) else (some (-1))) else (none)) else (some x1) := by
  refine LimIs.unique (laws_heldIntS.l0L_is x0 x1 x5) (LimIs.step (f := fun k => if x5 < (x0.length : Int) then (if 0 ≤ x5 then (if (rd x0 x5) = x1 then (laws_heldIntS.l0 k x0 (wrap64 (x1 + 1)) (wrap64 (x5 + 1))) else (some (-1))) else (none)) else (some x1)) (by simp only [laws_heldIntS.l0]) (fun k => by simp only [laws_heldIntS.l0]) ?_)
  repeat' first
    | (with_reducible exact LimIs.const _)
    | (with_reducible exact laws_heldIntS.l0L_is _ _ _)
    | (with_reducible refine LimIs.ite ?_ ?_)
    | (with_reducible refine LimIs.bind ?_ (fun _ => ?_))
theorem laws_heldIntS.fL_eq (l0 : List Int) (a1 : Int) : laws_heldIntS.fL l0 a1 = laws_heldIntS.l0L l0 a1 0 := by
  refine LimIs.unique (laws_heldIntS.fL_is l0 a1) ?_
  unfold laws_heldIntS.f
  repeat' first
    | (with_reducible exact LimIs.const _)
    | (with_reducible exact laws_heldIntS.l0L_is _ _ _)
    | (with_reducible refine LimIs.ite ?_ ?_)
    | (with_reducible refine LimIs.bind ?_ (fun _ => ?_))
/-! ### laws_FnExactRetryTimes -/
noncomputable def laws_FnExactRetryTimes.fL (a0 : Int) (a1 : Int) : Option (Bool) := Lim (fun k => laws_FnExactRetryTimes.f k a0 a1)
theorem laws_FnExactRetryTimes.fL_is (a0 : Int) (a1 : Int) : LimIs (fun k => laws_FnExactRetryTimes.f k a0 a1) (laws_FnExactRetryTimes.fL a0 a1) := LimIs.of_mono (fun k r h => laws_FnExactRetryTimes.mono a0 a1 k r h)
theorem laws_FnExactRetryTimes.fL_eq (a0 : Int) (a1 : Int) : laws_FnExactRetryTimes.fL a0 a1 = (spec_RetryTimes.fL a0 a1).bind fun t120 => ((impl_RetryTimes.fL a0 a1).bind fun t123 => ((laws_eqIntS.fL t123 t120).bind fun t126 => (if t126 = true then ((laws_markIntS.fL t123 1).bind fun bt127 => ((laws_heldIntS.fL bt127.2 1).bind fun t129 => (if t129 < 0 then (some false) else (if t129 = bt127.1 then ((impl_RetryTimes.fL a0 a1).bind fun t130 => ((laws_eqIntS.fL t130 t120).bind fun t133 => (if t133 = true then ((laws_heldIntS.fL bt127.2 1).bind fun t134 => (if t134 < 0 then (some false) else (if t134 = bt127.1 then (some true) else (some false)))) else (some false)))) else (some false))))) else (some false)))) := by
  refine LimIs.unique (laws_FnExactRetryTimes.fL_is a0 a1) ?_
  unfold laws_FnExactRetryTimes.f
  repeat' first
    | (with_reducible exact LimIs.const _)
    | (with_reducible exact impl_RetryTimes.fL_is _ _)
    | (with_reducible exact laws_eqIntS.fL_is _ _)
    | (with_reducible exact laws_heldIntS.fL_is _ _)
    | (with_reducible exact laws_markIntS.fL_is _ _)
    | (with_reducible exact spec_RetryTimes.fL_is _ _)
    | (with_reducible refine LimIs.ite ?_ ?_)
    | (with_reducible refine LimIs.bind ?_ (fun _ => ?_))
end Go.Proofs.Ytpeifepnaecjiaa.PFnExactRetryTimes
