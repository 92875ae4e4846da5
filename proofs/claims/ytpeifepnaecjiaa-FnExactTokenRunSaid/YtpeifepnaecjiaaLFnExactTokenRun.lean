/- The limits of the printed functions, and their equations. Written by lim.py out of the print. No condition. -/
import Derived.Test.YtpeifepnaecjiaaOFnExactTokenRun
import Derived.Test.YtpeifepnaecjiaaLim
namespace Go.Proofs.Ytpeifepnaecjiaa.PFnExactTokenRun
open Go.RowKit Go.Proofs.YtpeifepnaecjiaaW.PrintWords Go.Proofs.YtpeifepnaecjiaaW.PrintLast Go.Proofs.YtpeifepnaecjiaaW.PrintMore Go.Proofs.Ytpeifepnaecjiaa.Lim
set_option linter.unusedVariables false

/-! ### spec_TokenRun -/
noncomputable def spec_TokenRun.j0L (x0 : Int) (x1 : List Bool) (x17 : Bool) : Option (Int × Int) := Lim (fun k => spec_TokenRun.j0 k x0 x1 x17)
theorem spec_TokenRun.j0L_is (x0 : Int) (x1 : List Bool) (x17 : Bool) : LimIs (fun k => spec_TokenRun.j0 k x0 x1 x17) (spec_TokenRun.j0L x0 x1 x17) := LimIs.of_mono (fun k r h => (spec_TokenRun.mono_l k).1 x0 x1 x17 r h)
noncomputable def spec_TokenRun.l0L (x0 : Int) (x1 : List Bool) (x6 : Int) (x7 : Int) : Option (Int × Int) := Lim (fun k => spec_TokenRun.l0 k x0 x1 x6 x7)
theorem spec_TokenRun.l0L_is (x0 : Int) (x1 : List Bool) (x6 : Int) (x7 : Int) : LimIs (fun k => spec_TokenRun.l0 k x0 x1 x6 x7) (spec_TokenRun.l0L x0 x1 x6 x7) := LimIs.of_mono (fun k r h => (spec_TokenRun.mono_l k).2 x0 x1 x6 x7 r h)
noncomputable def spec_TokenRun.fL (a0 : Int) (l1 : List Bool) : Option (Int × Int) := Lim (fun k => spec_TokenRun.f k a0 l1)
theorem spec_TokenRun.fL_is (a0 : Int) (l1 : List Bool) : LimIs (fun k => spec_TokenRun.f k a0 l1) (spec_TokenRun.fL a0 l1) := LimIs.of_mono (fun k r h => spec_TokenRun.mono a0 l1 k r h)
theorem spec_TokenRun.j0L_eq (x0 : Int) (x1 : List Bool) (x17 : Bool) : spec_TokenRun.j0L x0 x1 x17 = if x17 = true then (some ((-1), (-1))) else (spec_TokenRun.l0L x0 x1 0 0) := by
  refine LimIs.unique (spec_TokenRun.j0L_is x0 x1 x17) (LimIs.step (f := fun k => if x17 = true then (some ((-1), (-1))) else (spec_TokenRun.l0 k x0 x1 0 0)) (by simp only [spec_TokenRun.j0]) (fun k => by simp only [spec_TokenRun.j0]) ?_)
  repeat' first
    | (with_reducible exact LimIs.const _)
    | (with_reducible exact spec_TokenRun.l0L_is _ _ _ _)
    | (with_reducible refine LimIs.ite ?_ ?_)
    | (with_reducible refine LimIs.bind ?_ (fun _ => ?_))
theorem spec_TokenRun.l0L_eq (x0 : Int) (x1 : List Bool) (x6 : Int) (x7 : Int) : spec_TokenRun.l0L x0 x1 x6 x7 = if x7 < (x1.length : Int) then (if 0 ≤ x7 then ((spec_TokenStep.f x0 (rdOf false x1 x7)).bind fun bt104 => (if bt104.2 = true then (spec_TokenRun.l0L bt104.1 x1 (wrap64 (x6 + 1)) (wrap64 (x7 + 1))) else (spec_TokenRun.l0L bt104.1 x1 x6 (wrap64 (x7 + 1))))) else (none)) else (some (x0, x6)) := by
  refine LimIs.unique (spec_TokenRun.l0L_is x0 x1 x6 x7) (LimIs.step (f := fun k => if x7 < (x1.length : Int) then (if 0 ≤ x7 then ((spec_TokenStep.f x0 (rdOf false x1 x7)).bind fun bt104 => (if bt104.2 = true then (spec_TokenRun.l0 k bt104.1 x1 (wrap64 (x6 + 1)) (wrap64 (x7 + 1))) else (spec_TokenRun.l0 k bt104.1 x1 x6 (wrap64 (x7 + 1))))) else (none)) else (some (x0, x6))) (by simp only [spec_TokenRun.l0]) (fun k => by simp only [spec_TokenRun.l0]) ?_)
  repeat' first
    | (with_reducible exact LimIs.const _)
    | (with_reducible exact spec_TokenRun.l0L_is _ _ _ _)
    | (with_reducible refine LimIs.ite ?_ ?_)
    | (with_reducible refine LimIs.bind ?_ (fun _ => ?_))
theorem spec_TokenRun.fL_eq (a0 : Int) (l1 : List Bool) : spec_TokenRun.fL a0 l1 = (spec_l1In.f a0 0 10).bind fun t102 => (if t102 = true then (spec_TokenRun.j0L a0 l1 (decide ((l1.length : Int) > 200))) else (spec_TokenRun.j0L a0 l1 true)) := by
  refine LimIs.unique (spec_TokenRun.fL_is a0 l1) ?_
  unfold spec_TokenRun.f
  repeat' first
    | (with_reducible exact LimIs.const _)
    | (with_reducible exact spec_TokenRun.j0L_is _ _ _)
    | (with_reducible refine LimIs.ite ?_ ?_)
    | (with_reducible refine LimIs.bind ?_ (fun _ => ?_))
/-! ### laws_toBoolS -/
noncomputable def laws_toBoolS.l0L (x0 : List Bool) (x3 : List Bool) (x4 : Int) : Option (List Bool) := Lim (fun k => laws_toBoolS.l0 k x0 x3 x4)
theorem laws_toBoolS.l0L_is (x0 : List Bool) (x3 : List Bool) (x4 : Int) : LimIs (fun k => laws_toBoolS.l0 k x0 x3 x4) (laws_toBoolS.l0L x0 x3 x4) := LimIs.of_mono (fun k r h => (laws_toBoolS.mono_l k) x0 x3 x4 r h)
noncomputable def laws_toBoolS.fL (l0 : List Bool) : Option (List Bool) := Lim (fun k => laws_toBoolS.f k l0)
theorem laws_toBoolS.fL_is (l0 : List Bool) : LimIs (fun k => laws_toBoolS.f k l0) (laws_toBoolS.fL l0) := LimIs.of_mono (fun k r h => laws_toBoolS.mono l0 k r h)
theorem laws_toBoolS.l0L_eq (x0 : List Bool) (x3 : List Bool) (x4 : Int) : laws_toBoolS.l0L x0 x3 x4 = if x4 < (x0.length : Int) then (if 0 ≤ x4 then (if x4 < (x3.length : Int) then (laws_toBoolS.l0L x0 (x3.set (x4 : Int).toNat (rdOf false x0 x4)) (wrap64 (x4 + 1))) else (none)) else (none)) else (some x3) := by
  refine LimIs.unique (laws_toBoolS.l0L_is x0 x3 x4) (LimIs.step (f := fun k => if x4 < (x0.length : Int) then (if 0 ≤ x4 then (if x4 < (x3.length : Int) then (laws_toBoolS.l0 k x0 (x3.set (x4 : Int).toNat (rdOf false x0 x4)) (wrap64 (x4 + 1))) else (none)) else (none)) else (some x3)) (by simp only [laws_toBoolS.l0]) (fun k => by simp only [laws_toBoolS.l0]) ?_)
  repeat' first
    | (with_reducible exact LimIs.const _)
    | (with_reducible exact laws_toBoolS.l0L_is _ _ _)
    | (with_reducible refine LimIs.ite ?_ ?_)
    | (with_reducible refine LimIs.bind ?_ (fun _ => ?_))
theorem laws_toBoolS.fL_eq (l0 : List Bool) : laws_toBoolS.fL l0 = if 0 ≤ (l0.length : Int) then (if ((l0.length : Int) : Int).toNat ≤ 281474976710656 then (laws_toBoolS.l0L l0 (List.replicate ((l0.length : Int) : Int).toNat false) 0) else (none)) else (none) := by
  refine LimIs.unique (laws_toBoolS.fL_is l0) ?_
  unfold laws_toBoolS.f
  repeat' first
    | (with_reducible exact LimIs.const _)
    | (with_reducible exact laws_toBoolS.l0L_is _ _ _)
    | (with_reducible refine LimIs.ite ?_ ?_)
    | (with_reducible refine LimIs.bind ?_ (fun _ => ?_))
/-! ### impl_TokenStep -/
noncomputable def impl_TokenStep.j0L (x0 : Int) (x1 : Bool) (x6 : Bool) : Option (Int × Bool) := Lim (fun k => impl_TokenStep.j0 k x0 x1 x6)
theorem impl_TokenStep.j0L_is (x0 : Int) (x1 : Bool) (x6 : Bool) : LimIs (fun k => impl_TokenStep.j0 k x0 x1 x6) (impl_TokenStep.j0L x0 x1 x6) := LimIs.of_mono (fun k r h => (impl_TokenStep.mono_l k) x0 x1 x6 r h)
noncomputable def impl_TokenStep.fL (a0 : Int) (a1 : Bool) : Option (Int × Bool) := Lim (fun k => impl_TokenStep.f k a0 a1)
theorem impl_TokenStep.fL_is (a0 : Int) (a1 : Bool) : LimIs (fun k => impl_TokenStep.f k a0 a1) (impl_TokenStep.fL a0 a1) := LimIs.of_mono (fun k r h => impl_TokenStep.mono a0 a1 k r h)
theorem impl_TokenStep.j0L_eq (x0 : Int) (x1 : Bool) (x6 : Bool) : impl_TokenStep.j0L x0 x1 x6 = if x6 = true then (some ((-1), false)) else (if x1 = true then (some (mn (wrap64 (x0 + 1)) 10, false)) else (if x0 ≥ 3 then (some (wrap64 (x0 - 3), true)) else (some (x0, false)))) := by
  refine LimIs.unique (impl_TokenStep.j0L_is x0 x1 x6) (LimIs.step (f := fun k => if x6 = true then (some ((-1), false)) else (if x1 = true then (some (mn (wrap64 (x0 + 1)) 10, false)) else (if x0 ≥ 3 then (some (wrap64 (x0 - 3), true)) else (some (x0, false))))) (by simp only [impl_TokenStep.j0]) (fun k => by simp only [impl_TokenStep.j0]) ?_)
  repeat' first
    | (with_reducible exact LimIs.const _)
    | (with_reducible refine LimIs.ite ?_ ?_)
    | (with_reducible refine LimIs.bind ?_ (fun _ => ?_))
theorem impl_TokenStep.fL_eq (a0 : Int) (a1 : Bool) : impl_TokenStep.fL a0 a1 = if a0 < 0 then (impl_TokenStep.j0L a0 a1 true) else (impl_TokenStep.j0L a0 a1 (decide (a0 > 10))) := by
  refine LimIs.unique (impl_TokenStep.fL_is a0 a1) ?_
  unfold impl_TokenStep.f
  repeat' first
    | (with_reducible exact LimIs.const _)
    | (with_reducible exact impl_TokenStep.j0L_is _ _ _)
    | (with_reducible refine LimIs.ite ?_ ?_)
    | (with_reducible refine LimIs.bind ?_ (fun _ => ?_))
/-! ### impl_TokenRun -/
noncomputable def impl_TokenRun.j0L (x0 : Int) (x1 : List Bool) (x20 : Bool) : Option (Int × Int) := Lim (fun k => impl_TokenRun.j0 k x0 x1 x20)
theorem impl_TokenRun.j0L_is (x0 : Int) (x1 : List Bool) (x20 : Bool) : LimIs (fun k => impl_TokenRun.j0 k x0 x1 x20) (impl_TokenRun.j0L x0 x1 x20) := LimIs.of_mono (fun k r h => (impl_TokenRun.mono_l k).1 x0 x1 x20 r h)
noncomputable def impl_TokenRun.l0L (x0 : Int) (x6 : Int) (x21 : List Bool) (x22 : Int) (x23 : Int) : Option (Int × Int) := Lim (fun k => impl_TokenRun.l0 k x0 x6 x21 x22 x23)
theorem impl_TokenRun.l0L_is (x0 : Int) (x6 : Int) (x21 : List Bool) (x22 : Int) (x23 : Int) : LimIs (fun k => impl_TokenRun.l0 k x0 x6 x21 x22 x23) (impl_TokenRun.l0L x0 x6 x21 x22 x23) := LimIs.of_mono (fun k r h => (impl_TokenRun.mono_l k).2 x0 x6 x21 x22 x23 r h)
noncomputable def impl_TokenRun.fL (a0 : Int) (l1 : List Bool) : Option (Int × Int) := Lim (fun k => impl_TokenRun.f k a0 l1)
theorem impl_TokenRun.fL_is (a0 : Int) (l1 : List Bool) : LimIs (fun k => impl_TokenRun.f k a0 l1) (impl_TokenRun.fL a0 l1) := LimIs.of_mono (fun k r h => impl_TokenRun.mono a0 l1 k r h)
theorem impl_TokenRun.j0L_eq (x0 : Int) (x1 : List Bool) (x20 : Bool) : impl_TokenRun.j0L x0 x1 x20 = if x20 = true then (some ((-1), (-1))) else (impl_TokenRun.l0L x0 0 x1 (x1.length : Int) 0) := by
  refine LimIs.unique (impl_TokenRun.j0L_is x0 x1 x20) (LimIs.step (f := fun k => if x20 = true then (some ((-1), (-1))) else (impl_TokenRun.l0 k x0 0 x1 (x1.length : Int) 0)) (by simp only [impl_TokenRun.j0]) (fun k => by simp only [impl_TokenRun.j0]) ?_)
  repeat' first
    | (with_reducible exact LimIs.const _)
    | (with_reducible exact impl_TokenRun.l0L_is _ _ _ _ _)
    | (with_reducible refine LimIs.ite ?_ ?_)
    | (with_reducible refine LimIs.bind ?_ (fun _ => ?_))
theorem impl_TokenRun.l0L_eq (x0 : Int) (x6 : Int) (x21 : List Bool) (x22 : Int) (x23 : Int) : impl_TokenRun.l0L x0 x6 x21 x22 x23 = if x23 < x22 then (if 0 ≤ x23 then (if x23 < (x21.length : Int) then ((impl_TokenStep.fL x0 (rdOf false x21 x23)).bind fun bt112 => (if bt112.2 = true then (impl_TokenRun.l0L bt112.1 (wrap64 (x6 + 1)) x21 x22 (wrap64 (x23 + 1))) else (impl_TokenRun.l0L bt112.1 x6 x21 x22 (wrap64 (x23 + 1))))) else (none)) else (none)) else (some (x0, x6)) := by
  refine LimIs.unique (impl_TokenRun.l0L_is x0 x6 x21 x22 x23) (LimIs.step (f := fun k => if x23 < x22 then (if 0 ≤ x23 then (if x23 < (x21.length : Int) then ((impl_TokenStep.f k x0 (rdOf false x21 x23)).bind fun bt112 => (if bt112.2 = true then (impl_TokenRun.l0 k bt112.1 (wrap64 (x6 + 1)) x21 x22 (wrap64 (x23 + 1))) else (impl_TokenRun.l0 k bt112.1 x6 x21 x22 (wrap64 (x23 + 1))))) else (none)) else (none)) else (some (x0, x6))) (by simp only [impl_TokenRun.l0]) (fun k => by simp only [impl_TokenRun.l0]) ?_)
  repeat' first
    | (with_reducible exact LimIs.const _)
    | (with_reducible exact impl_TokenRun.l0L_is _ _ _ _ _)
    | (with_reducible exact impl_TokenStep.fL_is _ _)
    | (with_reducible refine LimIs.ite ?_ ?_)
    | (with_reducible refine LimIs.bind ?_ (fun _ => ?_))
theorem impl_TokenRun.fL_eq (a0 : Int) (l1 : List Bool) : impl_TokenRun.fL a0 l1 = if a0 < 0 then (impl_TokenRun.j0L a0 l1 true) else (if a0 > 10 then (impl_TokenRun.j0L a0 l1 true) else (impl_TokenRun.j0L a0 l1 (decide ((l1.length : Int) > 200)))) := by
  refine LimIs.unique (impl_TokenRun.fL_is a0 l1) ?_
  unfold impl_TokenRun.f
  repeat' first
    | (with_reducible exact LimIs.const _)
    | (with_reducible exact impl_TokenRun.j0L_is _ _ _)
    | (with_reducible refine LimIs.ite ?_ ?_)
    | (with_reducible refine LimIs.bind ?_ (fun _ => ?_))
/-! ### laws_eqBoolS -/
noncomputable def laws_eqBoolS.l0L (x0 : List Bool) (x1 : List Bool) (x5 : Int) : Option (Bool) := Lim (fun k => laws_eqBoolS.l0 k x0 x1 x5)
theorem laws_eqBoolS.l0L_is (x0 : List Bool) (x1 : List Bool) (x5 : Int) : LimIs (fun k => laws_eqBoolS.l0 k x0 x1 x5) (laws_eqBoolS.l0L x0 x1 x5) := LimIs.of_mono (fun k r h => (laws_eqBoolS.mono_l k) x0 x1 x5 r h)
noncomputable def laws_eqBoolS.fL (l0 : List Bool) (l1 : List Bool) : Option (Bool) := Lim (fun k => laws_eqBoolS.f k l0 l1)
theorem laws_eqBoolS.fL_is (l0 : List Bool) (l1 : List Bool) : LimIs (fun k => laws_eqBoolS.f k l0 l1) (laws_eqBoolS.fL l0 l1) := LimIs.of_mono (fun k r h => laws_eqBoolS.mono l0 l1 k r h)
theorem laws_eqBoolS.l0L_eq (x0 : List Bool) (x1 : List Bool) (x5 : Int) : laws_eqBoolS.l0L x0 x1 x5 = if x5 < (x0.length : Int) then (if 0 ≤ x5 then (if x5 < (x1.length : Int) then (if ((rdOf false x0 x5) != (rdOf false x1 x5)) = true then (some false) else (laws_eqBoolS.l0L x0 x1 (wrap64 (x5 + 1)))) else (none)) else (none)) else (some true) := by
  refine LimIs.unique (laws_eqBoolS.l0L_is x0 x1 x5) (LimIs.step (f := fun k => if x5 < (x0.length : Int) then (if 0 ≤ x5 then (if x5 < (x1.length : Int) then (if ((rdOf false x0 x5) != (rdOf false x1 x5)) = true then (some false) else (laws_eqBoolS.l0 k x0 x1 (wrap64 (x5 + 1)))) else (none)) else (none)) else (some true)) (by simp only [laws_eqBoolS.l0]) (fun k => by simp only [laws_eqBoolS.l0]) ?_)
  repeat' first
    | (with_reducible exact LimIs.const _)
    | (with_reducible exact laws_eqBoolS.l0L_is _ _ _)
    | (with_reducible refine LimIs.ite ?_ ?_)
    | (with_reducible refine LimIs.bind ?_ (fun _ => ?_))
theorem laws_eqBoolS.fL_eq (l0 : List Bool) (l1 : List Bool) : laws_eqBoolS.fL l0 l1 = if (l0.length : Int) = (l1.length : Int) then (laws_eqBoolS.l0L l0 l1 0) else (some false) := by
  refine LimIs.unique (laws_eqBoolS.fL_is l0 l1) ?_
  unfold laws_eqBoolS.f
  repeat' first
    | (with_reducible exact LimIs.const _)
    | (with_reducible exact laws_eqBoolS.l0L_is _ _ _)
    | (with_reducible refine LimIs.ite ?_ ?_)
    | (with_reducible refine LimIs.bind ?_ (fun _ => ?_))
/-! ### laws_FnExactTokenRun -/
noncomputable def laws_FnExactTokenRun.j0L (x1 : List Bool) (x7 : List Bool) (x35 : Bool) : Option (Bool) := Lim (fun k => laws_FnExactTokenRun.j0 k x1 x7 x35)
theorem laws_FnExactTokenRun.j0L_is (x1 : List Bool) (x7 : List Bool) (x35 : Bool) : LimIs (fun k => laws_FnExactTokenRun.j0 k x1 x7 x35) (laws_FnExactTokenRun.j0L x1 x7 x35) := LimIs.of_mono (fun k r h => (laws_FnExactTokenRun.mono_l k) x1 x7 x35 r h)
noncomputable def laws_FnExactTokenRun.fL (a0 : Int) (l1 : List Bool) : Option (Bool) := Lim (fun k => laws_FnExactTokenRun.f k a0 l1)
theorem laws_FnExactTokenRun.fL_is (a0 : Int) (l1 : List Bool) : LimIs (fun k => laws_FnExactTokenRun.f k a0 l1) (laws_FnExactTokenRun.fL a0 l1) := LimIs.of_mono (fun k r h => laws_FnExactTokenRun.mono a0 l1 k r h)
theorem laws_FnExactTokenRun.j0L_eq (x1 : List Bool) (x7 : List Bool) (x35 : Bool) : laws_FnExactTokenRun.j0L x1 x7 x35 = if x35 = true then (some false) else ((laws_toBoolS.fL x1).bind fun t126 => ((laws_eqBoolS.fL x7 t126).bind fun t129 => (if t129 = true then (some true) else (some false)))) := by
  refine LimIs.unique (laws_FnExactTokenRun.j0L_is x1 x7 x35) (LimIs.step (f := fun k => if x35 = true then (some false) else ((laws_toBoolS.f k x1).bind fun t126 => ((laws_eqBoolS.f k x7 t126).bind fun t129 => (if t129 = true then (some true) else (some false))))) (by simp only [laws_FnExactTokenRun.j0]) (fun k => by simp only [laws_FnExactTokenRun.j0]) ?_)
  repeat' first
    | (with_reducible exact LimIs.const _)
    | (with_reducible exact laws_eqBoolS.fL_is _ _)
    | (with_reducible exact laws_toBoolS.fL_is _)
    | (with_reducible refine LimIs.ite ?_ ?_)
    | (with_reducible refine LimIs.bind ?_ (fun _ => ?_))
theorem laws_FnExactTokenRun.fL_eq (a0 : Int) (l1 : List Bool) : laws_FnExactTokenRun.fL a0 l1 = if (l1.length : Int) > 1048576 then (some true) else ((laws_toBoolS.fL l1).bind fun t116 => ((spec_TokenRun.fL a0 t116).bind fun bt119 => ((laws_toBoolS.fL l1).bind fun t121 => ((impl_TokenRun.fL a0 t121).bind fun bt124 => (if bt124.1 = bt119.1 then (laws_FnExactTokenRun.j0L l1 t121 (bt124.2 != bt119.2)) else (laws_FnExactTokenRun.j0L l1 t121 true)))))) := by
  refine LimIs.unique (laws_FnExactTokenRun.fL_is a0 l1) ?_
  unfold laws_FnExactTokenRun.f
  repeat' first
    | (with_reducible exact LimIs.const _)
    | (with_reducible exact impl_TokenRun.fL_is _ _)
    | (with_reducible exact laws_FnExactTokenRun.j0L_is _ _ _)
    | (with_reducible exact laws_toBoolS.fL_is _)
    | (with_reducible exact spec_TokenRun.fL_is _ _)
    | (with_reducible refine LimIs.ite ?_ ?_)
    | (with_reducible refine LimIs.bind ?_ (fun _ => ?_))
end Go.Proofs.Ytpeifepnaecjiaa.PFnExactTokenRun
