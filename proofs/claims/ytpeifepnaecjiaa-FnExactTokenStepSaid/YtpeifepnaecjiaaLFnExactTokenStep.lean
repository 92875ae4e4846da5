/- The limits of the printed functions, and their equations. Written by lim.py out of the print. No condition. -/
import Derived.Test.YtpeifepnaecjiaaPFnExactTokenStepx1
import Derived.Test.YtpeifepnaecjiaaLim
namespace Go.Proofs.Ytpeifepnaecjiaa.PFnExactTokenStep
open Go.RowKit Go.Proofs.YtpeifepnaecjiaaW.PrintWords Go.Proofs.YtpeifepnaecjiaaW.PrintLast Go.Proofs.YtpeifepnaecjiaaW.PrintMore Go.Proofs.Ytpeifepnaecjiaa.Lim
set_option linter.unusedVariables false

/-! ### impl_TokenStep -/
noncomputable def impl_TokenStep.j0L (x0 : Int) (x1 : Bool) (x6 : Bool) : Option (Int × Bool) := Lim (fun k => impl_TokenStep.j0 k x0 x1 x6)
theorem impl_TokenStep.j0L_is (x0 : Int) (x1 : Bool) (x6 : Bool) : LimIs (fun k => impl_TokenStep.j0 k x0 x1 x6) (impl_TokenStep.j0L x0 x1 x6) := LimIs.of_mono (fun k r h => (impl_TokenStep.mono_l k) x0 x1 x6 r h)
noncomputable def impl_TokenStep.fL (a0 : Int) (a1 : Bool) : Option (Int × Bool) := Lim (fun k => impl_TokenStep.f k a0 a1)
theorem impl_TokenStep.fL_is (a0 : Int) (a1 : Bool) : LimIs (fun k => impl_TokenStep.f k a0 a1) (impl_TokenStep.fL a0 a1) := LimIs.of_mono (fun k r h => impl_TokenStep.mono a0 a1 k r h)
theorem impl_TokenStep.j0L_eq (x0 : Int) (x1 : Bool) (x6 : Bool) : impl_TokenStep.j0L x0 x1 x6 = if x6 = true then (some ((-1), false)) else (if x1 = true then (some (mn (wrap64 (x0 + 1)) 10, false)) else (if x0 ≥ 3 then (some (wrap64 (x0 - 3), true)) else (some (x0, false)))) := by
  refine LimIs.unique (impl_TokenStep.j0L_is x0 x1 x6) (LimIs.step (f := fun k => if x6 = true then (some ((-1), false)) else (if x1 = true then (some (mn (wrap64 (x0 + 1)) 10, false)) else (if x0 ≥ 3 then (some (wrap64 (x0 - 3), true)) else (some (x0, false))))) (by simp only [impl_TokenStep.j0]) (fun k => by simp only [impl_TokenStep.j0]) ?_)
  repeat' first
    | (with_reducible exact LimIs.const _)
    | (with_reducible refine LimIs.ite ?_ ?_)
    | (with_reducible refine LimIs.bind ?_ (fun _ => ?_))
theorem impl_TokenStep.fL_eq (a0 : Int) (a1 : Bool) : impl_TokenStep.fL a0 a1 = if a0 < 0 then (impl_TokenStep.j0L a0 a1 true) else (impl_TokenStep.j0L a0 a1 (decide (a0 > 10))) := by
  refine LimIs.unique (impl_TokenStep.fL_is a0 a1) ?_
  unfold impl_TokenStep.f
  repeat' first
    | (with_reducible exact LimIs.const _)
    | (with_reducible exact impl_TokenStep.j0L_is _ _ _)
    | (with_reducible refine LimIs.ite ?_ ?_)
    | (with_reducible refine LimIs.bind ?_ (fun _ => ?_))
/-! ### laws_FnExactTokenStep -/
noncomputable def laws_FnExactTokenStep.fL (a0 : Int) (a1 : Bool) : Option (Bool) := Lim (fun k => laws_FnExactTokenStep.f k a0 a1)
theorem laws_FnExactTokenStep.fL_is (a0 : Int) (a1 : Bool) : LimIs (fun k => laws_FnExactTokenStep.f k a0 a1) (laws_FnExactTokenStep.fL a0 a1) := LimIs.of_mono (fun k r h => laws_FnExactTokenStep.mono a0 a1 k r h)
theorem laws_FnExactTokenStep.fL_eq (a0 : Int) (a1 : Bool) : laws_FnExactTokenStep.fL a0 a1 = (spec_TokenStep.f a0 a1).bind fun bt102 => ((impl_TokenStep.fL a0 a1).bind fun bt104 => (if bt104.1 = bt102.1 then (if (bt104.2 != bt102.2) = true then (some false) else (some true)) else (some false))) := by
  refine LimIs.unique (laws_FnExactTokenStep.fL_is a0 a1) ?_
  unfold laws_FnExactTokenStep.f
  repeat' first
    | (with_reducible exact LimIs.const _)
    | (with_reducible exact impl_TokenStep.fL_is _ _)
    | (with_reducible refine LimIs.ite ?_ ?_)
    | (with_reducible refine LimIs.bind ?_ (fun _ => ?_))
end Go.Proofs.Ytpeifepnaecjiaa.PFnExactTokenStep
