/- The limits of the printed functions, and their equations. Written by lim.py out of the print. No condition. -/
import Derived.Test.YtpeifepnaecjiaaPFnExactBackoffx1
import Derived.Test.YtpeifepnaecjiaaLim
namespace Go.Proofs.Ytpeifepnaecjiaa.PFnExactBackoff
open Go.RowKit Go.Proofs.YtpeifepnaecjiaaW.PrintWords Go.Proofs.YtpeifepnaecjiaaW.PrintLast Go.Proofs.YtpeifepnaecjiaaW.PrintMore Go.Proofs.Ytpeifepnaecjiaa.Lim
set_option linter.unusedVariables false

/-! ### spec_Backoff -/
noncomputable def spec_Backoff.l0L (x0 : Int) (x3 : Int) (x4 : Int) : Option (Int) := Lim (fun k => spec_Backoff.l0 k x0 x3 x4)
theorem spec_Backoff.l0L_is (x0 : Int) (x3 : Int) (x4 : Int) : LimIs (fun k => spec_Backoff.l0 k x0 x3 x4) (spec_Backoff.l0L x0 x3 x4) := LimIs.of_mono (fun k r h => (spec_Backoff.mono_l k) x0 x3 x4 r h)
noncomputable def spec_Backoff.fL (a0 : Int) : Option (Int) := Lim (fun k => spec_Backoff.f k a0)
theorem spec_Backoff.fL_is (a0 : Int) : LimIs (fun k => spec_Backoff.f k a0) (spec_Backoff.fL a0) := LimIs.of_mono (fun k r h => spec_Backoff.mono a0 k r h)
theorem spec_Backoff.l0L_eq (x0 : Int) (x3 : Int) (x4 : Int) : spec_Backoff.l0L x0 x3 x4 = if x4 < x0 then (spec_Backoff.l0L x0 (mn 32 (wrap64 (2 * x3))) (wrap64 (x4 + 1))) else (some x3) := by
  refine LimIs.unique (spec_Backoff.l0L_is x0 x3 x4) (LimIs.step (f := fun k => if x4 < x0 then (spec_Backoff.l0 k x0 (mn 32 (wrap64 (2 * x3))) (wrap64 (x4 + 1))) else (some x3)) (by simp only [spec_Backoff.l0]) (fun k => by simp only [spec_Backoff.l0]) ?_)
  repeat' first
    | (with_reducible exact LimIs.const _)
    | (with_reducible exact spec_Backoff.l0L_is _ _ _)
    | (with_reducible refine LimIs.ite ?_ ?_)
    | (with_reducible refine LimIs.bind ?_ (fun _ => ?_))
theorem spec_Backoff.fL_eq (a0 : Int) : spec_Backoff.fL a0 = (spec_l1In.f a0 1 10).bind fun t101 => (if t101 = true then (spec_Backoff.l0L a0 1 1) else (some (-1))) := by
  refine LimIs.unique (spec_Backoff.fL_is a0) ?_
  unfold spec_Backoff.f
  repeat' first
    | (with_reducible exact LimIs.const _)
    | (with_reducible exact spec_Backoff.l0L_is _ _ _)
    | (with_reducible refine LimIs.ite ?_ ?_)
    | (with_reducible refine LimIs.bind ?_ (fun _ => ?_))
/-! ### impl_Backoff -/
noncomputable def impl_Backoff.j0L (x0 : Int) (x9 : Bool) : Option (Int) := Lim (fun k => impl_Backoff.j0 k x0 x9)
theorem impl_Backoff.j0L_is (x0 : Int) (x9 : Bool) : LimIs (fun k => impl_Backoff.j0 k x0 x9) (impl_Backoff.j0L x0 x9) := LimIs.of_mono (fun k r h => (impl_Backoff.mono_l k).1 x0 x9 r h)
noncomputable def impl_Backoff.l0L (x3 : Int) (x11 : Int) (x12 : Int) : Option (Int) := Lim (fun k => impl_Backoff.l0 k x3 x11 x12)
theorem impl_Backoff.l0L_is (x3 : Int) (x11 : Int) (x12 : Int) : LimIs (fun k => impl_Backoff.l0 k x3 x11 x12) (impl_Backoff.l0L x3 x11 x12) := LimIs.of_mono (fun k r h => (impl_Backoff.mono_l k).2 x3 x11 x12 r h)
noncomputable def impl_Backoff.fL (a0 : Int) : Option (Int) := Lim (fun k => impl_Backoff.f k a0)
theorem impl_Backoff.fL_is (a0 : Int) : LimIs (fun k => impl_Backoff.f k a0) (impl_Backoff.fL a0) := LimIs.of_mono (fun k r h => impl_Backoff.mono a0 k r h)
theorem impl_Backoff.j0L_eq (x0 : Int) (x9 : Bool) : impl_Backoff.j0L x0 x9 = if x9 = true then (some (-1)) else (impl_Backoff.l0L 1 (wrap64 (x0 - 1)) 0) := by
  refine LimIs.unique (impl_Backoff.j0L_is x0 x9) (LimIs.step (f := fun k => if x9 = true then (some (-1)) else (impl_Backoff.l0 k 1 (wrap64 (x0 - 1)) 0)) (by simp only [impl_Backoff.j0]) (fun k => by simp only [impl_Backoff.j0]) ?_)
  repeat' first
    | (with_reducible exact LimIs.const _)
    | (with_reducible exact impl_Backoff.l0L_is _ _ _)
    | (with_reducible refine LimIs.ite ?_ ?_)
    | (with_reducible refine LimIs.bind ?_ (fun _ => ?_))
theorem impl_Backoff.l0L_eq (x3 : Int) (x11 : Int) (x12 : Int) : impl_Backoff.l0L x3 x11 x12 = if x12 < x11 then (impl_Backoff.l0L (mn (wrap64 (2 * x3)) 32) x11 (wrap64 (x12 + 1))) else (some x3) := by
  refine LimIs.unique (impl_Backoff.l0L_is x3 x11 x12) (LimIs.step (f := fun k => if x12 < x11 then (impl_Backoff.l0 k (mn (wrap64 (2 * x3)) 32) x11 (wrap64 (x12 + 1))) else (some x3)) (by simp only [impl_Backoff.l0]) (fun k => by simp only [impl_Backoff.l0]) ?_)
  repeat' first
    | (with_reducible exact LimIs.const _)
    | (with_reducible exact impl_Backoff.l0L_is _ _ _)
    | (with_reducible refine LimIs.ite ?_ ?_)
    | (with_reducible refine LimIs.bind ?_ (fun _ => ?_))
theorem impl_Backoff.fL_eq (a0 : Int) : impl_Backoff.fL a0 = if a0 < 1 then (impl_Backoff.j0L a0 true) else (impl_Backoff.j0L a0 (decide (a0 > 10))) := by
  refine LimIs.unique (impl_Backoff.fL_is a0) ?_
  unfold impl_Backoff.f
  repeat' first
    | (with_reducible exact LimIs.const _)
    | (with_reducible exact impl_Backoff.j0L_is _ _)
    | (with_reducible refine LimIs.ite ?_ ?_)
    | (with_reducible refine LimIs.bind ?_ (fun _ => ?_))
/-! ### laws_FnExactBackoff -/
noncomputable def laws_FnExactBackoff.fL (a0 : Int) : Option (Bool) := Lim (fun k => laws_FnExactBackoff.f k a0)
theorem laws_FnExactBackoff.fL_is (a0 : Int) : LimIs (fun k => laws_FnExactBackoff.f k a0) (laws_FnExactBackoff.fL a0) := LimIs.of_mono (fun k r h => laws_FnExactBackoff.mono a0 k r h)
theorem laws_FnExactBackoff.fL_eq (a0 : Int) : laws_FnExactBackoff.fL a0 = (spec_Backoff.fL a0).bind fun t102 => ((impl_Backoff.fL a0).bind fun t103 => (if t103 = t102 then (some true) else (some false))) := by
  refine LimIs.unique (laws_FnExactBackoff.fL_is a0) ?_
  unfold laws_FnExactBackoff.f
  repeat' first
    | (with_reducible exact LimIs.const _)
    | (with_reducible exact impl_Backoff.fL_is _)
    | (with_reducible exact spec_Backoff.fL_is _)
    | (with_reducible refine LimIs.ite ?_ ?_)
    | (with_reducible refine LimIs.bind ?_ (fun _ => ?_))
end Go.Proofs.Ytpeifepnaecjiaa.PFnExactBackoff
