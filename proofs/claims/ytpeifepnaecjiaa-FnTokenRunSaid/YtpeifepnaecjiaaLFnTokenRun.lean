/- The limits of the printed functions, and their equations. Written by lim.py out of the print. No condition. -/
import Derived.Test.YtpeifepnaecjiaaPFnTokenRunx3
import Derived.Test.YtpeifepnaecjiaaLim
namespace Go.Proofs.Ytpeifepnaecjiaa.PFnTokenRun
open Go.RowKit Go.Proofs.YtpeifepnaecjiaaW.PrintWords Go.Proofs.YtpeifepnaecjiaaW.PrintLast Go.Proofs.YtpeifepnaecjiaaW.PrintMore Go.Proofs.Ytpeifepnaecjiaa.Lim
set_option linter.unusedVariables false

/-! ### spec_TokenRun -/
noncomputable def spec_TokenRun.j0L (x0 : Int) (x1 : List Bool) (x17 : Bool) : Option (Int × Int) := Lim (fun k => spec_TokenRun.j0 k x0 x1 x17)
theorem spec_TokenRun.j0L_is (x0 : Int) (x1 : List Bool) (x17 : Bool) : LimIs (fun k => spec_TokenRun.j0 k x0 x1 x17) (spec_TokenRun.j0L x0 x1 x17) := LimIs.of_mono (fun k r h => (spec_TokenRun.mono_l k).1 x0 x1 x17 r h)
noncomputable def spec_TokenRun.l0L (x0 : Int) (x1 : List Bool) (x6 : Int) (x7 : Int) : Option (Int × Int) := Lim (fun k => spec_TokenRun.l0 k x0 x1 x6 x7)
theorem spec_TokenRun.l0L_is (x0 : Int) (x1 : List Bool) (x6 : Int) (x7 : Int) : LimIs (fun k => spec_TokenRun.l0 k x0 x1 x6 x7) (spec_TokenRun.l0L x0 x1 x6 x7) := LimIs.of_mono (fun k r h => (spec_TokenRun.mono_l k).2 x0 x1 x6 x7 r h)
noncomputable def spec_TokenRun.fL (a0 : Int) (l1 : List Bool) : Option (Int × Int) := Lim (fun k => spec_TokenRun.f k a0 l1)
theorem spec_TokenRun.fL_is (a0 : Int) (l1 : List Bool) : LimIs (fun k => spec_TokenRun.f k a0 l1) (spec_TokenRun.fL a0 l1) := LimIs.of_mono (fun k r h => spec_TokenRun.mono a0 l1 k r h)
theorem spec_TokenRun.j0L_eq (x0 : Int) (x1 : List Bool) (x17 : Bool) : spec_TokenRun.j0L x0 x1 x17 = if x17 = true then (some ((-1), (-1))) else (spec_TokenRun.l0L x0 x1 0 0) := by
  refine LimIs.unique (spec_TokenRun.j0L_is x0 x1 x17) (LimIs.step (f := fun k => if x17 = true then (some ((-1), (-1))) else (spec_TokenRun.l0 k x0 x1 0 0)) (by simp only [spec_TokenRun.j0]) (fun k => by simp only [spec_TokenRun.j0]) ?_)
  repeat' first
    | (with_reducible exact LimIs.const _)
    | (with_reducible exact spec_TokenRun.l0L_is _ _ _ _)
    | (with_reducible refine LimIs.ite ?_ ?_)
    | (with_reducible refine LimIs.bind ?_ (fun _ => ?_))
theorem spec_TokenRun.l0L_eq (x0 : Int) (x1 : List Bool) (x6 : Int) (x7 : Int) : spec_TokenRun.l0L x0 x1 x6 x7 = if x7 < (x1.length : Int) then (if 0 ≤ x7 then ((spec_TokenStep.f x0 (rdOf false x1 x7)).bind fun bt104 => (if bt104.2 = true then (spec_TokenRun.l0L bt104.1 x1 (wrap64 (x6 + 1)) (wrap64 (x7 + 1))) else (spec_TokenRun.l0L bt104.1 x1 x6 (wrap64 (x7 + 1))))) else (none)) else (some (x0, x6)) := by
  refine LimIs.unique (spec_TokenRun.l0L_is x0 x1 x6 x7) (LimIs.step (f := fun k => if x7 < (x1.length : Int) then (if 0 ≤ x7 then ((spec_TokenStep.f x0 (rdOf false x1 x7)).bind fun bt104 => (if bt104.2 = true then (spec_TokenRun.l0 k bt104.1 x1 (wrap64 (x6 + 1)) (wrap64 (x7 + 1))) else (spec_TokenRun.l0 k bt104.1 x1 x6 (wrap64 (x7 + 1))))) else (none)) else (some (x0, x6))) (by simp only [spec_TokenRun.l0]) (fun k => by simp only [spec_TokenRun.l0]) ?_)
  repeat' first
    | (with_reducible exact LimIs.const _)
    | (with_reducible exact spec_TokenRun.l0L_is _ _ _ _)
    | (with_reducible refine LimIs.ite ?_ ?_)
    | (with_reducible refine LimIs.bind ?_ (fun _ => ?_))
theorem spec_TokenRun.fL_eq (a0 : Int) (l1 : List Bool) : spec_TokenRun.fL a0 l1 = (spec_l1In.f a0 0 10).bind fun t102 => (if t102 = true then (spec_TokenRun.j0L a0 l1 (decide ((l1.length : Int) > 200))) else (spec_TokenRun.j0L a0 l1 true)) := by
  refine LimIs.unique (spec_TokenRun.fL_is a0 l1) ?_
  unfold spec_TokenRun.f
  repeat' first
    | (with_reducible exact LimIs.const _)
    | (with_reducible exact spec_TokenRun.j0L_is _ _ _)
    | (with_reducible refine LimIs.ite ?_ ?_)
    | (with_reducible refine LimIs.bind ?_ (fun _ => ?_))
/-! ### impl_TokenStep -/
noncomputable def impl_TokenStep.j0L (x0 : Int) (x1 : Bool) (x6 : Bool) : Option (Int × Bool) := Lim (fun k => impl_TokenStep.j0 k x0 x1 x6)
theorem impl_TokenStep.j0L_is (x0 : Int) (x1 : Bool) (x6 : Bool) : LimIs (fun k => impl_TokenStep.j0 k x0 x1 x6) (impl_TokenStep.j0L x0 x1 x6) := LimIs.of_mono (fun k r h => (impl_TokenStep.mono_l k) x0 x1 x6 r h)
noncomputable def impl_TokenStep.fL (a0 : Int) (a1 : Bool) : Option (Int × Bool) := Lim (fun k => impl_TokenStep.f k a0 a1)
theorem impl_TokenStep.fL_is (a0 : Int) (a1 : Bool) : LimIs (fun k => impl_TokenStep.f k a0 a1) (impl_TokenStep.fL a0 a1) := LimIs.of_mono (fun k r h => impl_TokenStep.mono a0 a1 k r h)
theorem impl_TokenStep.j0L_eq (x0 : Int) (x1 : Bool) (x6 : Bool) : impl_TokenStep.j0L x0 x1 x6 = if x6 = true then (some ((-1), false)) else (if x1 = true then (some (mn (wrap64 (x0 + 1)) 10, false)) else (if x0 ≥ 3 then (some (wrap64 (x0 - 3), true)) else (some (x0, false)))) := by
  refine LimIs.unique (impl_TokenStep.j0L_is x0 x1 x6) (LimIs.step (f := fun k => if x6 = true then (some ((-1), false)) else (if x1 = true then (some (mn (wrap64 (x0 + 1)) 10, false)) else (if x0 ≥ 3 then (some (wrap64 (x0 - 3), true)) else (some (x0, false))))) (by simp only [impl_TokenStep.j0]) (fun k => by simp only [impl_TokenStep.j0]) ?_)
  repeat' first
    | (with_reducible exact LimIs.const _)
    | (with_reducible refine LimIs.ite ?_ ?_)
    | (with_reducible refine LimIs.bind ?_ (fun _ => ?_))
theorem impl_TokenStep.fL_eq (a0 : Int) (a1 : Bool) : impl_TokenStep.fL a0 a1 = if a0 < 0 then (impl_TokenStep.j0L a0 a1 true) else (impl_TokenStep.j0L a0 a1 (decide (a0 > 10))) := by
  refine LimIs.unique (impl_TokenStep.fL_is a0 a1) ?_
  unfold impl_TokenStep.f
  repeat' first
    | (with_reducible exact LimIs.const _)
    | (with_reducible exact impl_TokenStep.j0L_is _ _ _)
    | (with_reducible refine LimIs.ite ?_ ?_)
    | (with_reducible refine LimIs.bind ?_ (fun _ => ?_))
/-! ### impl_TokenRun -/
noncomputable def impl_TokenRun.j0L (x0 : Int) (x1 : List Bool) (x20 : Bool) : Option (Int × Int) := Lim (fun k => impl_TokenRun.j0 k x0 x1 x20)
theorem impl_TokenRun.j0L_is (x0 : Int) (x1 : List Bool) (x20 : Bool) : LimIs (fun k => impl_TokenRun.j0 k x0 x1 x20) (impl_TokenRun.j0L x0 x1 x20) := LimIs.of_mono (fun k r h => (impl_TokenRun.mono_l k).1 x0 x1 x20 r h)
noncomputable def impl_TokenRun.l0L (x0 : Int) (x6 : Int) (x21 : List Bool) (x22 : Int) (x23 : Int) : Option (Int × Int) := Lim (fun k => impl_TokenRun.l0 k x0 x6 x21 x22 x23)
theorem impl_TokenRun.l0L_is (x0 : Int) (x6 : Int) (x21 : List Bool) (x22 : Int) (x23 : Int) : LimIs (fun k => impl_TokenRun.l0 k x0 x6 x21 x22 x23) (impl_TokenRun.l0L x0 x6 x21 x22 x23) := LimIs.of_mono (fun k r h => (impl_TokenRun.mono_l k).2 x0 x6 x21 x22 x23 r h)
noncomputable def impl_TokenRun.fL (a0 : Int) (l1 : List Bool) : Option (Int × Int) := Lim (fun k => impl_TokenRun.f k a0 l1)
theorem impl_TokenRun.fL_is (a0 : Int) (l1 : List Bool) : LimIs (fun k => impl_TokenRun.f k a0 l1) (impl_TokenRun.fL a0 l1) := LimIs.of_mono (fun k r h => impl_TokenRun.mono a0 l1 k r h)
theorem impl_TokenRun.j0L_eq (x0 : Int) (x1 : List Bool) (x20 : Bool) : impl_TokenRun.j0L x0 x1 x20 = if x20 = true then (some ((-1), (-1))) else (impl_TokenRun.l0L x0 0 x1 (x1.length : Int) 0) := by
  refine LimIs.unique (impl_TokenRun.j0L_is x0 x1 x20) (LimIs.step (f := fun k => if x20 = true then (some ((-1), (-1))) else (impl_TokenRun.l0 k x0 0 x1 (x1.length : Int) 0)) (by simp only [impl_TokenRun.j0]) (fun k => by simp only [impl_TokenRun.j0]) ?_)
  repeat' first
    | (with_reducible exact LimIs.const _)
    | (with_reducible exact impl_TokenRun.l0L_is _ _ _ _ _)
    | (with_reducible refine LimIs.ite ?_ ?_)
    | (with_reducible refine LimIs.bind ?_ (fun _ => ?_))
theorem impl_TokenRun.l0L_eq (x0 : Int) (x6 : Int) (x21 : List Bool) (x22 : Int) (x23 : Int) : impl_TokenRun.l0L x0 x6 x21 x22 x23 = if x23 < x22 then (if 0 ≤ x23 then (if x23 < (x21.length : Int) then ((impl_TokenStep.fL x0 (rdOf false x21 x23)).bind fun bt107 => (if bt107.2 = true then (impl_TokenRun.l0L bt107.1 (wrap64 (x6 + 1)) x21 x22 (wrap64 (x23 + 1))) else (impl_TokenRun.l0L bt107.1 x6 x21 x22 (wrap64 (x23 + 1))))) else (none)) else (none)) else (some (x0, x6)) := by
  refine LimIs.unique (impl_TokenRun.l0L_is x0 x6 x21 x22 x23) (LimIs.step (f := fun k => if x23 < x22 then (if 0 ≤ x23 then (if x23 < (x21.length : Int) then ((impl_TokenStep.f k x0 (rdOf false x21 x23)).bind fun bt107 => (if bt107.2 = true then (impl_TokenRun.l0 k bt107.1 (wrap64 (x6 + 1)) x21 x22 (wrap64 (x23 + 1))) else (impl_TokenRun.l0 k bt107.1 x6 x21 x22 (wrap64 (x23 + 1))))) else (none)) else (none)) else (some (x0, x6))) (by simp only [impl_TokenRun.l0]) (fun k => by simp only [impl_TokenRun.l0]) ?_)
  repeat' first
    | (with_reducible exact LimIs.const _)
    | (with_reducible exact impl_TokenRun.l0L_is _ _ _ _ _)
    | (with_reducible exact impl_TokenStep.fL_is _ _)
    | (with_reducible refine LimIs.ite ?_ ?_)
    | (with_reducible refine LimIs.bind ?_ (fun _ => ?_))
theorem impl_TokenRun.fL_eq (a0 : Int) (l1 : List Bool) : impl_TokenRun.fL a0 l1 = if a0 < 0 then (impl_TokenRun.j0L a0 l1 true) else (if a0 > 10 then (impl_TokenRun.j0L a0 l1 true) else (impl_TokenRun.j0L a0 l1 (decide ((l1.length : Int) > 200)))) := by
  refine LimIs.unique (impl_TokenRun.fL_is a0 l1) ?_
  unfold impl_TokenRun.f
  repeat' first
    | (with_reducible exact LimIs.const _)
    | (with_reducible exact impl_TokenRun.j0L_is _ _ _)
    | (with_reducible refine LimIs.ite ?_ ?_)
    | (with_reducible refine LimIs.bind ?_ (fun _ => ?_))
/-! ### impl_lettersOnly -/
noncomputable def impl_lettersOnly.fL (a0 : ByteArray) : Option (Bool) := Lim (fun k => impl_lettersOnly.f k a0)
theorem impl_lettersOnly.fL_is (a0 : ByteArray) : LimIs (fun k => impl_lettersOnly.f k a0) (impl_lettersOnly.fL a0) := LimIs.of_mono (fun k r h => impl_lettersOnly.mono a0 k r h)
theorem impl_lettersOnly.fL_eq (a0 : ByteArray) : impl_lettersOnly.fL a0 = if a0.toList = ([] : List UInt8) then (some true) else (if 0 < (a0.size : Int) then (if (bt a0 0) ≥ 97 then (if (bt a0 0) ≤ 122 then (if 1 ≤ (a0.size : Int) then ((impl_lettersOnly.fL (a0.extract 1 a0.size)).bind fun t109 => (some t109)) else (none)) else (some false)) else (some false)) else (none)) := by
  refine LimIs.unique (impl_lettersOnly.fL_is a0) (LimIs.step (f := fun k => if a0.toList = ([] : List UInt8) then (some true) else (if 0 < (a0.size : Int) then (if (bt a0 0) ≥ 97 then (if (bt a0 0) ≤ 122 then (if 1 ≤ (a0.size : Int) then ((impl_lettersOnly.f k (a0.extract 1 a0.size)).bind fun t109 => (some t109)) else (none)) else (some false)) else (some false)) else (none))) (by simp only [impl_lettersOnly.f]) (fun k => by simp only [impl_lettersOnly.f]) ?_)
  repeat' first
    | (with_reducible exact LimIs.const _)
    | (with_reducible exact impl_lettersOnly.fL_is _)
    | (with_reducible refine LimIs.ite ?_ ?_)
    | (with_reducible refine LimIs.bind ?_ (fun _ => ?_))
/-! ### impl_KeyValid -/
noncomputable def impl_KeyValid.fL (a0 : ByteArray) : Option (Bool) := Lim (fun k => impl_KeyValid.f k a0)
theorem impl_KeyValid.fL_is (a0 : ByteArray) : LimIs (fun k => impl_KeyValid.f k a0) (impl_KeyValid.fL a0) := LimIs.of_mono (fun k r h => impl_KeyValid.mono a0 k r h)
theorem impl_KeyValid.fL_eq (a0 : ByteArray) : impl_KeyValid.fL a0 = if (a0.size : Int) < 1 then (some false) else (if (a0.size : Int) > 4 then (some false) else ((impl_lettersOnly.fL a0).bind fun t110 => (some t110))) := by
  refine LimIs.unique (impl_KeyValid.fL_is a0) ?_
  unfold impl_KeyValid.f
  repeat' first
    | (with_reducible exact LimIs.const _)
    | (with_reducible exact impl_lettersOnly.fL_is _)
    | (with_reducible refine LimIs.ite ?_ ?_)
    | (with_reducible refine LimIs.bind ?_ (fun _ => ?_))
/-! ### impl_keysFrom -/
noncomputable def impl_keysFrom.fL (a0 : Int) : Option (Int) := Lim (fun k => impl_keysFrom.f k a0)
theorem impl_keysFrom.fL_is (a0 : Int) : LimIs (fun k => impl_keysFrom.f k a0) (impl_keysFrom.fL a0) := LimIs.of_mono (fun k r h => impl_keysFrom.mono a0 k r h)
theorem impl_keysFrom.fL_eq (a0 : Int) : impl_keysFrom.fL a0 = if a0 ≥ 4 then (some 1) else ((impl_keysFrom.fL (wrap64 (a0 + 1))).bind fun t111 => (some (wrap64 (1 + (wrap64 (26 * t111)))))) := by
  refine LimIs.unique (impl_keysFrom.fL_is a0) (LimIs.step (f := fun k => if a0 ≥ 4 then (some 1) else ((impl_keysFrom.f k (wrap64 (a0 + 1))).bind fun t111 => (some (wrap64 (1 + (wrap64 (26 * t111))))))) (by simp only [impl_keysFrom.f]) (fun k => by simp only [impl_keysFrom.f]) ?_)
  repeat' first
    | (with_reducible exact LimIs.const _)
    | (with_reducible exact impl_keysFrom.fL_is _)
    | (with_reducible refine LimIs.ite ?_ ?_)
    | (with_reducible refine LimIs.bind ?_ (fun _ => ?_))
/-! ### impl_rankBelow -/
noncomputable def impl_rankBelow.fL (a0 : ByteArray) (a1 : Int) : Option (Int) := Lim (fun k => impl_rankBelow.f k a0 a1)
theorem impl_rankBelow.fL_is (a0 : ByteArray) (a1 : Int) : LimIs (fun k => impl_rankBelow.f k a0 a1) (impl_rankBelow.fL a0 a1) := LimIs.of_mono (fun k r h => impl_rankBelow.mono a0 a1 k r h)
theorem impl_rankBelow.fL_eq (a0 : ByteArray) (a1 : Int) : impl_rankBelow.fL a0 a1 = if a0.toList = ([] : List UInt8) then (some 0) else (if 0 < (a0.size : Int) then ((impl_keysFrom.fL a1).bind fun t112 => (if 1 ≤ (a0.size : Int) then ((impl_rankBelow.fL (a0.extract 1 a0.size) (wrap64 (a1 + 1))).bind fun t113 => (some (wrap64 ((wrap64 (1 + (wrap64 ((((bt a0 0) - 97) % 256) * t112)))) + t113)))) else (none))) else (none)) := by
  refine LimIs.unique (impl_rankBelow.fL_is a0 a1) (LimIs.step (f := fun k => if a0.toList = ([] : List UInt8) then (some 0) else (if 0 < (a0.size : Int) then ((impl_keysFrom.f k a1).bind fun t112 => (if 1 ≤ (a0.size : Int) then ((impl_rankBelow.f k (a0.extract 1 a0.size) (wrap64 (a1 + 1))).bind fun t113 => (some (wrap64 ((wrap64 (1 + (wrap64 ((((bt a0 0) - 97) % 256) * t112)))) + t113)))) else (none))) else (none))) (by simp only [impl_rankBelow.f]) (fun k => by simp only [impl_rankBelow.f]) ?_)
  repeat' first
    | (with_reducible exact LimIs.const _)
    | (with_reducible exact impl_keysFrom.fL_is _)
    | (with_reducible exact impl_rankBelow.fL_is _ _)
    | (with_reducible refine LimIs.ite ?_ ?_)
    | (with_reducible refine LimIs.bind ?_ (fun _ => ?_))
/-! ### impl_KeyRank -/
noncomputable def impl_KeyRank.fL (a0 : ByteArray) : Option (Int) := Lim (fun k => impl_KeyRank.f k a0)
theorem impl_KeyRank.fL_is (a0 : ByteArray) : LimIs (fun k => impl_KeyRank.f k a0) (impl_KeyRank.fL a0) := LimIs.of_mono (fun k r h => impl_KeyRank.mono a0 k r h)
theorem impl_KeyRank.fL_eq (a0 : ByteArray) : impl_KeyRank.fL a0 = (impl_KeyValid.fL a0).bind fun t114 => (if t114 = true then ((impl_rankBelow.fL a0 1).bind fun t115 => (some (wrap64 (t115 - 1)))) else (some (-1))) := by
  refine LimIs.unique (impl_KeyRank.fL_is a0) ?_
  unfold impl_KeyRank.f
  repeat' first
    | (with_reducible exact LimIs.const _)
    | (with_reducible exact impl_KeyValid.fL_is _)
    | (with_reducible exact impl_rankBelow.fL_is _ _)
    | (with_reducible refine LimIs.ite ?_ ?_)
    | (with_reducible refine LimIs.bind ?_ (fun _ => ?_))
/-! ### laws_alive -/
noncomputable def laws_alive.fL : Option (Bool) := Lim (fun k => laws_alive.f k)
theorem laws_alive.fL_is : LimIs (fun k => laws_alive.f k) (laws_alive.fL) := LimIs.of_mono (fun k r h => laws_alive.mono k r h)
theorem laws_alive.fL_eq : laws_alive.fL = (impl_KeyRank.fL (⟨#[97, 97]⟩ : ByteArray)).bind fun t116 => (if t116 = 1 then ((impl_KeyRank.fL (⟨#[]⟩ : ByteArray)).bind fun t117 => (some (t117 == (-1)))) else (some false)) := by
  refine LimIs.unique (laws_alive.fL_is) ?_
  unfold laws_alive.f
  repeat' first
    | (with_reducible exact LimIs.const _)
    | (with_reducible exact impl_KeyRank.fL_is _)
    | (with_reducible refine LimIs.ite ?_ ?_)
    | (with_reducible refine LimIs.bind ?_ (fun _ => ?_))
/-! ### spec_l20Rd_pick -/
noncomputable def spec_l20Rd_pick.j0L (x1 : Int) (x24 : Bool) (x1000 : List Int) (x1001 : Int) : Option (Int × Int) := Lim (fun k => spec_l20Rd_pick.j0 k x1 x24 x1000 x1001)
theorem spec_l20Rd_pick.j0L_is (x1 : Int) (x24 : Bool) (x1000 : List Int) (x1001 : Int) : LimIs (fun k => spec_l20Rd_pick.j0 k x1 x24 x1000 x1001) (spec_l20Rd_pick.j0L x1 x24 x1000 x1001) := LimIs.of_mono (fun k r h => (spec_l20Rd_pick.mono_l k) x1 x24 x1000 x1001 r h)
noncomputable def spec_l20Rd_pick.fL (s0_0 : List Int) (s0_1 : Int) (a1 : Int) : Option (Int × Int) := Lim (fun k => spec_l20Rd_pick.f k s0_0 s0_1 a1)
theorem spec_l20Rd_pick.fL_is (s0_0 : List Int) (s0_1 : Int) (a1 : Int) : LimIs (fun k => spec_l20Rd_pick.f k s0_0 s0_1 a1) (spec_l20Rd_pick.fL s0_0 s0_1 a1) := LimIs.of_mono (fun k r h => spec_l20Rd_pick.mono s0_0 s0_1 a1 k r h)
theorem spec_l20Rd_pick.j0L_eq (x1 : Int) (x24 : Bool) (x1000 : List Int) (x1001 : Int) : spec_l20Rd_pick.j0L x1 x24 x1000 x1001 = if x24 = true then (some (0, x1001)) else (if (wrap64 (x1001 - 1)) < (x1000.length : Int) then (if 0 ≤ (wrap64 (x1001 - 1)) then (if x1 = 0 then (none) else (some (Int.tmod (wrap64 (rd x1000 (wrap64 (x1001 - 1)))) x1, x1001))) else (none)) else (if (x1000.length : Int) = 0 then (none) else (if 0 ≤ (Int.tmod (wrap64 (x1001 - 1)) (x1000.length : Int)) then (if (Int.tmod (wrap64 (x1001 - 1)) (x1000.length : Int)) < (x1000.length : Int) then (if 0 ≤ (Int.tmod (wrap64 ((wrap64 ((wrap64 (x1001 - 1)) * 7)) + 3)) (x1000.length : Int)) then (if (Int.tmod (wrap64 ((wrap64 ((wrap64 (x1001 - 1)) * 7)) + 3)) (x1000.length : Int)) < (x1000.length : Int) then (if x1 = 0 then (none) else (some (Int.tmod (Go.bits .xor .i64 (wrap64 ((wrap64 ((wrap64 ((wrap64 ((wrap64 (rd x1000 (Int.tmod (wrap64 (x1001 - 1)) (x1000.length : Int)))) * 131)) + (wrap64 ((wrap64 (rd x1000 (Int.tmod (wrap64 ((wrap64 ((wrap64 (x1001 - 1)) * 7)) + 3)) (x1000.length : Int)))) * 1117)))) + (wrap64 ((wrap64 (x1001 - 1)) * 29)))) + (wrap64 ((wrap64 (Int.tdiv (wrap64 (x1001 - 1)) (x1000.length : Int))) * 53)))) (wrap64 (Int.tdiv (wrap64 ((wrap64 ((wrap64 ((wrap64 ((wrap64 (rd x1000 (Int.tmod (wrap64 (x1001 - 1)) (x1000.length : Int)))) * 131)) + (wrap64 ((wrap64 (rd x1000 (Int.tmod (wrap64 ((wrap64 ((wrap64 (x1001 - 1)) * 7)) + 3)) (x1000.length : Int)))) * 1117)))) + (wrap64 ((wrap64 (x1001 - 1)) * 29)))) + (wrap64 ((wrap64 (Int.tdiv (wrap64 (x1001 - 1)) (x1000.length : Int))) * 53)))) 64))) x1, x1001))) else (none)) else (none)) else (none)) else (none)))) := by
  refine LimIs.unique (spec_l20Rd_pick.j0L_is x1 x24 x1000 x1001) (LimIs.step (f := fun k => if x24 = true then (some (0, x1001)) else (if (wrap64 (x1001 - 1)) < (x1000.length : Int) then (if 0 ≤ (wrap64 (x1001 - 1)) then (if x1 = 0 then (none) else (some (Int.tmod (wrap64 (rd x1000 (wrap64 (x1001 - 1)))) x1, x1001))) else (none)) else (if (x1000.length : Int) = 0 then (none) else (if 0 ≤ (Int.tmod (wrap64 (x1001 - 1)) (x1000.length : Int)) then (if (Int.tmod (wrap64 (x1001 - 1)) (x1000.length : Int)) < (x1000.length : Int) then (if 0 ≤ (Int.tmod (wrap64 ((wrap64 ((wrap64 (x1001 - 1)) * 7)) + 3)) (x1000.length : Int)) then (if (Int.tmod (wrap64 ((wrap64 ((wrap64 (x1001 - 1)) * 7)) + 3)) (x1000.length : Int)) < (x1000.length : Int) then (if x1 = 0 then (none) else (some (Int.tmod (Go.bits .xor .i64 (wrap64 ((wrap64 ((wrap64 ((wrap64 ((wrap64 (rd x1000 (Int.tmod (wrap64 (x1001 - 1)) (x1000.length : Int)))) * 131)) + (wrap64 ((wrap64 (rd x1000 (Int.tmod (wrap64 ((wrap64 ((wrap64 (x1001 - 1)) * 7)) + 3)) (x1000.length : Int)))) * 1117)))) + (wrap64 ((wrap64 (x1001 - 1)) * 29)))) + (wrap64 ((wrap64 (Int.tdiv (wrap64 (x1001 - 1)) (x1000.length : Int))) * 53)))) (wrap64 (Int.tdiv (wrap64 ((wrap64 ((wrap64 ((wrap64 ((wrap64 (rd x1000 (Int.tmod (wrap64 (x1001 - 1)) (x1000.length : Int)))) * 131)) + (wrap64 ((wrap64 (rd x1000 (Int.tmod (wrap64 ((wrap64 ((wrap64 (x1001 - 1)) * 7)) + 3)) (x1000.length : Int)))) * 1117)))) + (wrap64 ((wrap64 (x1001 - 1)) * 29)))) + (wrap64 ((wrap64 (Int.tdiv (wrap64 (x1001 - 1)) (x1000.length : Int))) * 53)))) 64))) x1, x1001))) else (none)) else (none)) else (none)) else (none))))) (by simp only [spec_l20Rd_pick.j0]) (fun k => by simp only [spec_l20Rd_pick.j0]) ?_)
  repeat' first
    | (with_reducible exact LimIs.const _)
    | (with_reducible refine LimIs.ite ?_ ?_)
    | (with_reducible refine LimIs.bind ?_ (fun _ => ?_))
theorem spec_l20Rd_pick.fL_eq (s0_0 : List Int) (s0_1 : Int) (a1 : Int) : spec_l20Rd_pick.fL s0_0 s0_1 a1 = if a1 < 1 then (spec_l20Rd_pick.j0L a1 true s0_0 (wrap64 (s0_1 + 1))) else (spec_l20Rd_pick.j0L a1 ((s0_0.length : Int) == 0) s0_0 (wrap64 (s0_1 + 1))) := by
  refine LimIs.unique (spec_l20Rd_pick.fL_is s0_0 s0_1 a1) ?_
  unfold spec_l20Rd_pick.f
  repeat' first
    | (with_reducible exact LimIs.const _)
    | (with_reducible exact spec_l20Rd_pick.j0L_is _ _ _ _)
    | (with_reducible refine LimIs.ite ?_ ?_)
    | (with_reducible refine LimIs.bind ?_ (fun _ => ?_))
/-! ### spec_DrawTokenRun -/
noncomputable def spec_DrawTokenRun.l0L (x5 : Int) (x6 : List Bool) (x7 : Int) (x130000 : List Int) (x130001 : Int) : Option (Int × List Bool) := Lim (fun k => spec_DrawTokenRun.l0 k x5 x6 x7 x130000 x130001)
theorem spec_DrawTokenRun.l0L_is (x5 : Int) (x6 : List Bool) (x7 : Int) (x130000 : List Int) (x130001 : Int) : LimIs (fun k => spec_DrawTokenRun.l0 k x5 x6 x7 x130000 x130001) (spec_DrawTokenRun.l0L x5 x6 x7 x130000 x130001) := LimIs.of_mono (fun k r h => (spec_DrawTokenRun.mono_l k) x5 x6 x7 x130000 x130001 r h)
noncomputable def spec_DrawTokenRun.fL (l0 : List Int) : Option (Int × List Bool) := Lim (fun k => spec_DrawTokenRun.f k l0)
theorem spec_DrawTokenRun.fL_is (l0 : List Int) : LimIs (fun k => spec_DrawTokenRun.f k l0) (spec_DrawTokenRun.fL l0) := LimIs.of_mono (fun k r h => spec_DrawTokenRun.mono l0 k r h)
theorem spec_DrawTokenRun.l0L_eq (x5 : Int) (x6 : List Bool) (x7 : Int) (x130000 : List Int) (x130001 : Int) : spec_DrawTokenRun.l0L x5 x6 x7 x130000 x130001 = if x7 > 0 then ((spec_l20Rd_pick.fL x130000 x130001 3).bind fun bt137 => (if x6.length < 140737488355328 then (spec_DrawTokenRun.l0L x5 (x6 ++ [decide (bt137.1 > 0)]) (wrap64 (x7 - 1)) x130000 bt137.2) else (none))) else ((spec_l20Rd_pick.fL x130000 x130001 20).bind fun bt142 => (if bt142.1 = 19 then (if 201 ≤ 281474976710656 then (some (x5, (List.replicate 201 false))) else (none)) else (some (x5, x6)))) := by
  refine LimIs.unique (spec_DrawTokenRun.l0L_is x5 x6 x7 x130000 x130001) (LimIs.step (f := fun k => if x7 > 0 then ((spec_l20Rd_pick.f k x130000 x130001 3).bind fun bt137 => (if x6.length < 140737488355328 then (spec_DrawTokenRun.l0 k x5 (x6 ++ [decide (bt137.1 > 0)]) (wrap64 (x7 - 1)) x130000 bt137.2) else (none))) else ((spec_l20Rd_pick.f k x130000 x130001 20).bind fun bt142 => (if bt142.1 = 19 then (if 201 ≤ 281474976710656 then (some (x5, (List.replicate 201 false))) else (none)) else (some (x5, x6))))) (by simp only [spec_DrawTokenRun.l0]) (fun k => by simp only [spec_DrawTokenRun.l0]) ?_)
  repeat' first
    | (with_reducible exact LimIs.const _)
    | (with_reducible exact spec_DrawTokenRun.l0L_is _ _ _ _ _)
    | (with_reducible exact spec_l20Rd_pick.fL_is _ _ _)
    | (with_reducible refine LimIs.ite ?_ ?_)
    | (with_reducible refine LimIs.bind ?_ (fun _ => ?_))
theorem spec_DrawTokenRun.fL_eq (l0 : List Int) : spec_DrawTokenRun.fL l0 = (spec_l20Open.f l0).bind fun bt127 => ((spec_l20Rd_pick.fL bt127.1 bt127.2 13).bind fun bt130 => ((spec_l20Rd_pick.fL bt127.1 bt130.2 30).bind fun bt135 => (spec_DrawTokenRun.l0L (wrap64 (bt130.1 - 1)) (([] : List Bool)) bt135.1 bt127.1 bt135.2))) := by
  refine LimIs.unique (spec_DrawTokenRun.fL_is l0) ?_
  unfold spec_DrawTokenRun.f
  repeat' first
    | (with_reducible exact LimIs.const _)
    | (with_reducible exact spec_DrawTokenRun.l0L_is _ _ _ _ _)
    | (with_reducible exact spec_l20Rd_pick.fL_is _ _ _)
    | (with_reducible refine LimIs.ite ?_ ?_)
    | (with_reducible refine LimIs.bind ?_ (fun _ => ?_))
/-! ### laws_FnTokenRun -/
noncomputable def laws_FnTokenRun.j0L (x3 : Int) (x4 : List Bool) (x5 : Int) (x6 : Int) (x43 : Bool) : Option (Bool) := Lim (fun k => laws_FnTokenRun.j0 k x3 x4 x5 x6 x43)
theorem laws_FnTokenRun.j0L_is (x3 : Int) (x4 : List Bool) (x5 : Int) (x6 : Int) (x43 : Bool) : LimIs (fun k => laws_FnTokenRun.j0 k x3 x4 x5 x6 x43) (laws_FnTokenRun.j0L x3 x4 x5 x6 x43) := LimIs.of_mono (fun k r h => (laws_FnTokenRun.mono_l k).1 x3 x4 x5 x6 x43 r h)
noncomputable def laws_FnTokenRun.l0L (x3 : Int) (x4 : List Bool) (x5 : Int) (x6 : Int) (x9 : Int) (x10 : Int) : Option (Bool) := Lim (fun k => laws_FnTokenRun.l0 k x3 x4 x5 x6 x9 x10)
theorem laws_FnTokenRun.l0L_is (x3 : Int) (x4 : List Bool) (x5 : Int) (x6 : Int) (x9 : Int) (x10 : Int) : LimIs (fun k => laws_FnTokenRun.l0 k x3 x4 x5 x6 x9 x10) (laws_FnTokenRun.l0L x3 x4 x5 x6 x9 x10) := LimIs.of_mono (fun k r h => (laws_FnTokenRun.mono_l k).2 x3 x4 x5 x6 x9 x10 r h)
noncomputable def laws_FnTokenRun.fL (l0 : List Int) : Option (Bool) := Lim (fun k => laws_FnTokenRun.f k l0)
theorem laws_FnTokenRun.fL_is (l0 : List Int) : LimIs (fun k => laws_FnTokenRun.f k l0) (laws_FnTokenRun.fL l0) := LimIs.of_mono (fun k r h => laws_FnTokenRun.mono l0 k r h)
theorem laws_FnTokenRun.j0L_eq (x3 : Int) (x4 : List Bool) (x5 : Int) (x6 : Int) (x43 : Bool) : laws_FnTokenRun.j0L x3 x4 x5 x6 x43 = if x43 = true then (some false) else (if x5 < 0 then (if x5 = (-1) then (if x6 = (-1) then ((laws_alive.fL).bind fun t155 => (some t155)) else (some false)) else (some false)) else (laws_FnTokenRun.l0L x3 x4 x5 x6 0 0)) := by
  refine LimIs.unique (laws_FnTokenRun.j0L_is x3 x4 x5 x6 x43) (LimIs.step (f := fun k => if x43 = true then (some false) else (if x5 < 0 then (if x5 = (-1) then (if x6 = (-1) then ((laws_alive.f k).bind fun t155 => (some t155)) else (some false)) else (some false)) else (laws_FnTokenRun.l0 k x3 x4 x5 x6 0 0))) (by simp only [laws_FnTokenRun.j0]) (fun k => by simp only [laws_FnTokenRun.j0]) ?_)
  repeat' first
    | (with_reducible exact LimIs.const _)
    | (with_reducible exact laws_FnTokenRun.l0L_is _ _ _ _ _ _)
    | (with_reducible exact laws_alive.fL_is)
    | (with_reducible refine LimIs.ite ?_ ?_)
    | (with_reducible refine LimIs.bind ?_ (fun _ => ?_))
theorem laws_FnTokenRun.l0L_eq (x3 : Int) (x4 : List Bool) (x5 : Int) (x6 : Int) (x9 : Int) (x10 : Int) : laws_FnTokenRun.l0L x3 x4 x5 x6 x9 x10 = if x10 < (x4.length : Int) then (if 0 ≤ x10 then (if rdOf false x4 x10 = true then (laws_FnTokenRun.l0L x3 x4 x5 x6 (wrap64 (x9 + 1)) (wrap64 (x10 + 1))) else (laws_FnTokenRun.l0L x3 x4 x5 x6 x9 (wrap64 (x10 + 1)))) else (none)) else (if 0 ≤ (wrap64 ((x4.length : Int) / 2)) then (if (wrap64 ((x4.length : Int) / 2)) ≤ (x4.length : Int) then ((impl_TokenRun.fL x3 (x4.take ((wrap64 ((x4.length : Int) / 2)) : Int).toNat)).bind fun bt161 => ((impl_TokenRun.fL bt161.1 (x4.drop ((wrap64 ((x4.length : Int) / 2)) : Int).toNat)).bind fun bt167 => (if (wrap64 (3 * x6)) ≤ (wrap64 (x3 + x9)) then (if bt167.1 = x5 then (some ((wrap64 (bt161.2 + bt167.2)) == x6)) else (some false)) else (some false)))) else (none)) else (none)) := by
  refine LimIs.unique (laws_FnTokenRun.l0L_is x3 x4 x5 x6 x9 x10) (LimIs.step (f := fun k => if x10 < (x4.length : Int) then (if 0 ≤ x10 then (if rdOf false x4 x10 = true then (laws_FnTokenRun.l0 k x3 x4 x5 x6 (wrap64 (x9 + 1)) (wrap64 (x10 + 1))) else (laws_FnTokenRun.l0 k x3 x4 x5 x6 x9 (wrap64 (x10 + 1)))) else (none)) else (if 0 ≤ (wrap64 ((x4.length : Int) / 2)) then (if (wrap64 ((x4.length : Int) / 2)) ≤ (x4.length : Int) then ((impl_TokenRun.f k x3 (x4.take ((wrap64 ((x4.length : Int) / 2)) : Int).toNat)).bind fun bt161 => ((impl_TokenRun.f k bt161.1 (x4.drop ((wrap64 ((x4.length : Int) / 2)) : Int).toNat)).bind fun bt167 => (if (wrap64 (3 * x6)) ≤ (wrap64 (x3 + x9)) then (if bt167.1 = x5 then (some ((wrap64 (bt161.2 + bt167.2)) == x6)) else (some false)) else (some false)))) else (none)) else (none))) (by simp only [laws_FnTokenRun.l0]) (fun k => by simp only [laws_FnTokenRun.l0]) ?_)
  repeat' first
    | (with_reducible exact LimIs.const _)
    | (with_reducible exact impl_TokenRun.fL_is _ _)
    | (with_reducible exact laws_FnTokenRun.l0L_is _ _ _ _ _ _)
    | (with_reducible refine LimIs.ite ?_ ?_)
    | (with_reducible refine LimIs.bind ?_ (fun _ => ?_))
theorem laws_FnTokenRun.fL_eq (l0 : List Int) : laws_FnTokenRun.fL l0 = if (l0.length : Int) > 1048576 then (some true) else ((spec_DrawTokenRun.fL l0).bind fun bt147 => ((impl_TokenRun.fL bt147.1 bt147.2).bind fun bt151 => ((spec_TokenRun.fL bt147.1 bt147.2).bind fun bt153 => (if bt151.1 = bt153.1 then (laws_FnTokenRun.j0L bt147.1 bt147.2 bt151.1 bt151.2 (bt151.2 != bt153.2)) else (laws_FnTokenRun.j0L bt147.1 bt147.2 bt151.1 bt151.2 true))))) := by
  refine LimIs.unique (laws_FnTokenRun.fL_is l0) ?_
  unfold laws_FnTokenRun.f
  repeat' first
    | (with_reducible exact LimIs.const _)
    | (with_reducible exact impl_TokenRun.fL_is _ _)
    | (with_reducible exact laws_FnTokenRun.j0L_is _ _ _ _ _)
    | (with_reducible exact spec_DrawTokenRun.fL_is _)
    | (with_reducible exact spec_TokenRun.fL_is _ _)
    | (with_reducible refine LimIs.ite ?_ ?_)
    | (with_reducible refine LimIs.bind ?_ (fun _ => ?_))
end Go.Proofs.Ytpeifepnaecjiaa.PFnTokenRun
