/- The limits of the printed functions, and their equations. Written by lim.py out of the print. No condition. -/
import Derived.Test.YtpeifepnaecjiaaOFnExactFeedValid
import Derived.Test.YtpeifepnaecjiaaLim
namespace Go.Proofs.Ytpeifepnaecjiaa.PFnExactFeedValid
open Go.RowKit Go.Proofs.YtpeifepnaecjiaaW.PrintWords Go.Proofs.YtpeifepnaecjiaaW.PrintLast Go.Proofs.YtpeifepnaecjiaaW.PrintMore Go.Proofs.Ytpeifepnaecjiaa.Lim
set_option linter.unusedVariables false

/-! ### laws_szChangeS -/
noncomputable def laws_szChangeS.l0L (x0 : List (S72)) (x1 : Int) (x5 : Int) : Option (Int) := Lim (fun k => laws_szChangeS.l0 k x0 x1 x5)
theorem laws_szChangeS.l0L_is (x0 : List (S72)) (x1 : Int) (x5 : Int) : LimIs (fun k => laws_szChangeS.l0 k x0 x1 x5) (laws_szChangeS.l0L x0 x1 x5) := LimIs.of_mono (fun k r h => (laws_szChangeS.mono_l k) x0 x1 x5 r h)
noncomputable def laws_szChangeS.fL (l0 : List (S72)) (a1 : Int) : Option (Int) := Lim (fun k => laws_szChangeS.f k l0 a1)
theorem laws_szChangeS.fL_is (l0 : List (S72)) (a1 : Int) : LimIs (fun k => laws_szChangeS.f k l0 a1) (laws_szChangeS.fL l0 a1) := LimIs.of_mono (fun k r h => laws_szChangeS.mono l0 a1 k r h)
theorem laws_szChangeS.l0L_eq (x0 : List (S72)) (x1 : Int) (x5 : Int) : laws_szChangeS.l0L x0 x1 x5 = if x5 < (x0.length : Int) then (if 0 ≤ x5 then ((laws_szChange.f ((rd_T72 x0 x5).f0) ((rd_T72 x0 x5).f1) ((rd_T72 x0 x5).f2) ((rd_T72 x0 x5).f3) x1).bind fun t103 => (if t103 < 0 then (some (-1)) else (laws_szChangeS.l0L x0 t103 (wrap64 (x5 + 1))))) else (none)) else (some x1) := by
  refine LimIs.unique (laws_szChangeS.l0L_is x0 x1 x5) (LimIs.step (f := fun k => if x5 < (x0.length : Int) then (if 0 ≤ x5 then ((laws_szChange.f ((rd_T72 x0 x5).f0) ((rd_T72 x0 x5).f1) ((rd_T72 x0 x5).f2) ((rd_T72 x0 x5).f3) x1).bind fun t103 => (if t103 < 0 then (some (-1)) else (laws_szChangeS.l0 k x0 t103 (wrap64 (x5 + 1))))) else (none)) else (some x1)) (by simp only [laws_szChangeS.l0]) (fun k => by simp only [laws_szChangeS.l0]) ?_)
  repeat' first
    | (with_reducible exact LimIs.const _)
    | (with_reducible exact laws_szChangeS.l0L_is _ _ _)
    | (with_reducible refine LimIs.ite ?_ ?_)
    | (with_reducible refine LimIs.bind ?_ (fun _ => ?_))
theorem laws_szChangeS.fL_eq (l0 : List (S72)) (a1 : Int) : laws_szChangeS.fL l0 a1 = if (wrap64 (a1 - (l0.length : Int))) < 0 then (some (-1)) else (laws_szChangeS.l0L l0 (wrap64 (a1 - (l0.length : Int))) 0) := by
  refine LimIs.unique (laws_szChangeS.fL_is l0 a1) ?_
  unfold laws_szChangeS.f
  repeat' first
    | (with_reducible exact LimIs.const _)
    | (with_reducible exact laws_szChangeS.l0L_is _ _ _)
    | (with_reducible refine LimIs.ite ?_ ?_)
    | (with_reducible refine LimIs.bind ?_ (fun _ => ?_))
/-! ### spec_KeyValid -/
noncomputable def spec_KeyValid.l0L (x0 : ByteArray) (x3 : Int) : Option (Bool) := Lim (fun k => spec_KeyValid.l0 k x0 x3)
theorem spec_KeyValid.l0L_is (x0 : ByteArray) (x3 : Int) : LimIs (fun k => spec_KeyValid.l0 k x0 x3) (spec_KeyValid.l0L x0 x3) := LimIs.of_mono (fun k r h => (spec_KeyValid.mono_l k) x0 x3 r h)
noncomputable def spec_KeyValid.fL (a0 : ByteArray) : Option (Bool) := Lim (fun k => spec_KeyValid.f k a0)
theorem spec_KeyValid.fL_is (a0 : ByteArray) : LimIs (fun k => spec_KeyValid.f k a0) (spec_KeyValid.fL a0) := LimIs.of_mono (fun k r h => spec_KeyValid.mono a0 k r h)
theorem spec_KeyValid.l0L_eq (x0 : ByteArray) (x3 : Int) : spec_KeyValid.l0L x0 x3 = if x3 < (x0.size : Int) then (if 0 ≤ x3 then (if (bt x0 x3) < 97 then (some false) else (if (bt x0 x3) > 122 then (some false) else (spec_KeyValid.l0L x0 (wrap64 (x3 + 1))))) else (none)) else (some true) := by
  refine LimIs.unique (spec_KeyValid.l0L_is x0 x3) (LimIs.step (f := fun k => if x3 < (x0.size : Int) then (if 0 ≤ x3 then (if (bt x0 x3) < 97 then (some false) else (if (bt x0 x3) > 122 then (some false) else (spec_KeyValid.l0 k x0 (wrap64 (x3 + 1))))) else (none)) else (some true)) (by simp only [spec_KeyValid.l0]) (fun k => by simp only [spec_KeyValid.l0]) ?_)
  repeat' first
    | (with_reducible exact LimIs.const _)
    | (with_reducible exact spec_KeyValid.l0L_is _ _)
    | (with_reducible refine LimIs.ite ?_ ?_)
    | (with_reducible refine LimIs.bind ?_ (fun _ => ?_))
theorem spec_KeyValid.fL_eq (a0 : ByteArray) : spec_KeyValid.fL a0 = (spec_l1In.f (a0.size : Int) 1 4).bind fun t104 => (if t104 = true then (spec_KeyValid.l0L a0 0) else (some false)) := by
  refine LimIs.unique (spec_KeyValid.fL_is a0) ?_
  unfold spec_KeyValid.f
  repeat' first
    | (with_reducible exact LimIs.const _)
    | (with_reducible exact spec_KeyValid.l0L_is _ _)
    | (with_reducible refine LimIs.ite ?_ ?_)
    | (with_reducible refine LimIs.bind ?_ (fun _ => ?_))
/-! ### spec_FeedValid -/
noncomputable def spec_FeedValid.l0L (x0 : List (S73)) (x3 : Int) : Option (Bool) := Lim (fun k => spec_FeedValid.l0 k x0 x3)
theorem spec_FeedValid.l0L_is (x0 : List (S73)) (x3 : Int) : LimIs (fun k => spec_FeedValid.l0 k x0 x3) (spec_FeedValid.l0L x0 x3) := LimIs.of_mono (fun k r h => (spec_FeedValid.mono_l k) x0 x3 r h)
noncomputable def spec_FeedValid.fL (l0 : List (S73)) : Option (Bool) := Lim (fun k => spec_FeedValid.f k l0)
theorem spec_FeedValid.fL_is (l0 : List (S73)) : LimIs (fun k => spec_FeedValid.f k l0) (spec_FeedValid.fL l0) := LimIs.of_mono (fun k r h => spec_FeedValid.mono l0 k r h)
theorem spec_FeedValid.l0L_eq (x0 : List (S73)) (x3 : Int) : spec_FeedValid.l0L x0 x3 = if x3 < (x0.length : Int) then (if 0 ≤ x3 then (if x3 ≥ 24 then (some false) else ((spec_l1In.f ((rd_T73 x0 x3).f0) 0 23).bind fun t107 => (if t107 = true then ((spec_KeyValid.fL ((rd_T73 x0 x3).f1)).bind fun t108 => (if t108 = true then ((spec_l1In.f ((rd_T73 x0 x3).f2) (-1) 999).bind fun t109 => (if t109 = true then ((spec_l1In.f ((rd_T73 x0 x3).f3) (-1) 999).bind fun t110 => (if t110 = true then (if ((rd_T73 x0 x3).f2) = ((rd_T73 x0 x3).f3) then (some false) else (if x3 > 0 then (if 0 ≤ (wrap64 (x3 - 1)) then (if (wrap64 (x3 - 1)) < (x0.length : Int) then (if ((rd_T73 x0 x3).f0) ≤ ((rd_T73 x0 (wrap64 (x3 - 1))).f0) then (some false) else (spec_FeedValid.l0L x0 (wrap64 (x3 + 1)))) else (none)) else (none)) else (spec_FeedValid.l0L x0 (wrap64 (x3 + 1))))) else (some false))) else (some false))) else (some false))) else (some false)))) else (none)) else (some true) := by
  refine LimIs.unique (spec_FeedValid.l0L_is x0 x3) (LimIs.step (f := fun k => if x3 < (x0.length : Int) then (if 0 ≤ x3 then (if x3 ≥ 24 then (some false) else ((spec_l1In.f ((rd_T73 x0 x3).f0) 0 23).bind fun t107 => (if t107 = true then ((spec_KeyValid.f k ((rd_T73 x0 x3).f1)).bind fun t108 => (if t108 = true then ((spec_l1In.f ((rd_T73 x0 x3).f2) (-1) 999).bind fun t109 => (if t109 = true then ((spec_l1In.f ((rd_T73 x0 x3).f3) (-1) 999).bind fun t110 => (if t110 = true then (if ((rd_T73 x0 x3).f2) = ((rd_T73 x0 x3).f3) then (some false) else (if x3 > 0 then (if 0 ≤ (wrap64 (x3 - 1)) then (if (wrap64 (x3 - 1)) < (x0.length : Int) then (if ((rd_T73 x0 x3).f0) ≤ ((rd_T73 x0 (wrap64 (x3 - 1))).f0) then (some false) else (spec_FeedValid.l0 k x0 (wrap64 (x3 + 1)))) else (none)) else (none)) else (spec_FeedValid.l0 k x0 (wrap64 (x3 + 1))))) else (some false))) else (some false))) else (some false))) else (some false)))) else (none)) else (some true)) (by simp only [spec_FeedValid.l0]) (fun k => by simp only [spec_FeedValid.l0]) ?_)
  repeat' first
    | (with_reducible exact LimIs.const _)
    | (with_reducible exact spec_FeedValid.l0L_is _ _)
    | (with_reducible exact spec_KeyValid.fL_is _)
    | (with_reducible refine LimIs.ite ?_ ?_)
    | (with_reducible refine LimIs.bind ?_ (fun _ => ?_))
theorem spec_FeedValid.fL_eq (l0 : List (S73)) : spec_FeedValid.fL l0 = spec_FeedValid.l0L l0 0 := by
  refine LimIs.unique (spec_FeedValid.fL_is l0) ?_
  unfold spec_FeedValid.f
  repeat' first
    | (with_reducible exact LimIs.const _)
    | (with_reducible exact spec_FeedValid.l0L_is _ _)
    | (with_reducible refine LimIs.ite ?_ ?_)
    | (with_reducible refine LimIs.bind ?_ (fun _ => ?_))
/-! ### laws_toChangeS -/
noncomputable def laws_toChangeS.l0L (x0 : List (S72)) (x3 : List (S73)) (x4 : Int) : Option ((List (S73))) := Lim (fun k => laws_toChangeS.l0 k x0 x3 x4)
theorem laws_toChangeS.l0L_is (x0 : List (S72)) (x3 : List (S73)) (x4 : Int) : LimIs (fun k => laws_toChangeS.l0 k x0 x3 x4) (laws_toChangeS.l0L x0 x3 x4) := LimIs.of_mono (fun k r h => (laws_toChangeS.mono_l k) x0 x3 x4 r h)
noncomputable def laws_toChangeS.fL (l0 : List (S72)) : Option ((List (S73))) := Lim (fun k => laws_toChangeS.f k l0)
theorem laws_toChangeS.fL_is (l0 : List (S72)) : LimIs (fun k => laws_toChangeS.f k l0) (laws_toChangeS.fL l0) := LimIs.of_mono (fun k r h => laws_toChangeS.mono l0 k r h)
theorem laws_toChangeS.l0L_eq (x0 : List (S72)) (x3 : List (S73)) (x4 : Int) : laws_toChangeS.l0L x0 x3 x4 = if x4 < (x0.length : Int) then (if 0 ≤ x4 then ((laws_toChange.f ((rd_T72 x0 x4).f0) ((rd_T72 x0 x4).f1) ((rd_T72 x0 x4).f2) ((rd_T72 x0 x4).f3)).bind fun bt119 => (if x4 < (x3.length : Int) then (laws_toChangeS.l0L x0 (x3.set (x4 : Int).toNat (⟨bt119.1, bt119.2.1, bt119.2.2.1, bt119.2.2.2⟩ : S73)) (wrap64 (x4 + 1))) else (none))) else (none)) else (some x3) := by
  refine LimIs.unique (laws_toChangeS.l0L_is x0 x3 x4) (LimIs.step (f := fun k => if x4 < (x0.length : Int) then (if 0 ≤ x4 then ((laws_toChange.f ((rd_T72 x0 x4).f0) ((rd_T72 x0 x4).f1) ((rd_T72 x0 x4).f2) ((rd_T72 x0 x4).f3)).bind fun bt119 => (if x4 < (x3.length : Int) then (laws_toChangeS.l0 k x0 (x3.set (x4 : Int).toNat (⟨bt119.1, bt119.2.1, bt119.2.2.1, bt119.2.2.2⟩ : S73)) (wrap64 (x4 + 1))) else (none))) else (none)) else (some x3)) (by simp only [laws_toChangeS.l0]) (fun k => by simp only [laws_toChangeS.l0]) ?_)
  repeat' first
    | (with_reducible exact LimIs.const _)
    | (with_reducible exact laws_toChangeS.l0L_is _ _ _)
    | (with_reducible refine LimIs.ite ?_ ?_)
    | (with_reducible refine LimIs.bind ?_ (fun _ => ?_))
theorem laws_toChangeS.fL_eq (l0 : List (S72)) : laws_toChangeS.fL l0 = if 0 ≤ (l0.length : Int) then (if ((l0.length : Int) : Int).toNat ≤ 7036874417766 then (laws_toChangeS.l0L l0 (List.replicate ((l0.length : Int) : Int).toNat z73) 0) else (none)) else (none) := by
  refine LimIs.unique (laws_toChangeS.fL_is l0) ?_
  unfold laws_toChangeS.f
  repeat' first
    | (with_reducible exact LimIs.const _)
    | (with_reducible exact laws_toChangeS.l0L_is _ _ _)
    | (with_reducible refine LimIs.ite ?_ ?_)
    | (with_reducible refine LimIs.bind ?_ (fun _ => ?_))
/-! ### impl_lettersOnly -/
noncomputable def impl_lettersOnly.fL (a0 : ByteArray) : Option (Bool) := Lim (fun k => impl_lettersOnly.f k a0)
theorem impl_lettersOnly.fL_is (a0 : ByteArray) : LimIs (fun k => impl_lettersOnly.f k a0) (impl_lettersOnly.fL a0) := LimIs.of_mono (fun k r h => impl_lettersOnly.mono a0 k r h)
theorem impl_lettersOnly.fL_eq (a0 : ByteArray) : impl_lettersOnly.fL a0 = if a0.toList = ([] : List UInt8) then (some true) else (if 0 < (a0.size : Int) then (if (bt a0 0) ≥ 97 then (if (bt a0 0) ≤ 122 then (if 1 ≤ (a0.size : Int) then ((impl_lettersOnly.fL (a0.extract 1 a0.size)).bind fun t124 => (some t124)) else (none)) else (some false)) else (some false)) else (none)) := by
  refine LimIs.unique (impl_lettersOnly.fL_is a0) (LimIs.step (f := fun k => if a0.toList = ([] : List UInt8) then (some true) else (if 0 < (a0.size : Int) then (if (bt a0 0) ≥ 97 then (if (bt a0 0) ≤ 122 then (if 1 ≤ (a0.size : Int) then ((impl_lettersOnly.f k (a0.extract 1 a0.size)).bind fun t124 => (some t124)) else (none)) else (some false)) else (some false)) else (none))) (by simp only [impl_lettersOnly.f]) (fun k => by simp only [impl_lettersOnly.f]) ?_)
  repeat' first
    | (with_reducible exact LimIs.const _)
    | (with_reducible exact impl_lettersOnly.fL_is _)
    | (with_reducible refine LimIs.ite ?_ ?_)
    | (with_reducible refine LimIs.bind ?_ (fun _ => ?_))
/-! ### impl_KeyValid -/
noncomputable def impl_KeyValid.fL (a0 : ByteArray) : Option (Bool) := Lim (fun k => impl_KeyValid.f k a0)
theorem impl_KeyValid.fL_is (a0 : ByteArray) : LimIs (fun k => impl_KeyValid.f k a0) (impl_KeyValid.fL a0) := LimIs.of_mono (fun k r h => impl_KeyValid.mono a0 k r h)
theorem impl_KeyValid.fL_eq (a0 : ByteArray) : impl_KeyValid.fL a0 = if (a0.size : Int) < 1 then (some false) else (if (a0.size : Int) > 4 then (some false) else ((impl_lettersOnly.fL a0).bind fun t125 => (some t125))) := by
  refine LimIs.unique (impl_KeyValid.fL_is a0) ?_
  unfold impl_KeyValid.f
  repeat' first
    | (with_reducible exact LimIs.const _)
    | (with_reducible exact impl_lettersOnly.fL_is _)
    | (with_reducible refine LimIs.ite ?_ ?_)
    | (with_reducible refine LimIs.bind ?_ (fun _ => ?_))
/-! ### impl_FeedValid -/
noncomputable def impl_FeedValid.l0L (x0 : List (S73)) (x8 : List (S73)) (x9 : Int) (x10 : Int) : Option (Bool) := Lim (fun k => impl_FeedValid.l0 k x0 x8 x9 x10)
theorem impl_FeedValid.l0L_is (x0 : List (S73)) (x8 : List (S73)) (x9 : Int) (x10 : Int) : LimIs (fun k => impl_FeedValid.l0 k x0 x8 x9 x10) (impl_FeedValid.l0L x0 x8 x9 x10) := LimIs.of_mono (fun k r h => (impl_FeedValid.mono_l k).1 x0 x8 x9 x10 r h)
noncomputable def impl_FeedValid.j1L (x0 : List (S73)) (x3 : Int) (x8 : List (S73)) (x9 : Int) (x10 : Int) (x35 : Bool) (x128000 : Int) (x128001 : ByteArray) (x128002 : Int) (x128003 : Int) : Option (Bool) := Lim (fun k => impl_FeedValid.j1 k x0 x3 x8 x9 x10 x35 x128000 x128001 x128002 x128003)
theorem impl_FeedValid.j1L_is (x0 : List (S73)) (x3 : Int) (x8 : List (S73)) (x9 : Int) (x10 : Int) (x35 : Bool) (x128000 : Int) (x128001 : ByteArray) (x128002 : Int) (x128003 : Int) : LimIs (fun k => impl_FeedValid.j1 k x0 x3 x8 x9 x10 x35 x128000 x128001 x128002 x128003) (impl_FeedValid.j1L x0 x3 x8 x9 x10 x35 x128000 x128001 x128002 x128003) := LimIs.of_mono (fun k r h => (impl_FeedValid.mono_l k).2.1 x0 x3 x8 x9 x10 x35 x128000 x128001 x128002 x128003 r h)
noncomputable def impl_FeedValid.j2L (x0 : List (S73)) (x3 : Int) (x8 : List (S73)) (x9 : Int) (x10 : Int) (x55 : Bool) (x128000 : Int) (x128001 : ByteArray) (x128002 : Int) (x128003 : Int) : Option (Bool) := Lim (fun k => impl_FeedValid.j2 k x0 x3 x8 x9 x10 x55 x128000 x128001 x128002 x128003)
theorem impl_FeedValid.j2L_is (x0 : List (S73)) (x3 : Int) (x8 : List (S73)) (x9 : Int) (x10 : Int) (x55 : Bool) (x128000 : Int) (x128001 : ByteArray) (x128002 : Int) (x128003 : Int) : LimIs (fun k => impl_FeedValid.j2 k x0 x3 x8 x9 x10 x55 x128000 x128001 x128002 x128003) (impl_FeedValid.j2L x0 x3 x8 x9 x10 x55 x128000 x128001 x128002 x128003) := LimIs.of_mono (fun k r h => (impl_FeedValid.mono_l k).2.2 x0 x3 x8 x9 x10 x55 x128000 x128001 x128002 x128003 r h)
noncomputable def impl_FeedValid.fL (l0 : List (S73)) : Option (Bool) := Lim (fun k => impl_FeedValid.f k l0)
theorem impl_FeedValid.fL_is (l0 : List (S73)) : LimIs (fun k => impl_FeedValid.f k l0) (impl_FeedValid.fL l0) := LimIs.of_mono (fun k r h => impl_FeedValid.mono l0 k r h)
theorem impl_FeedValid.l0L_eq (x0 : List (S73)) (x8 : List (S73)) (x9 : Int) (x10 : Int) : impl_FeedValid.l0L x0 x8 x9 x10 = if x10 < x9 then (if 0 ≤ x10 then (if x10 < (x8.length : Int) then (if ((rd_T73 x8 x10).f0) < 0 then (impl_FeedValid.j1L x0 x10 x8 x9 x10 true ((rd_T73 x8 x10).f0) ((rd_T73 x8 x10).f1) ((rd_T73 x8 x10).f2) ((rd_T73 x8 x10).f3)) else (if ((rd_T73 x8 x10).f0) ≥ 24 then (impl_FeedValid.j1L x0 x10 x8 x9 x10 true ((rd_T73 x8 x10).f0) ((rd_T73 x8 x10).f1) ((rd_T73 x8 x10).f2) ((rd_T73 x8 x10).f3)) else ((impl_KeyValid.fL ((rd_T73 x8 x10).f1)).bind fun t128 => (if t128 = true then (impl_FeedValid.j1L x0 x10 x8 x9 x10 (((rd_T73 x8 x10).f2) == ((rd_T73 x8 x10).f3)) ((rd_T73 x8 x10).f0) ((rd_T73 x8 x10).f1) ((rd_T73 x8 x10).f2) ((rd_T73 x8 x10).f3)) else (impl_FeedValid.j1L x0 x10 x8 x9 x10 true ((rd_T73 x8 x10).f0) ((rd_T73 x8 x10).f1) ((rd_T73 x8 x10).f2) ((rd_T73 x8 x10).f3)))))) else (none)) else (none)) else (some true) := by
  refine LimIs.unique (impl_FeedValid.l0L_is x0 x8 x9 x10) (LimIs.step (f := fun k => if x10 < x9 then (if 0 ≤ x10 then (if x10 < (x8.length : Int) then (if ((rd_T73 x8 x10).f0) < 0 then (impl_FeedValid.j1 k x0 x10 x8 x9 x10 true ((rd_T73 x8 x10).f0) ((rd_T73 x8 x10).f1) ((rd_T73 x8 x10).f2) ((rd_T73 x8 x10).f3)) else (if ((rd_T73 x8 x10).f0) ≥ 24 then (impl_FeedValid.j1 k x0 x10 x8 x9 x10 true ((rd_T73 x8 x10).f0) ((rd_T73 x8 x10).f1) ((rd_T73 x8 x10).f2) ((rd_T73 x8 x10).f3)) else ((impl_KeyValid.f k ((rd_T73 x8 x10).f1)).bind fun t128 => (if t128 = true then (impl_FeedValid.j1 k x0 x10 x8 x9 x10 (((rd_T73 x8 x10).f2) == ((rd_T73 x8 x10).f3)) ((rd_T73 x8 x10).f0) ((rd_T73 x8 x10).f1) ((rd_T73 x8 x10).f2) ((rd_T73 x8 x10).f3)) else (impl_FeedValid.j1 k x0 x10 x8 x9 x10 true ((rd_T73 x8 x10).f0) ((rd_T73 x8 x10).f1) ((rd_T73 x8 x10).f2) ((rd_T73 x8 x10).f3)))))) else (none)) else (none)) else (some true)) (by simp only [impl_FeedValid.l0]) (fun k => by simp only [impl_FeedValid.l0]) ?_)
  repeat' first
    | (with_reducible exact LimIs.const _)
    | (with_reducible exact impl_FeedValid.j1L_is _ _ _ _ _ _ _ _ _ _)
    | (with_reducible exact impl_KeyValid.fL_is _)
    | (with_reducible refine LimIs.ite ?_ ?_)
    | (with_reducible refine LimIs.bind ?_ (fun _ => ?_))
theorem impl_FeedValid.j1L_eq (x0 : List (S73)) (x3 : Int) (x8 : List (S73)) (x9 : Int) (x10 : Int) (x35 : Bool) (x128000 : Int) (x128001 : ByteArray) (x128002 : Int) (x128003 : Int) : impl_FeedValid.j1L x0 x3 x8 x9 x10 x35 x128000 x128001 x128002 x128003 = if x35 = true then (some false) else (if x128002 = (-1) then (if x128003 = (-1) then (impl_FeedValid.j2L x0 x3 x8 x9 x10 false x128000 x128001 x128002 x128003) else ((impl_valueValid.f x128003).bind fun t129 => (impl_FeedValid.j2L x0 x3 x8 x9 x10 (!t129) x128000 x128001 x128002 x128003))) else ((impl_valueValid.f x128002).bind fun t130 => (if t130 = true then (if x128003 = (-1) then (impl_FeedValid.j2L x0 x3 x8 x9 x10 false x128000 x128001 x128002 x128003) else ((impl_valueValid.f x128003).bind fun t131 => (impl_FeedValid.j2L x0 x3 x8 x9 x10 (!t131) x128000 x128001 x128002 x128003))) else (impl_FeedValid.j2L x0 x3 x8 x9 x10 true x128000 x128001 x128002 x128003)))) := by
  refine LimIs.unique (impl_FeedValid.j1L_is x0 x3 x8 x9 x10 x35 x128000 x128001 x128002 x128003) (LimIs.step (f := fun k => if x35 = true then (some false) else (if x128002 = (-1) then (if x128003 = (-1) then (impl_FeedValid.j2 k x0 x3 x8 x9 x10 false x128000 x128001 x128002 x128003) else ((impl_valueValid.f x128003).bind fun t129 => (impl_FeedValid.j2 k x0 x3 x8 x9 x10 (!t129) x128000 x128001 x128002 x128003))) else ((impl_valueValid.f x128002).bind fun t130 => (if t130 = true then (if x128003 = (-1) then (impl_FeedValid.j2 k x0 x3 x8 x9 x10 false x128000 x128001 x128002 x128003) else ((impl_valueValid.f x128003).bind fun t131 => (impl_FeedValid.j2 k x0 x3 x8 x9 x10 (!t131) x128000 x128001 x128002 x128003))) else (impl_FeedValid.j2 k x0 x3 x8 x9 x10 true x128000 x128001 x128002 x128003))))) (by simp only [impl_FeedValid.j1]) (fun k => by simp only [impl_FeedValid.j1]) ?_)
  repeat' first
    | (with_reducible exact LimIs.const _)
    | (with_reducible exact impl_FeedValid.j2L_is _ _ _ _ _ _ _ _ _ _)
    | (with_reducible refine LimIs.ite ?_ ?_)
    | (with_reducible refine LimIs.bind ?_ (fun _ => ?_))
theorem impl_FeedValid.j2L_eq (x0 : List (S73)) (x3 : Int) (x8 : List (S73)) (x9 : Int) (x10 : Int) (x55 : Bool) (x128000 : Int) (x128001 : ByteArray) (x128002 : Int) (x128003 : Int) : impl_FeedValid.j2L x0 x3 x8 x9 x10 x55 x128000 x128001 x128002 x128003 = if x55 = true then (some false) else (if x3 > 0 then (if 0 ≤ (wrap64 (x3 - 1)) then (if (wrap64 (x3 - 1)) < (x0.length : Int) then (if ((rd_T73 x0 (wrap64 (x3 - 1))).f0) ≥ x128000 then (some false) else (impl_FeedValid.l0L x0 x8 x9 (wrap64 (x10 + 1)))) else (none)) else (none)) else (impl_FeedValid.l0L x0 x8 x9 (wrap64 (x10 + 1)))) := by
  refine LimIs.unique (impl_FeedValid.j2L_is x0 x3 x8 x9 x10 x55 x128000 x128001 x128002 x128003) (LimIs.step (f := fun k => if x55 = true then (some false) else (if x3 > 0 then (if 0 ≤ (wrap64 (x3 - 1)) then (if (wrap64 (x3 - 1)) < (x0.length : Int) then (if ((rd_T73 x0 (wrap64 (x3 - 1))).f0) ≥ x128000 then (some false) else (impl_FeedValid.l0 k x0 x8 x9 (wrap64 (x10 + 1)))) else (none)) else (none)) else (impl_FeedValid.l0 k x0 x8 x9 (wrap64 (x10 + 1))))) (by simp only [impl_FeedValid.j2]) (fun k => by simp only [impl_FeedValid.j2]) ?_)
  repeat' first
    | (with_reducible exact LimIs.const _)
    | (with_reducible exact impl_FeedValid.l0L_is _ _ _ _)
    | (with_reducible refine LimIs.ite ?_ ?_)
    | (with_reducible refine LimIs.bind ?_ (fun _ => ?_))
theorem impl_FeedValid.fL_eq (l0 : List (S73)) : impl_FeedValid.fL l0 = if (l0.length : Int) > 24 then (some false) else (impl_FeedValid.l0L l0 l0 (l0.length : Int) 0) := by
  refine LimIs.unique (impl_FeedValid.fL_is l0) ?_
  unfold impl_FeedValid.f
  repeat' first
    | (with_reducible exact LimIs.const _)
    | (with_reducible exact impl_FeedValid.l0L_is _ _ _ _)
    | (with_reducible refine LimIs.ite ?_ ?_)
    | (with_reducible refine LimIs.bind ?_ (fun _ => ?_))
/-! ### laws_eqChangeS -/
noncomputable def laws_eqChangeS.l0L (x0 : List (S73)) (x1 : List (S73)) (x5 : Int) : Option (Bool) := Lim (fun k => laws_eqChangeS.l0 k x0 x1 x5)
theorem laws_eqChangeS.l0L_is (x0 : List (S73)) (x1 : List (S73)) (x5 : Int) : LimIs (fun k => laws_eqChangeS.l0 k x0 x1 x5) (laws_eqChangeS.l0L x0 x1 x5) := LimIs.of_mono (fun k r h => (laws_eqChangeS.mono_l k) x0 x1 x5 r h)
noncomputable def laws_eqChangeS.fL (l0 : List (S73)) (l1 : List (S73)) : Option (Bool) := Lim (fun k => laws_eqChangeS.f k l0 l1)
theorem laws_eqChangeS.fL_is (l0 : List (S73)) (l1 : List (S73)) : LimIs (fun k => laws_eqChangeS.f k l0 l1) (laws_eqChangeS.fL l0 l1) := LimIs.of_mono (fun k r h => laws_eqChangeS.mono l0 l1 k r h)
theorem laws_eqChangeS.l0L_eq (x0 : List (S73)) (x1 : List (S73)) (x5 : Int) : laws_eqChangeS.l0L x0 x1 x5 = if x5 < (x0.length : Int) then (if 0 ≤ x5 then (if x5 < (x1.length : Int) then ((laws_eqChange.f ((rd_T73 x0 x5).f0) ((rd_T73 x0 x5).f1) ((rd_T73 x0 x5).f2) ((rd_T73 x0 x5).f3) ((rd_T73 x1 x5).f0) ((rd_T73 x1 x5).f1) ((rd_T73 x1 x5).f2) ((rd_T73 x1 x5).f3)).bind fun t137 => (if t137 = true then (laws_eqChangeS.l0L x0 x1 (wrap64 (x5 + 1))) else (some false))) else (none)) else (none)) else (some true) := by
  refine LimIs.unique (laws_eqChangeS.l0L_is x0 x1 x5) (LimIs.step (f := fun k => if x5 < (x0.length : Int) then (if 0 ≤ x5 then (if x5 < (x1.length : Int) then ((laws_eqChange.f ((rd_T73 x0 x5).f0) ((rd_T73 x0 x5).f1) ((rd_T73 x0 x5).f2) ((rd_T73 x0 x5).f3) ((rd_T73 x1 x5).f0) ((rd_T73 x1 x5).f1) ((rd_T73 x1 x5).f2) ((rd_T73 x1 x5).f3)).bind fun t137 => (if t137 = true then (laws_eqChangeS.l0 k x0 x1 (wrap64 (x5 + 1))) else (some false))) else (none)) else (none)) else (some true)) (by simp only [laws_eqChangeS.l0]) (fun k => by simp only [laws_eqChangeS.l0]) ?_)
  repeat' first
    | (with_reducible exact LimIs.const _)
    | (with_reducible exact laws_eqChangeS.l0L_is _ _ _)
    | (with_reducible refine LimIs.ite ?_ ?_)
    | (with_reducible refine LimIs.bind ?_ (fun _ => ?_))
theorem laws_eqChangeS.fL_eq (l0 : List (S73)) (l1 : List (S73)) : laws_eqChangeS.fL l0 l1 = if (l0.length : Int) = (l1.length : Int) then (laws_eqChangeS.l0L l0 l1 0) else (some false) := by
  refine LimIs.unique (laws_eqChangeS.fL_is l0 l1) ?_
  unfold laws_eqChangeS.f
  repeat' first
    | (with_reducible exact LimIs.const _)
    | (with_reducible exact laws_eqChangeS.l0L_is _ _ _)
    | (with_reducible refine LimIs.ite ?_ ?_)
    | (with_reducible refine LimIs.bind ?_ (fun _ => ?_))
/-! ### laws_FnExactFeedValid -/
noncomputable def laws_FnExactFeedValid.fL (l0 : List (S72)) : Option (Bool) := Lim (fun k => laws_FnExactFeedValid.f k l0)
theorem laws_FnExactFeedValid.fL_is (l0 : List (S72)) : LimIs (fun k => laws_FnExactFeedValid.f k l0) (laws_FnExactFeedValid.fL l0) := LimIs.of_mono (fun k r h => laws_FnExactFeedValid.mono l0 k r h)
theorem laws_FnExactFeedValid.fL_eq (l0 : List (S72)) : laws_FnExactFeedValid.fL l0 = (laws_szChangeS.fL l0 1048576).bind fun t138 => (if t138 < 0 then (some true) else ((laws_toChangeS.fL l0).bind fun t139 => ((spec_FeedValid.fL t139).bind fun t142 => ((laws_toChangeS.fL l0).bind fun t143 => ((impl_FeedValid.fL t143).bind fun t146 => (if (t146 != t142) = true then (some false) else ((laws_toChangeS.fL l0).bind fun t147 => ((laws_eqChangeS.fL t143 t147).bind fun t150 => (if t150 = true then (some true) else (some false)))))))))) := by
  refine LimIs.unique (laws_FnExactFeedValid.fL_is l0) ?_
  unfold laws_FnExactFeedValid.f
  repeat' first
    | (with_reducible exact LimIs.const _)
    | (with_reducible exact impl_FeedValid.fL_is _)
    | (with_reducible exact laws_eqChangeS.fL_is _ _)
    | (with_reducible exact laws_szChangeS.fL_is _ _)
    | (with_reducible exact laws_toChangeS.fL_is _)
    | (with_reducible exact spec_FeedValid.fL_is _)
    | (with_reducible refine LimIs.ite ?_ ?_)
    | (with_reducible refine LimIs.bind ?_ (fun _ => ?_))
end Go.Proofs.Ytpeifepnaecjiaa.PFnExactFeedValid
