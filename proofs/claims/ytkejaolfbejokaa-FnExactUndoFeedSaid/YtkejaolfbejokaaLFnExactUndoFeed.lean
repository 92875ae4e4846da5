/- The limits of the printed functions, and their equations. Written by lim.py out of the print. No condition. -/
import Derived.Test.YtkejaolfbejokaaOFnExactUndoFeed
import Derived.Test.YtkejaolfbejokaaLim
namespace Go.Proofs.Ytkejaolfbejokaa.PFnExactUndoFeed
open Go.RowKit Go.Proofs.YtkejaolfbejokaaW.PrintWords Go.Proofs.YtkejaolfbejokaaW.PrintLast Go.Proofs.YtkejaolfbejokaaW.PrintMore Go.Proofs.Ytkejaolfbejokaa.Lim
set_option linter.unusedVariables false

/-! ### laws_szChangeS -/
noncomputable def laws_szChangeS.l0L (x0 : List (S108)) (x1 : Int) (x5 : Int) : Option (Int) := Lim (fun k => laws_szChangeS.l0 k x0 x1 x5)
theorem laws_szChangeS.l0L_is (x0 : List (S108)) (x1 : Int) (x5 : Int) : LimIs (fun k => laws_szChangeS.l0 k x0 x1 x5) (laws_szChangeS.l0L x0 x1 x5) := LimIs.of_mono (fun k r h => (laws_szChangeS.mono_l k) x0 x1 x5 r h)
noncomputable def laws_szChangeS.fL (l0 : List (S108)) (a1 : Int) : Option (Int) := Lim (fun k => laws_szChangeS.f k l0 a1)
theorem laws_szChangeS.fL_is (l0 : List (S108)) (a1 : Int) : LimIs (fun k => laws_szChangeS.f k l0 a1) (laws_szChangeS.fL l0 a1) := LimIs.of_mono (fun k r h => laws_szChangeS.mono l0 a1 k r h)
theorem laws_szChangeS.l0L_eq (x0 : List (S108)) (x1 : Int) (x5 : Int) : laws_szChangeS.l0L x0 x1 x5 = if x5 < (x0.length : Int) then (if 0 ≤ x5 then ((laws_szChange.f ((rd_T108 x0 x5).f0) ((rd_T108 x0 x5).f1) ((rd_T108 x0 x5).f2) ((rd_T108 x0 x5).f3) x1).bind fun t103 => (if t103 < 0 then (some (-1)) else (laws_szChangeS.l0L x0 t103 (wrap64 (x5 + 1))))) else (none)) else (some x1) := by
  refine LimIs.unique (laws_szChangeS.l0L_is x0 x1 x5) (LimIs.step (f := fun k => if x5 < (x0.length : Int) then (if 0 ≤ x5 then ((laws_szChange.f ((rd_T108 x0 x5).f0) ((rd_T108 x0 x5).f1) ((rd_T108 x0 x5).f2) ((rd_T108 x0 x5).f3) x1).bind fun t103 => (if t103 < 0 then (some (-1)) else (laws_szChangeS.l0 k x0 t103 (wrap64 (x5 + 1))))) else (none)) else (some x1)) (by simp only [laws_szChangeS.l0]) (fun k => by simp only [laws_szChangeS.l0]) ?_)
  repeat' first
    | (with_reducible exact LimIs.const _)
    | (with_reducible exact laws_szChangeS.l0L_is _ _ _)
    | (with_reducible refine LimIs.ite ?_ ?_)
    | (with_reducible refine LimIs.bind ?_ (fun _ => ?_))
theorem laws_szChangeS.fL_eq (l0 : List (S108)) (a1 : Int) : laws_szChangeS.fL l0 a1 = if (wrap64 (a1 - (l0.length : Int))) < 0 then (some (-1)) else (laws_szChangeS.l0L l0 (wrap64 (a1 - (l0.length : Int))) 0) := by
  refine LimIs.unique (laws_szChangeS.fL_is l0 a1) ?_
  unfold laws_szChangeS.f
  repeat' first
    | (with_reducible exact LimIs.const _)
    | (with_reducible exact laws_szChangeS.l0L_is _ _ _)
    | (with_reducible refine LimIs.ite ?_ ?_)
    | (with_reducible refine LimIs.bind ?_ (fun _ => ?_))
/-! ### laws_toChangeS -/
noncomputable def laws_toChangeS.l0L (x0 : List (S108)) (x3 : List (S110)) (x4 : Int) : Option ((List (S110))) := Lim (fun k => laws_toChangeS.l0 k x0 x3 x4)
theorem laws_toChangeS.l0L_is (x0 : List (S108)) (x3 : List (S110)) (x4 : Int) : LimIs (fun k => laws_toChangeS.l0 k x0 x3 x4) (laws_toChangeS.l0L x0 x3 x4) := LimIs.of_mono (fun k r h => (laws_toChangeS.mono_l k) x0 x3 x4 r h)
noncomputable def laws_toChangeS.fL (l0 : List (S108)) : Option ((List (S110))) := Lim (fun k => laws_toChangeS.f k l0)
theorem laws_toChangeS.fL_is (l0 : List (S108)) : LimIs (fun k => laws_toChangeS.f k l0) (laws_toChangeS.fL l0) := LimIs.of_mono (fun k r h => laws_toChangeS.mono l0 k r h)
theorem laws_toChangeS.l0L_eq (x0 : List (S108)) (x3 : List (S110)) (x4 : Int) : laws_toChangeS.l0L x0 x3 x4 = if x4 < (x0.length : Int) then (if 0 ≤ x4 then ((laws_toChange.f ((rd_T108 x0 x4).f0) ((rd_T108 x0 x4).f1) ((rd_T108 x0 x4).f2) ((rd_T108 x0 x4).f3)).bind fun bt111 => (if x4 < (x3.length : Int) then (laws_toChangeS.l0L x0 (x3.set (x4 : Int).toNat (⟨bt111.1, bt111.2.1, bt111.2.2.1, bt111.2.2.2⟩ : S110)) (wrap64 (x4 + 1))) else (none))) else (none)) else (some x3) := by
  refine LimIs.unique (laws_toChangeS.l0L_is x0 x3 x4) (LimIs.step (f := fun k => if x4 < (x0.length : Int) then (if 0 ≤ x4 then ((laws_toChange.f ((rd_T108 x0 x4).f0) ((rd_T108 x0 x4).f1) ((rd_T108 x0 x4).f2) ((rd_T108 x0 x4).f3)).bind fun bt111 => (if x4 < (x3.length : Int) then (laws_toChangeS.l0 k x0 (x3.set (x4 : Int).toNat (⟨bt111.1, bt111.2.1, bt111.2.2.1, bt111.2.2.2⟩ : S110)) (wrap64 (x4 + 1))) else (none))) else (none)) else (some x3)) (by simp only [laws_toChangeS.l0]) (fun k => by simp only [laws_toChangeS.l0]) ?_)
  repeat' first
    | (with_reducible exact LimIs.const _)
    | (with_reducible exact laws_toChangeS.l0L_is _ _ _)
    | (with_reducible refine LimIs.ite ?_ ?_)
    | (with_reducible refine LimIs.bind ?_ (fun _ => ?_))
theorem laws_toChangeS.fL_eq (l0 : List (S108)) : laws_toChangeS.fL l0 = if 0 ≤ (l0.length : Int) then (if ((l0.length : Int) : Int).toNat ≤ 7036874417766 then (laws_toChangeS.l0L l0 (List.replicate ((l0.length : Int) : Int).toNat z110) 0) else (none)) else (none) := by
  refine LimIs.unique (laws_toChangeS.fL_is l0) ?_
  unfold laws_toChangeS.f
  repeat' first
    | (with_reducible exact LimIs.const _)
    | (with_reducible exact laws_toChangeS.l0L_is _ _ _)
    | (with_reducible refine LimIs.ite ?_ ?_)
    | (with_reducible refine LimIs.bind ?_ (fun _ => ?_))
/-! ### laws_eqChangeS -/
noncomputable def laws_eqChangeS.l0L (x0 : List (S110)) (x1 : List (S110)) (x5 : Int) : Option (Bool) := Lim (fun k => laws_eqChangeS.l0 k x0 x1 x5)
theorem laws_eqChangeS.l0L_is (x0 : List (S110)) (x1 : List (S110)) (x5 : Int) : LimIs (fun k => laws_eqChangeS.l0 k x0 x1 x5) (laws_eqChangeS.l0L x0 x1 x5) := LimIs.of_mono (fun k r h => (laws_eqChangeS.mono_l k) x0 x1 x5 r h)
noncomputable def laws_eqChangeS.fL (l0 : List (S110)) (l1 : List (S110)) : Option (Bool) := Lim (fun k => laws_eqChangeS.f k l0 l1)
theorem laws_eqChangeS.fL_is (l0 : List (S110)) (l1 : List (S110)) : LimIs (fun k => laws_eqChangeS.f k l0 l1) (laws_eqChangeS.fL l0 l1) := LimIs.of_mono (fun k r h => laws_eqChangeS.mono l0 l1 k r h)
theorem laws_eqChangeS.l0L_eq (x0 : List (S110)) (x1 : List (S110)) (x5 : Int) : laws_eqChangeS.l0L x0 x1 x5 = if x5 < (x0.length : Int) then (if 0 ≤ x5 then (if x5 < (x1.length : Int) then ((laws_eqChange.f ((rd_T110 x0 x5).f0) ((rd_T110 x0 x5).f1) ((rd_T110 x0 x5).f2) ((rd_T110 x0 x5).f3) ((rd_T110 x1 x5).f0) ((rd_T110 x1 x5).f1) ((rd_T110 x1 x5).f2) ((rd_T110 x1 x5).f3)).bind fun t120 => (if t120 = true then (laws_eqChangeS.l0L x0 x1 (wrap64 (x5 + 1))) else (some false))) else (none)) else (none)) else (some true) := by
  refine LimIs.unique (laws_eqChangeS.l0L_is x0 x1 x5) (LimIs.step (f := fun k => if x5 < (x0.length : Int) then (if 0 ≤ x5 then (if x5 < (x1.length : Int) then ((laws_eqChange.f ((rd_T110 x0 x5).f0) ((rd_T110 x0 x5).f1) ((rd_T110 x0 x5).f2) ((rd_T110 x0 x5).f3) ((rd_T110 x1 x5).f0) ((rd_T110 x1 x5).f1) ((rd_T110 x1 x5).f2) ((rd_T110 x1 x5).f3)).bind fun t120 => (if t120 = true then (laws_eqChangeS.l0 k x0 x1 (wrap64 (x5 + 1))) else (some false))) else (none)) else (none)) else (some true)) (by simp only [laws_eqChangeS.l0]) (fun k => by simp only [laws_eqChangeS.l0]) ?_)
  repeat' first
    | (with_reducible exact LimIs.const _)
    | (with_reducible exact laws_eqChangeS.l0L_is _ _ _)
    | (with_reducible refine LimIs.ite ?_ ?_)
    | (with_reducible refine LimIs.bind ?_ (fun _ => ?_))
theorem laws_eqChangeS.fL_eq (l0 : List (S110)) (l1 : List (S110)) : laws_eqChangeS.fL l0 l1 = if (l0.length : Int) = (l1.length : Int) then (laws_eqChangeS.l0L l0 l1 0) else (some false) := by
  refine LimIs.unique (laws_eqChangeS.fL_is l0 l1) ?_
  unfold laws_eqChangeS.f
  repeat' first
    | (with_reducible exact LimIs.const _)
    | (with_reducible exact laws_eqChangeS.l0L_is _ _ _)
    | (with_reducible refine LimIs.ite ?_ ?_)
    | (with_reducible refine LimIs.bind ?_ (fun _ => ?_))
/-! ### laws_markText -/
noncomputable def laws_markText.l0L (x0 : Int) (x3 : ByteArray) : Option (ByteArray) := Lim (fun k => laws_markText.l0 k x0 x3)
theorem laws_markText.l0L_is (x0 : Int) (x3 : ByteArray) : LimIs (fun k => laws_markText.l0 k x0 x3) (laws_markText.l0L x0 x3) := LimIs.of_mono (fun k r h => (laws_markText.mono_l k) x0 x3 r h)
noncomputable def laws_markText.fL (a0 : Int) : Option (ByteArray) := Lim (fun k => laws_markText.f k a0)
theorem laws_markText.fL_is (a0 : Int) : LimIs (fun k => laws_markText.f k a0) (laws_markText.fL a0) := LimIs.of_mono (fun k r h => laws_markText.mono a0 k r h)
theorem laws_markText.l0L_eq (x0 : Int) (x3 : ByteArray) : laws_markText.l0L x0 x3 = if x0 > 0 then ((some (([(wrap64 (48 + (Int.tmod x0 10))) % 256] : List Int) : List Int)).bind fun y121 => (if (strOfNums y121).size + x3.size ≤ 9223372036854775807 then (laws_markText.l0L (wrap64 (Int.tdiv x0 10)) ((strOfNums y121) ++ x3)) else (none))) else (if 1 + x3.size ≤ 9223372036854775807 then (some ((⟨#[109]⟩ : ByteArray) ++ x3)) else (none)) := by
  refine LimIs.unique (laws_markText.l0L_is x0 x3) (LimIs.step (f := fun k => if x0 > 0 then ((some (([(wrap64 (48 + (Int.tmod x0 10))) % 256] : List Int) : List Int)).bind fun y121 => (if (strOfNums y121).size + x3.size ≤ 9223372036854775807 then (laws_markText.l0 k (wrap64 (Int.tdiv x0 10)) ((strOfNums y121) ++ x3)) else (none))) else (if 1 + x3.size ≤ 9223372036854775807 then (some ((⟨#[109]⟩ : ByteArray) ++ x3)) else (none))) (by simp only [laws_markText.l0]) (fun k => by simp only [laws_markText.l0]) ?_)
  repeat' first
    | (with_reducible exact LimIs.const _)
    | (with_reducible exact laws_markText.l0L_is _ _)
    | (with_reducible refine LimIs.ite ?_ ?_)
    | (with_reducible refine LimIs.bind ?_ (fun _ => ?_))
theorem laws_markText.fL_eq (a0 : Int) : laws_markText.fL a0 = if a0 ≤ 0 then (some (⟨#[109, 48]⟩ : ByteArray)) else (laws_markText.l0L a0 (⟨#[]⟩ : ByteArray)) := by
  refine LimIs.unique (laws_markText.fL_is a0) ?_
  unfold laws_markText.f
  repeat' first
    | (with_reducible exact LimIs.const _)
    | (with_reducible exact laws_markText.l0L_is _ _)
    | (with_reducible refine LimIs.ite ?_ ?_)
    | (with_reducible refine LimIs.bind ?_ (fun _ => ?_))
/-! ### laws_markChangeS -/
noncomputable def laws_markChangeS.l0L (x0 : List (S110)) (x1 : Int) (x5 : Int) : Option (Int × (List (S110))) := Lim (fun k => laws_markChangeS.l0 k x0 x1 x5)
theorem laws_markChangeS.l0L_is (x0 : List (S110)) (x1 : Int) (x5 : Int) : LimIs (fun k => laws_markChangeS.l0 k x0 x1 x5) (laws_markChangeS.l0L x0 x1 x5) := LimIs.of_mono (fun k r h => (laws_markChangeS.mono_l k) x0 x1 x5 r h)
noncomputable def laws_markChangeS.fL (l0 : List (S110)) (a1 : Int) : Option (Int × (List (S110))) := Lim (fun k => laws_markChangeS.f k l0 a1)
theorem laws_markChangeS.fL_is (l0 : List (S110)) (a1 : Int) : LimIs (fun k => laws_markChangeS.f k l0 a1) (laws_markChangeS.fL l0 a1) := LimIs.of_mono (fun k r h => laws_markChangeS.mono l0 a1 k r h)
theorem laws_markChangeS.l0L_eq (x0 : List (S110)) (x1 : Int) (x5 : Int) : laws_markChangeS.l0L x0 x1 x5 = if x5 < (x0.length : Int) then (if 0 ≤ x5 then ((some (x0.set (x5 : Int).toNat (⟨x1, (rd_T110 x0 x5).f1, (rd_T110 x0 x5).f2, (rd_T110 x0 x5).f3⟩ : S110) : List (S110))).bind fun y124 => ((laws_markText.fL (wrap64 (x1 + 1))).bind fun t125 => ((some (y124.set (x5 : Int).toNat (⟨(rd_T110 y124 x5).f0, t125, (rd_T110 y124 x5).f2, (rd_T110 y124 x5).f3⟩ : S110) : List (S110))).bind fun y126 => ((some (y126.set (x5 : Int).toNat (⟨(rd_T110 y126 x5).f0, (rd_T110 y126 x5).f1, wrap64 ((wrap64 (x1 + 1)) + 1), (rd_T110 y126 x5).f3⟩ : S110) : List (S110))).bind fun y127 => (laws_markChangeS.l0L (y127.set (x5 : Int).toNat (⟨(rd_T110 y127 x5).f0, (rd_T110 y127 x5).f1, (rd_T110 y127 x5).f2, wrap64 ((wrap64 ((wrap64 (x1 + 1)) + 1)) + 1)⟩ : S110)) (wrap64 ((wrap64 ((wrap64 ((wrap64 (x1 + 1)) + 1)) + 1)) + 1)) (wrap64 (x5 + 1))))))) else (none)) else (some (x1, x0)) := by
  refine LimIs.unique (laws_markChangeS.l0L_is x0 x1 x5) (LimIs.step (f := fun k => if x5 < (x0.length : Int) then (if 0 ≤ x5 then ((some (x0.set (x5 : Int).toNat (⟨x1, (rd_T110 x0 x5).f1, (rd_T110 x0 x5).f2, (rd_T110 x0 x5).f3⟩ : S110) : List (S110))).bind fun y124 => ((laws_markText.f k (wrap64 (x1 + 1))).bind fun t125 => ((some (y124.set (x5 : Int).toNat (⟨(rd_T110 y124 x5).f0, t125, (rd_T110 y124 x5).f2, (rd_T110 y124 x5).f3⟩ : S110) : List (S110))).bind fun y126 => ((some (y126.set (x5 : Int).toNat (⟨(rd_T110 y126 x5).f0, (rd_T110 y126 x5).f1, wrap64 ((wrap64 (x1 + 1)) + 1), (rd_T110 y126 x5).f3⟩ : S110) : List (S110))).bind fun y127 => (laws_markChangeS.l0 k (y127.set (x5 : Int).toNat (⟨(rd_T110 y127 x5).f0, (rd_T110 y127 x5).f1, (rd_T110 y127 x5).f2, wrap64 ((wrap64 ((wrap64 (x1 + 1)) + 1)) + 1)⟩ : S110)) (wrap64 ((wrap64 ((wrap64 ((wrap64 (x1 + 1)) + 1)) + 1)) + 1)) (wrap64 (x5 + 1))))))) else (none)) else (some (x1, x0))) (by simp only [laws_markChangeS.l0]) (fun k => by simp only [laws_markChangeS.l0]) ?_)
  repeat' first
    | (with_reducible exact LimIs.const _)
    | (with_reducible exact laws_markChangeS.l0L_is _ _ _)
    | (with_reducible exact laws_markText.fL_is _)
    | (with_reducible refine LimIs.ite ?_ ?_)
    | (with_reducible refine LimIs.bind ?_ (fun _ => ?_))
theorem laws_markChangeS.fL_eq (l0 : List (S110)) (a1 : Int) : laws_markChangeS.fL l0 a1 = laws_markChangeS.l0L l0 a1 0 := by
  refine LimIs.unique (laws_markChangeS.fL_is l0 a1) ?_
  unfold laws_markChangeS.f
  repeat' first
    | (with_reducible exact LimIs.const _)
    | (with_reducible exact laws_markChangeS.l0L_is _ _ _)
    | (with_reducible refine LimIs.ite ?_ ?_)
    | (with_reducible refine LimIs.bind ?_ (fun _ => ?_))
/-! ### laws_heldChangeS -/
noncomputable def laws_heldChangeS.l0L (x0 : List (S110)) (x1 : Int) (x5 : Int) : Option (Int) := Lim (fun k => laws_heldChangeS.l0 k x0 x1 x5)
theorem laws_heldChangeS.l0L_is (x0 : List (S110)) (x1 : Int) (x5 : Int) : LimIs (fun k => laws_heldChangeS.l0 k x0 x1 x5) (laws_heldChangeS.l0L x0 x1 x5) := LimIs.of_mono (fun k r h => (laws_heldChangeS.mono_l k) x0 x1 x5 r h)
noncomputable def laws_heldChangeS.fL (l0 : List (S110)) (a1 : Int) : Option (Int) := Lim (fun k => laws_heldChangeS.f k l0 a1)
theorem laws_heldChangeS.fL_is (l0 : List (S110)) (a1 : Int) : LimIs (fun k => laws_heldChangeS.f k l0 a1) (laws_heldChangeS.fL l0 a1) := LimIs.of_mono (fun k r h => laws_heldChangeS.mono l0 a1 k r h)
theorem laws_heldChangeS.l0L_eq (x0 : List (S110)) (x1 : Int) (x5 : Int) : laws_heldChangeS.l0L x0 x1 x5 = if x5 < (x0.length : Int) then (if 0 ≤ x5 then (if ((rd_T110 x0 x5).f0) = x1 then ((laws_markText.fL (wrap64 (x1 + 1))).bind fun t131 => (if ((rd_T110 x0 x5).f1).toList = t131.toList then (if ((rd_T110 x0 x5).f2) = (wrap64 ((wrap64 (x1 + 1)) + 1)) then (if ((rd_T110 x0 x5).f3) = (wrap64 ((wrap64 ((wrap64 (x1 + 1)) + 1)) + 1)) then (laws_heldChangeS.l0L x0 (wrap64 ((wrap64 ((wrap64 ((wrap64 (x1 + 1)) + 1)) + 1)) + 1)) (wrap64 (x5 + 1))) else (some (-1))) else (some (-1))) else (some (-1)))) else (some (-1))) else (none)) else (some x1) := by
  refine LimIs.unique (laws_heldChangeS.l0L_is x0 x1 x5) (LimIs.step (f := fun k => if x5 < (x0.length : Int) then (if 0 ≤ x5 then (if ((rd_T110 x0 x5).f0) = x1 then ((laws_markText.f k (wrap64 (x1 + 1))).bind fun t131 => (if ((rd_T110 x0 x5).f1).toList = t131.toList then (if ((rd_T110 x0 x5).f2) = (wrap64 ((wrap64 (x1 + 1)) + 1)) then (if ((rd_T110 x0 x5).f3) = (wrap64 ((wrap64 ((wrap64 (x1 + 1)) + 1)) + 1)) then (laws_heldChangeS.l0 k x0 (wrap64 ((wrap64 ((wrap64 ((wrap64 (x1 + 1)) + 1)) + 1)) + 1)) (wrap64 (x5 + 1))) else (some (-1))) else (some (-1))) else (some (-1)))) else (some (-1))) else (none)) else (some x1)) (by simp only [laws_heldChangeS.l0]) (fun k => by simp only [laws_heldChangeS.l0]) ?_)
  repeat' first
    | (with_reducible exact LimIs.const _)
    | (with_reducible exact laws_heldChangeS.l0L_is _ _ _)
    | (with_reducible exact laws_markText.fL_is _)
    | (with_reducible refine LimIs.ite ?_ ?_)
    | (with_reducible refine LimIs.bind ?_ (fun _ => ?_))
theorem laws_heldChangeS.fL_eq (l0 : List (S110)) (a1 : Int) : laws_heldChangeS.fL l0 a1 = laws_heldChangeS.l0L l0 a1 0 := by
  refine LimIs.unique (laws_heldChangeS.fL_is l0 a1) ?_
  unfold laws_heldChangeS.f
  repeat' first
    | (with_reducible exact LimIs.const _)
    | (with_reducible exact laws_heldChangeS.l0L_is _ _ _)
    | (with_reducible refine LimIs.ite ?_ ?_)
    | (with_reducible refine LimIs.bind ?_ (fun _ => ?_))
/-! ### spec_KeyValid -/
noncomputable def spec_KeyValid.l0L (x0 : ByteArray) (x3 : Int) : Option (Bool) := Lim (fun k => spec_KeyValid.l0 k x0 x3)
theorem spec_KeyValid.l0L_is (x0 : ByteArray) (x3 : Int) : LimIs (fun k => spec_KeyValid.l0 k x0 x3) (spec_KeyValid.l0L x0 x3) := LimIs.of_mono (fun k r h => (spec_KeyValid.mono_l k) x0 x3 r h)
noncomputable def spec_KeyValid.fL (a0 : ByteArray) : Option (Bool) := Lim (fun k => spec_KeyValid.f k a0)
theorem spec_KeyValid.fL_is (a0 : ByteArray) : LimIs (fun k => spec_KeyValid.f k a0) (spec_KeyValid.fL a0) := LimIs.of_mono (fun k r h => spec_KeyValid.mono a0 k r h)
theorem spec_KeyValid.l0L_eq (x0 : ByteArray) (x3 : Int) : spec_KeyValid.l0L x0 x3 = if x3 < (x0.size : Int) then (if 0 ≤ x3 then (if (bt x0 x3) < 97 then (some false) else (if (bt x0 x3) > 122 then (some false) else (spec_KeyValid.l0L x0 (wrap64 (x3 + 1))))) else (none)) else (some true) := by
  refine LimIs.unique (spec_KeyValid.l0L_is x0 x3) (LimIs.step (f := fun k => if x3 < (x0.size : Int) then (if 0 ≤ x3 then (if (bt x0 x3) < 97 then (some false) else (if (bt x0 x3) > 122 then (some false) else (spec_KeyValid.l0 k x0 (wrap64 (x3 + 1))))) else (none)) else (some true)) (by simp only [spec_KeyValid.l0]) (fun k => by simp only [spec_KeyValid.l0]) ?_)
  repeat' first
    | (with_reducible exact LimIs.const _)
    | (with_reducible exact spec_KeyValid.l0L_is _ _)
    | (with_reducible refine LimIs.ite ?_ ?_)
    | (with_reducible refine LimIs.bind ?_ (fun _ => ?_))
theorem spec_KeyValid.fL_eq (a0 : ByteArray) : spec_KeyValid.fL a0 = (spec_l1In.f (a0.size : Int) 1 4).bind fun t134 => (if t134 = true then (spec_KeyValid.l0L a0 0) else (some false)) := by
  refine LimIs.unique (spec_KeyValid.fL_is a0) ?_
  unfold spec_KeyValid.f
  repeat' first
    | (with_reducible exact LimIs.const _)
    | (with_reducible exact spec_KeyValid.l0L_is _ _)
    | (with_reducible refine LimIs.ite ?_ ?_)
    | (with_reducible refine LimIs.bind ?_ (fun _ => ?_))
/-! ### spec_FeedValid -/
noncomputable def spec_FeedValid.l0L (x0 : List (S110)) (x3 : Int) : Option (Bool) := Lim (fun k => spec_FeedValid.l0 k x0 x3)
theorem spec_FeedValid.l0L_is (x0 : List (S110)) (x3 : Int) : LimIs (fun k => spec_FeedValid.l0 k x0 x3) (spec_FeedValid.l0L x0 x3) := LimIs.of_mono (fun k r h => (spec_FeedValid.mono_l k) x0 x3 r h)
noncomputable def spec_FeedValid.fL (l0 : List (S110)) : Option (Bool) := Lim (fun k => spec_FeedValid.f k l0)
theorem spec_FeedValid.fL_is (l0 : List (S110)) : LimIs (fun k => spec_FeedValid.f k l0) (spec_FeedValid.fL l0) := LimIs.of_mono (fun k r h => spec_FeedValid.mono l0 k r h)
theorem spec_FeedValid.l0L_eq (x0 : List (S110)) (x3 : Int) : spec_FeedValid.l0L x0 x3 = if x3 < (x0.length : Int) then (if 0 ≤ x3 then (if x3 ≥ 24 then (some false) else ((spec_l1In.f ((rd_T110 x0 x3).f0) 0 23).bind fun t137 => (if t137 = true then ((spec_KeyValid.fL ((rd_T110 x0 x3).f1)).bind fun t138 => (if t138 = true then ((spec_l1In.f ((rd_T110 x0 x3).f2) (-1) 999).bind fun t139 => (if t139 = true then ((spec_l1In.f ((rd_T110 x0 x3).f3) (-1) 999).bind fun t140 => (if t140 = true then (if ((rd_T110 x0 x3).f2) = ((rd_T110 x0 x3).f3) then (some false) else (if x3 > 0 then (if 0 ≤ (wrap64 (x3 - 1)) then (if (wrap64 (x3 - 1)) < (x0.length : Int) then (if ((rd_T110 x0 x3).f0) ≤ ((rd_T110 x0 (wrap64 (x3 - 1))).f0) then (some false) else (spec_FeedValid.l0L x0 (wrap64 (x3 + 1)))) else (none)) else (none)) else (spec_FeedValid.l0L x0 (wrap64 (x3 + 1))))) else (some false))) else (some false))) else (some false))) else (some false)))) else (none)) else (some true) := by
  refine LimIs.unique (spec_FeedValid.l0L_is x0 x3) (LimIs.step (f := fun k => if x3 < (x0.length : Int) then (if 0 ≤ x3 then (if x3 ≥ 24 then (some false) else ((spec_l1In.f ((rd_T110 x0 x3).f0) 0 23).bind fun t137 => (if t137 = true then ((spec_KeyValid.f k ((rd_T110 x0 x3).f1)).bind fun t138 => (if t138 = true then ((spec_l1In.f ((rd_T110 x0 x3).f2) (-1) 999).bind fun t139 => (if t139 = true then ((spec_l1In.f ((rd_T110 x0 x3).f3) (-1) 999).bind fun t140 => (if t140 = true then (if ((rd_T110 x0 x3).f2) = ((rd_T110 x0 x3).f3) then (some false) else (if x3 > 0 then (if 0 ≤ (wrap64 (x3 - 1)) then (if (wrap64 (x3 - 1)) < (x0.length : Int) then (if ((rd_T110 x0 x3).f0) ≤ ((rd_T110 x0 (wrap64 (x3 - 1))).f0) then (some false) else (spec_FeedValid.l0 k x0 (wrap64 (x3 + 1)))) else (none)) else (none)) else (spec_FeedValid.l0 k x0 (wrap64 (x3 + 1))))) else (some false))) else (some false))) else (some false))) else (some false)))) else (none)) else (some true)) (by simp only [spec_FeedValid.l0]) (fun k => by simp only [spec_FeedValid.l0]) ?_)
  repeat' first
    | (with_reducible exact LimIs.const _)
    | (with_reducible exact spec_FeedValid.l0L_is _ _)
    | (with_reducible exact spec_KeyValid.fL_is _)
    | (with_reducible refine LimIs.ite ?_ ?_)
    | (with_reducible refine LimIs.bind ?_ (fun _ => ?_))
theorem spec_FeedValid.fL_eq (l0 : List (S110)) : spec_FeedValid.fL l0 = spec_FeedValid.l0L l0 0 := by
  refine LimIs.unique (spec_FeedValid.fL_is l0) ?_
  unfold spec_FeedValid.f
  repeat' first
    | (with_reducible exact LimIs.const _)
    | (with_reducible exact spec_FeedValid.l0L_is _ _)
    | (with_reducible refine LimIs.ite ?_ ?_)
    | (with_reducible refine LimIs.bind ?_ (fun _ => ?_))
/-! ### spec_UndoFeed -/
noncomputable def spec_UndoFeed.j0L (x0 : List (S110)) (x1 : Int) (x5 : List (S110)) (x31 : Bool) : Option ((List (S110))) := Lim (fun k => spec_UndoFeed.j0 k x0 x1 x5 x31)
theorem spec_UndoFeed.j0L_is (x0 : List (S110)) (x1 : Int) (x5 : List (S110)) (x31 : Bool) : LimIs (fun k => spec_UndoFeed.j0 k x0 x1 x5 x31) (spec_UndoFeed.j0L x0 x1 x5 x31) := LimIs.of_mono (fun k r h => (spec_UndoFeed.mono_l k).1 x0 x1 x5 x31 r h)
noncomputable def spec_UndoFeed.l0L (x0 : List (S110)) (x1 : Int) (x5 : List (S110)) (x6 : Int) : Option ((List (S110))) := Lim (fun k => spec_UndoFeed.l0 k x0 x1 x5 x6)
theorem spec_UndoFeed.l0L_is (x0 : List (S110)) (x1 : Int) (x5 : List (S110)) (x6 : Int) : LimIs (fun k => spec_UndoFeed.l0 k x0 x1 x5 x6) (spec_UndoFeed.l0L x0 x1 x5 x6) := LimIs.of_mono (fun k r h => (spec_UndoFeed.mono_l k).2 x0 x1 x5 x6 r h)
noncomputable def spec_UndoFeed.fL (l0 : List (S110)) (a1 : Int) : Option ((List (S110))) := Lim (fun k => spec_UndoFeed.f k l0 a1)
theorem spec_UndoFeed.fL_is (l0 : List (S110)) (a1 : Int) : LimIs (fun k => spec_UndoFeed.f k l0 a1) (spec_UndoFeed.fL l0 a1) := LimIs.of_mono (fun k r h => spec_UndoFeed.mono l0 a1 k r h)
theorem spec_UndoFeed.j0L_eq (x0 : List (S110)) (x1 : Int) (x5 : List (S110)) (x31 : Bool) : spec_UndoFeed.j0L x0 x1 x5 x31 = if x31 = true then (some x5) else (spec_UndoFeed.l0L x0 x1 x5 (wrap64 ((x0.length : Int) - 1))) := by
  refine LimIs.unique (spec_UndoFeed.j0L_is x0 x1 x5 x31) (LimIs.step (f := fun k => if x31 = true then (some x5) else (spec_UndoFeed.l0 k x0 x1 x5 (wrap64 ((x0.length : Int) - 1)))) (by simp only [spec_UndoFeed.j0]) (fun k => by simp only [spec_UndoFeed.j0]) ?_)
  repeat' first
    | (with_reducible exact LimIs.const _)
    | (with_reducible exact spec_UndoFeed.l0L_is _ _ _ _)
    | (with_reducible refine LimIs.ite ?_ ?_)
    | (with_reducible refine LimIs.bind ?_ (fun _ => ?_))
theorem spec_UndoFeed.l0L_eq (x0 : List (S110)) (x1 : Int) (x5 : List (S110)) (x6 : Int) : spec_UndoFeed.l0L x0 x1 x5 x6 = if x6 ≥ 0 then (if 0 ≤ x6 then (if x6 < (x0.length : Int) then (if x5.length < 3518437208883 then (spec_UndoFeed.l0L x0 x1 (x5 ++ [(⟨wrap64 ((wrap64 (x1 - 1)) - ((rd_T110 x0 x6).f0)), (rd_T110 x0 x6).f1, (rd_T110 x0 x6).f3, (rd_T110 x0 x6).f2⟩ : S110)]) (wrap64 (x6 - 1))) else (none)) else (none)) else (none)) else (some x5) := by
  refine LimIs.unique (spec_UndoFeed.l0L_is x0 x1 x5 x6) (LimIs.step (f := fun k => if x6 ≥ 0 then (if 0 ≤ x6 then (if x6 < (x0.length : Int) then (if x5.length < 3518437208883 then (spec_UndoFeed.l0 k x0 x1 (x5 ++ [(⟨wrap64 ((wrap64 (x1 - 1)) - ((rd_T110 x0 x6).f0)), (rd_T110 x0 x6).f1, (rd_T110 x0 x6).f3, (rd_T110 x0 x6).f2⟩ : S110)]) (wrap64 (x6 - 1))) else (none)) else (none)) else (none)) else (some x5)) (by simp only [spec_UndoFeed.l0]) (fun k => by simp only [spec_UndoFeed.l0]) ?_)
  repeat' first
    | (with_reducible exact LimIs.const _)
    | (with_reducible exact spec_UndoFeed.l0L_is _ _ _ _)
    | (with_reducible refine LimIs.ite ?_ ?_)
    | (with_reducible refine LimIs.bind ?_ (fun _ => ?_))
theorem spec_UndoFeed.fL_eq (l0 : List (S110)) (a1 : Int) : spec_UndoFeed.fL l0 a1 = (some (([] : List (S110)) : List (S110))).bind fun y142 => ((spec_FeedValid.fL l0).bind fun t145 => (if t145 = true then ((spec_l1In.f a1 0 24).bind fun t146 => (if t146 = true then (if (l0.length : Int) > 0 then (if 0 ≤ (wrap64 ((l0.length : Int) - 1)) then (if (wrap64 ((l0.length : Int) - 1)) < (l0.length : Int) then (spec_UndoFeed.j0L l0 a1 y142 (decide (((rd_T110 l0 (wrap64 ((l0.length : Int) - 1))).f0) ≥ a1))) else (none)) else (none)) else (spec_UndoFeed.j0L l0 a1 y142 false)) else (spec_UndoFeed.j0L l0 a1 y142 true))) else (spec_UndoFeed.j0L l0 a1 y142 true))) := by
  refine LimIs.unique (spec_UndoFeed.fL_is l0 a1) ?_
  unfold spec_UndoFeed.f
  repeat' first
    | (with_reducible exact LimIs.const _)
    | (with_reducible exact spec_FeedValid.fL_is _)
    | (with_reducible exact spec_UndoFeed.j0L_is _ _ _ _)
    | (with_reducible refine LimIs.ite ?_ ?_)
    | (with_reducible refine LimIs.bind ?_ (fun _ => ?_))
/-! ### impl_lettersOnly -/
noncomputable def impl_lettersOnly.fL (a0 : ByteArray) : Option (Bool) := Lim (fun k => impl_lettersOnly.f k a0)
theorem impl_lettersOnly.fL_is (a0 : ByteArray) : LimIs (fun k => impl_lettersOnly.f k a0) (impl_lettersOnly.fL a0) := LimIs.of_mono (fun k r h => impl_lettersOnly.mono a0 k r h)
theorem impl_lettersOnly.fL_eq (a0 : ByteArray) : impl_lettersOnly.fL a0 = if a0.toList = ([] : List UInt8) then (some true) else (if 0 < (a0.size : Int) then (if (bt a0 0) ≥ 97 then (if (bt a0 0) ≤ 122 then (if 1 ≤ (a0.size : Int) then ((impl_lettersOnly.fL (a0.extract 1 a0.size)).bind fun t155 => (some t155)) else (none)) else (some false)) else (some false)) else (none)) := by
  refine LimIs.unique (impl_lettersOnly.fL_is a0) (LimIs.step (f := fun k => if a0.toList = ([] : List UInt8) then (some true) else (if 0 < (a0.size : Int) then (if (bt a0 0) ≥ 97 then (if (bt a0 0) ≤ 122 then (if 1 ≤ (a0.size : Int) then ((impl_lettersOnly.f k (a0.extract 1 a0.size)).bind fun t155 => (some t155)) else (none)) else (some false)) else (some false)) else (none))) (by simp only [impl_lettersOnly.f]) (fun k => by simp only [impl_lettersOnly.f]) ?_)
  repeat' first
    | (with_reducible exact LimIs.const _)
    | (with_reducible exact impl_lettersOnly.fL_is _)
    | (with_reducible refine LimIs.ite ?_ ?_)
    | (with_reducible refine LimIs.bind ?_ (fun _ => ?_))
/-! ### impl_KeyValid -/
noncomputable def impl_KeyValid.fL (a0 : ByteArray) : Option (Bool) := Lim (fun k => impl_KeyValid.f k a0)
theorem impl_KeyValid.fL_is (a0 : ByteArray) : LimIs (fun k => impl_KeyValid.f k a0) (impl_KeyValid.fL a0) := LimIs.of_mono (fun k r h => impl_KeyValid.mono a0 k r h)
theorem impl_KeyValid.fL_eq (a0 : ByteArray) : impl_KeyValid.fL a0 = if (a0.size : Int) < 1 then (some false) else (if (a0.size : Int) > 4 then (some false) else ((impl_lettersOnly.fL a0).bind fun t156 => (some t156))) := by
  refine LimIs.unique (impl_KeyValid.fL_is a0) ?_
  unfold impl_KeyValid.f
  repeat' first
    | (with_reducible exact LimIs.const _)
    | (with_reducible exact impl_lettersOnly.fL_is _)
    | (with_reducible refine LimIs.ite ?_ ?_)
    | (with_reducible refine LimIs.bind ?_ (fun _ => ?_))
/-! ### impl_FeedValid -/
noncomputable def impl_FeedValid.l0L (x0 : List (S110)) (x8 : List (S110)) (x9 : Int) (x10 : Int) : Option (Bool) := Lim (fun k => impl_FeedValid.l0 k x0 x8 x9 x10)
theorem impl_FeedValid.l0L_is (x0 : List (S110)) (x8 : List (S110)) (x9 : Int) (x10 : Int) : LimIs (fun k => impl_FeedValid.l0 k x0 x8 x9 x10) (impl_FeedValid.l0L x0 x8 x9 x10) := LimIs.of_mono (fun k r h => (impl_FeedValid.mono_l k).1 x0 x8 x9 x10 r h)
noncomputable def impl_FeedValid.j1L (x0 : List (S110)) (x3 : Int) (x8 : List (S110)) (x9 : Int) (x10 : Int) (x35 : Bool) (x159000 : Int) (x159001 : ByteArray) (x159002 : Int) (x159003 : Int) : Option (Bool) := Lim (fun k => impl_FeedValid.j1 k x0 x3 x8 x9 x10 x35 x159000 x159001 x159002 x159003)
theorem impl_FeedValid.j1L_is (x0 : List (S110)) (x3 : Int) (x8 : List (S110)) (x9 : Int) (x10 : Int) (x35 : Bool) (x159000 : Int) (x159001 : ByteArray) (x159002 : Int) (x159003 : Int) : LimIs (fun k => impl_FeedValid.j1 k x0 x3 x8 x9 x10 x35 x159000 x159001 x159002 x159003) (impl_FeedValid.j1L x0 x3 x8 x9 x10 x35 x159000 x159001 x159002 x159003) := LimIs.of_mono (fun k r h => (impl_FeedValid.mono_l k).2.1 x0 x3 x8 x9 x10 x35 x159000 x159001 x159002 x159003 r h)
noncomputable def impl_FeedValid.j2L (x0 : List (S110)) (x3 : Int) (x8 : List (S110)) (x9 : Int) (x10 : Int) (x55 : Bool) (x159000 : Int) (x159001 : ByteArray) (x159002 : Int) (x159003 : Int) : Option (Bool) := Lim (fun k => impl_FeedValid.j2 k x0 x3 x8 x9 x10 x55 x159000 x159001 x159002 x159003)
theorem impl_FeedValid.j2L_is (x0 : List (S110)) (x3 : Int) (x8 : List (S110)) (x9 : Int) (x10 : Int) (x55 : Bool) (x159000 : Int) (x159001 : ByteArray) (x159002 : Int) (x159003 : Int) : LimIs (fun k => impl_FeedValid.j2 k x0 x3 x8 x9 x10 x55 x159000 x159001 x159002 x159003) (impl_FeedValid.j2L x0 x3 x8 x9 x10 x55 x159000 x159001 x159002 x159003) := LimIs.of_mono (fun k r h => (impl_FeedValid.mono_l k).2.2 x0 x3 x8 x9 x10 x55 x159000 x159001 x159002 x159003 r h)
noncomputable def impl_FeedValid.fL (l0 : List (S110)) : Option (Bool) := Lim (fun k => impl_FeedValid.f k l0)
theorem impl_FeedValid.fL_is (l0 : List (S110)) : LimIs (fun k => impl_FeedValid.f k l0) (impl_FeedValid.fL l0) := LimIs.of_mono (fun k r h => impl_FeedValid.mono l0 k r h)
theorem impl_FeedValid.l0L_eq (x0 : List (S110)) (x8 : List (S110)) (x9 : Int) (x10 : Int) : impl_FeedValid.l0L x0 x8 x9 x10 = if x10 < x9 then (if 0 ≤ x10 then (if x10 < (x8.length : Int) then (if ((rd_T110 x8 x10).f0) < 0 then (impl_FeedValid.j1L x0 x10 x8 x9 x10 true ((rd_T110 x8 x10).f0) ((rd_T110 x8 x10).f1) ((rd_T110 x8 x10).f2) ((rd_T110 x8 x10).f3)) else (if ((rd_T110 x8 x10).f0) ≥ 24 then (impl_FeedValid.j1L x0 x10 x8 x9 x10 true ((rd_T110 x8 x10).f0) ((rd_T110 x8 x10).f1) ((rd_T110 x8 x10).f2) ((rd_T110 x8 x10).f3)) else ((impl_KeyValid.fL ((rd_T110 x8 x10).f1)).bind fun t159 => (if t159 = true then (impl_FeedValid.j1L x0 x10 x8 x9 x10 (((rd_T110 x8 x10).f2) == ((rd_T110 x8 x10).f3)) ((rd_T110 x8 x10).f0) ((rd_T110 x8 x10).f1) ((rd_T110 x8 x10).f2) ((rd_T110 x8 x10).f3)) else (impl_FeedValid.j1L x0 x10 x8 x9 x10 true ((rd_T110 x8 x10).f0) ((rd_T110 x8 x10).f1) ((rd_T110 x8 x10).f2) ((rd_T110 x8 x10).f3)))))) else (none)) else (none)) else (some true) := by
  refine LimIs.unique (impl_FeedValid.l0L_is x0 x8 x9 x10) (LimIs.step (f := fun k => if x10 < x9 then (if 0 ≤ x10 then (if x10 < (x8.length : Int) then (if ((rd_T110 x8 x10).f0) < 0 then (impl_FeedValid.j1 k x0 x10 x8 x9 x10 true ((rd_T110 x8 x10).f0) ((rd_T110 x8 x10).f1) ((rd_T110 x8 x10).f2) ((rd_T110 x8 x10).f3)) else (if ((rd_T110 x8 x10).f0) ≥ 24 then (impl_FeedValid.j1 k x0 x10 x8 x9 x10 true ((rd_T110 x8 x10).f0) ((rd_T110 x8 x10).f1) ((rd_T110 x8 x10).f2) ((rd_T110 x8 x10).f3)) else ((impl_KeyValid.f k ((rd_T110 x8 x10).f1)).bind fun t159 => (if t159 = true then (impl_FeedValid.j1 k x0 x10 x8 x9 x10 (((rd_T110 x8 x10).f2) == ((rd_T110 x8 x10).f3)) ((rd_T110 x8 x10).f0) ((rd_T110 x8 x10).f1) ((rd_T110 x8 x10).f2) ((rd_T110 x8 x10).f3)) else (impl_FeedValid.j1 k x0 x10 x8 x9 x10 true ((rd_T110 x8 x10).f0) ((rd_T110 x8 x10).f1) ((rd_T110 x8 x10).f2) ((rd_T110 x8 x10).f3)))))) else (none)) else (none)) else (some true)) (by simp only [impl_FeedValid.l0]) (fun k => by simp only [impl_FeedValid.l0]) ?_)
  repeat' first
    | (with_reducible exact LimIs.const _)
    | (with_reducible exact impl_FeedValid.j1L_is _ _ _ _ _ _ _ _ _ _)
    | (with_reducible exact impl_KeyValid.fL_is _)
    | (with_reducible refine LimIs.ite ?_ ?_)
    | (with_reducible refine LimIs.bind ?_ (fun _ => ?_))
theorem impl_FeedValid.j1L_eq (x0 : List (S110)) (x3 : Int) (x8 : List (S110)) (x9 : Int) (x10 : Int) (x35 : Bool) (x159000 : Int) (x159001 : ByteArray) (x159002 : Int) (x159003 : Int) : impl_FeedValid.j1L x0 x3 x8 x9 x10 x35 x159000 x159001 x159002 x159003 = if x35 = true then (some false) else (if x159002 = (-1) then (if x159003 = (-1) then (impl_FeedValid.j2L x0 x3 x8 x9 x10 false x159000 x159001 x159002 x159003) else ((impl_valueValid.f x159003).bind fun t160 => (impl_FeedValid.j2L x0 x3 x8 x9 x10 (!t160) x159000 x159001 x159002 x159003))) else ((impl_valueValid.f x159002).bind fun t161 => (if t161 = true then (if x159003 = (-1) then (impl_FeedValid.j2L x0 x3 x8 x9 x10 false x159000 x159001 x159002 x159003) else ((impl_valueValid.f x159003).bind fun t162 => (impl_FeedValid.j2L x0 x3 x8 x9 x10 (!t162) x159000 x159001 x159002 x159003))) else (impl_FeedValid.j2L x0 x3 x8 x9 x10 true x159000 x159001 x159002 x159003)))) := by
  refine LimIs.unique (impl_FeedValid.j1L_is x0 x3 x8 x9 x10 x35 x159000 x159001 x159002 x159003) (LimIs.step (f := fun k => if x35 = true then (some false) else (if x159002 = (-1) then (if x159003 = (-1) then (impl_FeedValid.j2 k x0 x3 x8 x9 x10 false x159000 x159001 x159002 x159003) else ((impl_valueValid.f x159003).bind fun t160 => (impl_FeedValid.j2 k x0 x3 x8 x9 x10 (!t160) x159000 x159001 x159002 x159003))) else ((impl_valueValid.f x159002).bind fun t161 => (if t161 = true then (if x159003 = (-1) then (impl_FeedValid.j2 k x0 x3 x8 x9 x10 false x159000 x159001 x159002 x159003) else ((impl_valueValid.f x159003).bind fun t162 => (impl_FeedValid.j2 k x0 x3 x8 x9 x10 (!t162) x159000 x159001 x159002 x159003))) else (impl_FeedValid.j2 k x0 x3 x8 x9 x10 true x159000 x159001 x159002 x159003))))) (by simp only [impl_FeedValid.j1]) (fun k => by simp only [impl_FeedValid.j1]) ?_)
  repeat' first
    | (with_reducible exact LimIs.const _)
    | (with_reducible exact impl_FeedValid.j2L_is _ _ _ _ _ _ _ _ _ _)
    | (with_reducible refine LimIs.ite ?_ ?_)
    | (with_reducible refine LimIs.bind ?_ (fun _ => ?_))
theorem impl_FeedValid.j2L_eq (x0 : List (S110)) (x3 : Int) (x8 : List (S110)) (x9 : Int) (x10 : Int) (x55 : Bool) (x159000 : Int) (x159001 : ByteArray) (x159002 : Int) (x159003 : Int) : impl_FeedValid.j2L x0 x3 x8 x9 x10 x55 x159000 x159001 x159002 x159003 = if x55 = true then (some false) else (if x3 > 0 then (if 0 ≤ (wrap64 (x3 - 1)) then (if (wrap64 (x3 - 1)) < (x0.length : Int) then (if ((rd_T110 x0 (wrap64 (x3 - 1))).f0) ≥ x159000 then (some false) else (impl_FeedValid.l0L x0 x8 x9 (wrap64 (x10 + 1)))) else (none)) else (none)) else (impl_FeedValid.l0L x0 x8 x9 (wrap64 (x10 + 1)))) := by
  refine LimIs.unique (impl_FeedValid.j2L_is x0 x3 x8 x9 x10 x55 x159000 x159001 x159002 x159003) (LimIs.step (f := fun k => if x55 = true then (some false) else (if x3 > 0 then (if 0 ≤ (wrap64 (x3 - 1)) then (if (wrap64 (x3 - 1)) < (x0.length : Int) then (if ((rd_T110 x0 (wrap64 (x3 - 1))).f0) ≥ x159000 then (some false) else (impl_FeedValid.l0 k x0 x8 x9 (wrap64 (x10 + 1)))) else (none)) else (none)) else (impl_FeedValid.l0 k x0 x8 x9 (wrap64 (x10 + 1))))) (by simp only [impl_FeedValid.j2]) (fun k => by simp only [impl_FeedValid.j2]) ?_)
  repeat' first
    | (with_reducible exact LimIs.const _)
    | (with_reducible exact impl_FeedValid.l0L_is _ _ _ _)
    | (with_reducible refine LimIs.ite ?_ ?_)
    | (with_reducible refine LimIs.bind ?_ (fun _ => ?_))
theorem impl_FeedValid.fL_eq (l0 : List (S110)) : impl_FeedValid.fL l0 = if (l0.length : Int) > 24 then (some false) else (impl_FeedValid.l0L l0 l0 (l0.length : Int) 0) := by
  refine LimIs.unique (impl_FeedValid.fL_is l0) ?_
  unfold impl_FeedValid.f
  repeat' first
    | (with_reducible exact LimIs.const _)
    | (with_reducible exact impl_FeedValid.l0L_is _ _ _ _)
    | (with_reducible refine LimIs.ite ?_ ?_)
    | (with_reducible refine LimIs.bind ?_ (fun _ => ?_))
/-! ### impl_UndoFeed -/
noncomputable def impl_UndoFeed.j0L (x0 : List (S110)) (x1 : Int) (x5 : Int) (x31 : Bool) : Option ((List (S110))) := Lim (fun k => impl_UndoFeed.j0 k x0 x1 x5 x31)
theorem impl_UndoFeed.j0L_is (x0 : List (S110)) (x1 : Int) (x5 : Int) (x31 : Bool) : LimIs (fun k => impl_UndoFeed.j0 k x0 x1 x5 x31) (impl_UndoFeed.j0L x0 x1 x5 x31) := LimIs.of_mono (fun k r h => (impl_UndoFeed.mono_l k).1 x0 x1 x5 x31 r h)
noncomputable def impl_UndoFeed.l0L (x0 : List (S110)) (x1 : Int) (x6 : List (S110)) (x7 : Int) : Option ((List (S110))) := Lim (fun k => impl_UndoFeed.l0 k x0 x1 x6 x7)
theorem impl_UndoFeed.l0L_is (x0 : List (S110)) (x1 : Int) (x6 : List (S110)) (x7 : Int) : LimIs (fun k => impl_UndoFeed.l0 k x0 x1 x6 x7) (impl_UndoFeed.l0L x0 x1 x6 x7) := LimIs.of_mono (fun k r h => (impl_UndoFeed.mono_l k).2 x0 x1 x6 x7 r h)
noncomputable def impl_UndoFeed.fL (l0 : List (S110)) (a1 : Int) : Option ((List (S110))) := Lim (fun k => impl_UndoFeed.f k l0 a1)
theorem impl_UndoFeed.fL_is (l0 : List (S110)) (a1 : Int) : LimIs (fun k => impl_UndoFeed.f k l0 a1) (impl_UndoFeed.fL l0 a1) := LimIs.of_mono (fun k r h => impl_UndoFeed.mono l0 a1 k r h)
theorem impl_UndoFeed.j0L_eq (x0 : List (S110)) (x1 : Int) (x5 : Int) (x31 : Bool) : impl_UndoFeed.j0L x0 x1 x5 x31 = if x31 = true then (some ([] : List (S110))) else (impl_UndoFeed.l0L x0 x1 ([] : List (S110)) x5) := by
  refine LimIs.unique (impl_UndoFeed.j0L_is x0 x1 x5 x31) (LimIs.step (f := fun k => if x31 = true then (some ([] : List (S110))) else (impl_UndoFeed.l0 k x0 x1 ([] : List (S110)) x5)) (by simp only [impl_UndoFeed.j0]) (fun k => by simp only [impl_UndoFeed.j0]) ?_)
  repeat' first
    | (with_reducible exact LimIs.const _)
    | (with_reducible exact impl_UndoFeed.l0L_is _ _ _ _)
    | (with_reducible refine LimIs.ite ?_ ?_)
    | (with_reducible refine LimIs.bind ?_ (fun _ => ?_))
theorem impl_UndoFeed.l0L_eq (x0 : List (S110)) (x1 : Int) (x6 : List (S110)) (x7 : Int) : impl_UndoFeed.l0L x0 x1 x6 x7 = if x7 ≥ 0 then (if 0 ≤ x7 then (if x7 < (x0.length : Int) then (if x6.length < 3518437208883 then (impl_UndoFeed.l0L x0 x1 (x6 ++ [(⟨wrap64 ((wrap64 (x1 - 1)) - ((rd_T110 x0 x7).f0)), (rd_T110 x0 x7).f1, (rd_T110 x0 x7).f3, (rd_T110 x0 x7).f2⟩ : S110)]) (wrap64 (x7 - 1))) else (none)) else (none)) else (none)) else (some x6) := by
  refine LimIs.unique (impl_UndoFeed.l0L_is x0 x1 x6 x7) (LimIs.step (f := fun k => if x7 ≥ 0 then (if 0 ≤ x7 then (if x7 < (x0.length : Int) then (if x6.length < 3518437208883 then (impl_UndoFeed.l0 k x0 x1 (x6 ++ [(⟨wrap64 ((wrap64 (x1 - 1)) - ((rd_T110 x0 x7).f0)), (rd_T110 x0 x7).f1, (rd_T110 x0 x7).f3, (rd_T110 x0 x7).f2⟩ : S110)]) (wrap64 (x7 - 1))) else (none)) else (none)) else (none)) else (some x6)) (by simp only [impl_UndoFeed.l0]) (fun k => by simp only [impl_UndoFeed.l0]) ?_)
  repeat' first
    | (with_reducible exact LimIs.const _)
    | (with_reducible exact impl_UndoFeed.l0L_is _ _ _ _)
    | (with_reducible refine LimIs.ite ?_ ?_)
    | (with_reducible refine LimIs.bind ?_ (fun _ => ?_))
theorem impl_UndoFeed.fL_eq (l0 : List (S110)) (a1 : Int) : impl_UndoFeed.fL l0 a1 = (impl_FeedValid.fL l0).bind fun t164 => (if t164 = true then (if (wrap64 ((l0.length : Int) - 1)) < 0 then (impl_UndoFeed.j0L l0 a1 (wrap64 ((l0.length : Int) - 1)) true) else (if 0 ≤ (wrap64 ((l0.length : Int) - 1)) then (if (wrap64 ((l0.length : Int) - 1)) < (l0.length : Int) then (if a1 ≤ ((rd_T110 l0 (wrap64 ((l0.length : Int) - 1))).f0) then (impl_UndoFeed.j0L l0 a1 (wrap64 ((l0.length : Int) - 1)) true) else (impl_UndoFeed.j0L l0 a1 (wrap64 ((l0.length : Int) - 1)) (decide (a1 > 24)))) else (none)) else (none))) else (impl_UndoFeed.j0L l0 a1 (wrap64 ((l0.length : Int) - 1)) true)) := by
  refine LimIs.unique (impl_UndoFeed.fL_is l0 a1) ?_
  unfold impl_UndoFeed.f
  repeat' first
    | (with_reducible exact LimIs.const _)
    | (with_reducible exact impl_FeedValid.fL_is _)
    | (with_reducible exact impl_UndoFeed.j0L_is _ _ _ _)
    | (with_reducible refine LimIs.ite ?_ ?_)
    | (with_reducible refine LimIs.bind ?_ (fun _ => ?_))
/-! ### laws_FnExactUndoFeed -/
noncomputable def laws_FnExactUndoFeed.j0L (x0 : List (S108)) (x1 : Int) (x6 : List (S110)) (x8 : List (S110)) (x46 : Bool) : Option (Bool) := Lim (fun k => laws_FnExactUndoFeed.j0 k x0 x1 x6 x8 x46)
theorem laws_FnExactUndoFeed.j0L_is (x0 : List (S108)) (x1 : Int) (x6 : List (S110)) (x8 : List (S110)) (x46 : Bool) : LimIs (fun k => laws_FnExactUndoFeed.j0 k x0 x1 x6 x8 x46) (laws_FnExactUndoFeed.j0L x0 x1 x6 x8 x46) := LimIs.of_mono (fun k r h => (laws_FnExactUndoFeed.mono_l k) x0 x1 x6 x8 x46 r h)
noncomputable def laws_FnExactUndoFeed.fL (l0 : List (S108)) (a1 : Int) : Option (Bool) := Lim (fun k => laws_FnExactUndoFeed.f k l0 a1)
theorem laws_FnExactUndoFeed.fL_is (l0 : List (S108)) (a1 : Int) : LimIs (fun k => laws_FnExactUndoFeed.f k l0 a1) (laws_FnExactUndoFeed.fL l0 a1) := LimIs.of_mono (fun k r h => laws_FnExactUndoFeed.mono l0 a1 k r h)
theorem laws_FnExactUndoFeed.j0L_eq (x0 : List (S108)) (x1 : Int) (x6 : List (S110)) (x8 : List (S110)) (x46 : Bool) : laws_FnExactUndoFeed.j0L x0 x1 x6 x8 x46 = if x46 = true then (some false) else ((laws_markChangeS.fL x8 1).bind fun bt192 => ((laws_heldChangeS.fL bt192.2 1).bind fun t194 => (if t194 < 0 then (some false) else (if t194 = bt192.1 then ((laws_toChangeS.fL x0).bind fun t195 => ((impl_UndoFeed.fL t195 x1).bind fun t198 => ((laws_eqChangeS.fL t198 x6).bind fun t201 => (if t201 = true then ((laws_heldChangeS.fL bt192.2 1).bind fun t202 => (if t202 < 0 then (some false) else (if t202 = bt192.1 then (some true) else (some false)))) else (some false))))) else (some false))))) := by
  refine LimIs.unique (laws_FnExactUndoFeed.j0L_is x0 x1 x6 x8 x46) (LimIs.step (f := fun k => if x46 = true then (some false) else ((laws_markChangeS.f k x8 1).bind fun bt192 => ((laws_heldChangeS.f k bt192.2 1).bind fun t194 => (if t194 < 0 then (some false) else (if t194 = bt192.1 then ((laws_toChangeS.f k x0).bind fun t195 => ((impl_UndoFeed.f k t195 x1).bind fun t198 => ((laws_eqChangeS.f k t198 x6).bind fun t201 => (if t201 = true then ((laws_heldChangeS.f k bt192.2 1).bind fun t202 => (if t202 < 0 then (some false) else (if t202 = bt192.1 then (some true) else (some false)))) else (some false))))) else (some false)))))) (by simp only [laws_FnExactUndoFeed.j0]) (fun k => by simp only [laws_FnExactUndoFeed.j0]) ?_)
  repeat' first
    | (with_reducible exact LimIs.const _)
    | (with_reducible exact impl_UndoFeed.fL_is _ _)
    | (with_reducible exact laws_eqChangeS.fL_is _ _)
    | (with_reducible exact laws_heldChangeS.fL_is _ _)
    | (with_reducible exact laws_markChangeS.fL_is _ _)
    | (with_reducible exact laws_toChangeS.fL_is _)
    | (with_reducible refine LimIs.ite ?_ ?_)
    | (with_reducible refine LimIs.bind ?_ (fun _ => ?_))
theorem laws_FnExactUndoFeed.fL_eq (l0 : List (S108)) (a1 : Int) : laws_FnExactUndoFeed.fL l0 a1 = (laws_szChangeS.fL l0 1048576).bind fun t171 => (if t171 < 0 then (some true) else ((laws_toChangeS.fL l0).bind fun t172 => ((spec_UndoFeed.fL t172 a1).bind fun t175 => ((laws_toChangeS.fL l0).bind fun t178 => ((impl_UndoFeed.fL t178 a1).bind fun t181 => ((laws_eqChangeS.fL t181 t175).bind fun t184 => (if t184 = true then ((laws_toChangeS.fL l0).bind fun t185 => ((laws_eqChangeS.fL t178 t185).bind fun t188 => (if t188 = true then ((laws_markChangeS.fL t178 1).bind fun bt189 => (if bt189.1 < 0 then (laws_FnExactUndoFeed.j0L l0 a1 t175 t181 true) else ((laws_eqChangeS.fL t181 t175).bind fun t191 => (laws_FnExactUndoFeed.j0L l0 a1 t175 t181 (!t191))))) else (some false)))) else (some false)))))))) := by
  refine LimIs.unique (laws_FnExactUndoFeed.fL_is l0 a1) ?_
  unfold laws_FnExactUndoFeed.f
  repeat' first
    | (with_reducible exact LimIs.const _)
    | (with_reducible exact impl_UndoFeed.fL_is _ _)
    | (with_reducible exact laws_FnExactUndoFeed.j0L_is _ _ _ _ _)
    | (with_reducible exact laws_eqChangeS.fL_is _ _)
    | (with_reducible exact laws_markChangeS.fL_is _ _)
    | (with_reducible exact laws_szChangeS.fL_is _ _)
    | (with_reducible exact laws_toChangeS.fL_is _)
    | (with_reducible exact spec_UndoFeed.fL_is _ _)
    | (with_reducible refine LimIs.ite ?_ ?_)
    | (with_reducible refine LimIs.bind ?_ (fun _ => ?_))
end Go.Proofs.Ytkejaolfbejokaa.PFnExactUndoFeed
