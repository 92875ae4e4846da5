/- The limits of the printed functions, and their equations. Written by lim.py out of the print. No condition. -/
import Derived.Test.YtfeeifefmenlmaaOFnExactDiffParts
import Derived.Test.YtfeeifefmenlmaaLim
namespace Go.Proofs.Ytfeeifefmenlmaa.PFnExactDiffParts
open Go.RowKit Go.Proofs.YtfeeifefmenlmaaW.PrintWords Go.Proofs.YtfeeifefmenlmaaW.PrintLast Go.Proofs.YtfeeifefmenlmaaW.PrintMore Go.Proofs.Ytfeeifefmenlmaa.Lim
set_option linter.unusedVariables false

/-! ### laws_szPairS -/
noncomputable def laws_szPairS.l0L (x0 : List (S104)) (x1 : Int) (x5 : Int) : Option (Int) := Lim (fun k => laws_szPairS.l0 k x0 x1 x5)
theorem laws_szPairS.l0L_is (x0 : List (S104)) (x1 : Int) (x5 : Int) : LimIs (fun k => laws_szPairS.l0 k x0 x1 x5) (laws_szPairS.l0L x0 x1 x5) := LimIs.of_mono (fun k r h => (laws_szPairS.mono_l k) x0 x1 x5 r h)
noncomputable def laws_szPairS.fL (l0 : List (S104)) (a1 : Int) : Option (Int) := Lim (fun k => laws_szPairS.f k l0 a1)
theorem laws_szPairS.fL_is (l0 : List (S104)) (a1 : Int) : LimIs (fun k => laws_szPairS.f k l0 a1) (laws_szPairS.fL l0 a1) := LimIs.of_mono (fun k r h => laws_szPairS.mono l0 a1 k r h)
theorem laws_szPairS.l0L_eq (x0 : List (S104)) (x1 : Int) (x5 : Int) : laws_szPairS.l0L x0 x1 x5 = if x5 < (x0.length : Int) then (if 0 ≤ x5 then ((laws_szPair.f ((rd_T104 x0 x5).f0) ((rd_T104 x0 x5).f1) x1).bind fun t103 => (if t103 < 0 then (some (-1)) else (laws_szPairS.l0L x0 t103 (wrap64 (x5 + 1))))) else (none)) else (some x1) := by
  refine LimIs.unique (laws_szPairS.l0L_is x0 x1 x5) (LimIs.step (f := fun k => if x5 < (x0.length : Int) then (if 0 ≤ x5 then ((laws_szPair.f ((rd_T104 x0 x5).f0) ((rd_T104 x0 x5).f1) x1).bind fun t103 => (if t103 < 0 then (some (-1)) else (laws_szPairS.l0 k x0 t103 (wrap64 (x5 + 1))))) else (none)) else (some x1)) (by simp only [laws_szPairS.l0]) (fun k => by simp only [laws_szPairS.l0]) ?_)
  repeat' first
    | (with_reducible exact LimIs.const _)
    | (with_reducible exact laws_szPairS.l0L_is _ _ _)
    | (with_reducible refine LimIs.ite ?_ ?_)
    | (with_reducible refine LimIs.bind ?_ (fun _ => ?_))
theorem laws_szPairS.fL_eq (l0 : List (S104)) (a1 : Int) : laws_szPairS.fL l0 a1 = if (wrap64 (a1 - (l0.length : Int))) < 0 then (some (-1)) else (laws_szPairS.l0L l0 (wrap64 (a1 - (l0.length : Int))) 0) := by
  refine LimIs.unique (laws_szPairS.fL_is l0 a1) ?_
  unfold laws_szPairS.f
  repeat' first
    | (with_reducible exact LimIs.const _)
    | (with_reducible exact laws_szPairS.l0L_is _ _ _)
    | (with_reducible refine LimIs.ite ?_ ?_)
    | (with_reducible refine LimIs.bind ?_ (fun _ => ?_))
/-! ### laws_toPairS -/
noncomputable def laws_toPairS.l0L (x0 : List (S104)) (x3 : List (S29)) (x4 : Int) : Option ((List (S29))) := Lim (fun k => laws_toPairS.l0 k x0 x3 x4)
theorem laws_toPairS.l0L_is (x0 : List (S104)) (x3 : List (S29)) (x4 : Int) : LimIs (fun k => laws_toPairS.l0 k x0 x3 x4) (laws_toPairS.l0L x0 x3 x4) := LimIs.of_mono (fun k r h => (laws_toPairS.mono_l k) x0 x3 x4 r h)
noncomputable def laws_toPairS.fL (l0 : List (S104)) : Option ((List (S29))) := Lim (fun k => laws_toPairS.f k l0)
theorem laws_toPairS.fL_is (l0 : List (S104)) : LimIs (fun k => laws_toPairS.f k l0) (laws_toPairS.fL l0) := LimIs.of_mono (fun k r h => laws_toPairS.mono l0 k r h)
theorem laws_toPairS.l0L_eq (x0 : List (S104)) (x3 : List (S29)) (x4 : Int) : laws_toPairS.l0L x0 x3 x4 = if x4 < (x0.length : Int) then (if 0 ≤ x4 then ((laws_toPair.f ((rd_T104 x0 x4).f0) ((rd_T104 x0 x4).f1)).bind fun bt111 => (if x4 < (x3.length : Int) then (laws_toPairS.l0L x0 (x3.set (x4 : Int).toNat (⟨bt111.1, bt111.2⟩ : S29)) (wrap64 (x4 + 1))) else (none))) else (none)) else (some x3) := by
  refine LimIs.unique (laws_toPairS.l0L_is x0 x3 x4) (LimIs.step (f := fun k => if x4 < (x0.length : Int) then (if 0 ≤ x4 then ((laws_toPair.f ((rd_T104 x0 x4).f0) ((rd_T104 x0 x4).f1)).bind fun bt111 => (if x4 < (x3.length : Int) then (laws_toPairS.l0 k x0 (x3.set (x4 : Int).toNat (⟨bt111.1, bt111.2⟩ : S29)) (wrap64 (x4 + 1))) else (none))) else (none)) else (some x3)) (by simp only [laws_toPairS.l0]) (fun k => by simp only [laws_toPairS.l0]) ?_)
  repeat' first
    | (with_reducible exact LimIs.const _)
    | (with_reducible exact laws_toPairS.l0L_is _ _ _)
    | (with_reducible refine LimIs.ite ?_ ?_)
    | (with_reducible refine LimIs.bind ?_ (fun _ => ?_))
theorem laws_toPairS.fL_eq (l0 : List (S104)) : laws_toPairS.fL l0 = if 0 ≤ (l0.length : Int) then (if ((l0.length : Int) : Int).toNat ≤ 11728124029610 then (laws_toPairS.l0L l0 (List.replicate ((l0.length : Int) : Int).toNat z29) 0) else (none)) else (none) := by
  refine LimIs.unique (laws_toPairS.fL_is l0) ?_
  unfold laws_toPairS.f
  repeat' first
    | (with_reducible exact LimIs.const _)
    | (with_reducible exact laws_toPairS.l0L_is _ _ _)
    | (with_reducible refine LimIs.ite ?_ ?_)
    | (with_reducible refine LimIs.bind ?_ (fun _ => ?_))
/-! ### laws_eqPairS -/
noncomputable def laws_eqPairS.l0L (x0 : List (S29)) (x1 : List (S29)) (x5 : Int) : Option (Bool) := Lim (fun k => laws_eqPairS.l0 k x0 x1 x5)
theorem laws_eqPairS.l0L_is (x0 : List (S29)) (x1 : List (S29)) (x5 : Int) : LimIs (fun k => laws_eqPairS.l0 k x0 x1 x5) (laws_eqPairS.l0L x0 x1 x5) := LimIs.of_mono (fun k r h => (laws_eqPairS.mono_l k) x0 x1 x5 r h)
noncomputable def laws_eqPairS.fL (l0 : List (S29)) (l1 : List (S29)) : Option (Bool) := Lim (fun k => laws_eqPairS.f k l0 l1)
theorem laws_eqPairS.fL_is (l0 : List (S29)) (l1 : List (S29)) : LimIs (fun k => laws_eqPairS.f k l0 l1) (laws_eqPairS.fL l0 l1) := LimIs.of_mono (fun k r h => laws_eqPairS.mono l0 l1 k r h)
theorem laws_eqPairS.l0L_eq (x0 : List (S29)) (x1 : List (S29)) (x5 : Int) : laws_eqPairS.l0L x0 x1 x5 = if x5 < (x0.length : Int) then (if 0 ≤ x5 then (if x5 < (x1.length : Int) then ((laws_eqPair.f ((rd_T29 x0 x5).f0) ((rd_T29 x0 x5).f1) ((rd_T29 x1 x5).f0) ((rd_T29 x1 x5).f1)).bind fun t118 => (if t118 = true then (laws_eqPairS.l0L x0 x1 (wrap64 (x5 + 1))) else (some false))) else (none)) else (none)) else (some true) := by
  refine LimIs.unique (laws_eqPairS.l0L_is x0 x1 x5) (LimIs.step (f := fun k => if x5 < (x0.length : Int) then (if 0 ≤ x5 then (if x5 < (x1.length : Int) then ((laws_eqPair.f ((rd_T29 x0 x5).f0) ((rd_T29 x0 x5).f1) ((rd_T29 x1 x5).f0) ((rd_T29 x1 x5).f1)).bind fun t118 => (if t118 = true then (laws_eqPairS.l0 k x0 x1 (wrap64 (x5 + 1))) else (some false))) else (none)) else (none)) else (some true)) (by simp only [laws_eqPairS.l0]) (fun k => by simp only [laws_eqPairS.l0]) ?_)
  repeat' first
    | (with_reducible exact LimIs.const _)
    | (with_reducible exact laws_eqPairS.l0L_is _ _ _)
    | (with_reducible refine LimIs.ite ?_ ?_)
    | (with_reducible refine LimIs.bind ?_ (fun _ => ?_))
theorem laws_eqPairS.fL_eq (l0 : List (S29)) (l1 : List (S29)) : laws_eqPairS.fL l0 l1 = if (l0.length : Int) = (l1.length : Int) then (laws_eqPairS.l0L l0 l1 0) else (some false) := by
  refine LimIs.unique (laws_eqPairS.fL_is l0 l1) ?_
  unfold laws_eqPairS.f
  repeat' first
    | (with_reducible exact LimIs.const _)
    | (with_reducible exact laws_eqPairS.l0L_is _ _ _)
    | (with_reducible refine LimIs.ite ?_ ?_)
    | (with_reducible refine LimIs.bind ?_ (fun _ => ?_))
/-! ### laws_markText -/
noncomputable def laws_markText.l0L (x0 : Int) (x3 : ByteArray) : Option (ByteArray) := Lim (fun k => laws_markText.l0 k x0 x3)
theorem laws_markText.l0L_is (x0 : Int) (x3 : ByteArray) : LimIs (fun k => laws_markText.l0 k x0 x3) (laws_markText.l0L x0 x3) := LimIs.of_mono (fun k r h => (laws_markText.mono_l k) x0 x3 r h)
noncomputable def laws_markText.fL (a0 : Int) : Option (ByteArray) := Lim (fun k => laws_markText.f k a0)
theorem laws_markText.fL_is (a0 : Int) : LimIs (fun k => laws_markText.f k a0) (laws_markText.fL a0) := LimIs.of_mono (fun k r h => laws_markText.mono a0 k r h)
theorem laws_markText.l0L_eq (x0 : Int) (x3 : ByteArray) : laws_markText.l0L x0 x3 = if x0 > 0 then ((some (([(wrap64 (48 + (Int.tmod x0 10))) % 256] : List Int) : List Int)).bind fun y119 => (if (strOfNums y119).size + x3.size ≤ 9223372036854775807 then (laws_markText.l0L (wrap64 (Int.tdiv x0 10)) ((strOfNums y119) ++ x3)) else (none))) else (if 1 + x3.size ≤ 9223372036854775807 then (some ((⟨#[109]⟩ : ByteArray) ++ x3)) else (none)) := by
  refine LimIs.unique (laws_markText.l0L_is x0 x3) (LimIs.step (f := fun k => if x0 > 0 then ((some (([(wrap64 (48 + (Int.tmod x0 10))) % 256] : List Int) : List Int)).bind fun y119 => (if (strOfNums y119).size + x3.size ≤ 9223372036854775807 then (laws_markText.l0 k (wrap64 (Int.tdiv x0 10)) ((strOfNums y119) ++ x3)) else (none))) else (if 1 + x3.size ≤ 9223372036854775807 then (some ((⟨#[109]⟩ : ByteArray) ++ x3)) else (none))) (by simp only [laws_markText.l0]) (fun k => by simp only [laws_markText.l0]) ?_)
  repeat' first
    | (with_reducible exact LimIs.const _)
    | (with_reducible exact laws_markText.l0L_is _ _)
    | (with_reducible refine LimIs.ite ?_ ?_)
    | (with_reducible refine LimIs.bind ?_ (fun _ => ?_))
theorem laws_markText.fL_eq (a0 : Int) : laws_markText.fL a0 = if a0 ≤ 0 then (some (⟨#[109, 48]⟩ : ByteArray)) else (laws_markText.l0L a0 (⟨#[]⟩ : ByteArray)) := by
  refine LimIs.unique (laws_markText.fL_is a0) ?_
  unfold laws_markText.f
  repeat' first
    | (with_reducible exact LimIs.const _)
    | (with_reducible exact laws_markText.l0L_is _ _)
    | (with_reducible refine LimIs.ite ?_ ?_)
    | (with_reducible refine LimIs.bind ?_ (fun _ => ?_))
/-! ### laws_markPairS -/
noncomputable def laws_markPairS.l0L (x0 : List (S29)) (x1 : Int) (x5 : Int) : Option (Int × (List (S29))) := Lim (fun k => laws_markPairS.l0 k x0 x1 x5)
theorem laws_markPairS.l0L_is (x0 : List (S29)) (x1 : Int) (x5 : Int) : LimIs (fun k => laws_markPairS.l0 k x0 x1 x5) (laws_markPairS.l0L x0 x1 x5) := LimIs.of_mono (fun k r h => (laws_markPairS.mono_l k) x0 x1 x5 r h)
noncomputable def laws_markPairS.fL (l0 : List (S29)) (a1 : Int) : Option (Int × (List (S29))) := Lim (fun k => laws_markPairS.f k l0 a1)
theorem laws_markPairS.fL_is (l0 : List (S29)) (a1 : Int) : LimIs (fun k => laws_markPairS.f k l0 a1) (laws_markPairS.fL l0 a1) := LimIs.of_mono (fun k r h => laws_markPairS.mono l0 a1 k r h)
theorem laws_markPairS.l0L_eq (x0 : List (S29)) (x1 : Int) (x5 : Int) : laws_markPairS.l0L x0 x1 x5 = if x5 < (x0.length : Int) then ((laws_markText.fL x1).bind fun t122 => (if 0 ≤ x5 then ((some (x0.set (x5 : Int).toNat (⟨t122, (rd_T29 x0 x5).f1⟩ : S29) : List (S29))).bind fun y123 => (laws_markPairS.l0L (y123.set (x5 : Int).toNat (⟨(rd_T29 y123 x5).f0, wrap64 (x1 + 1)⟩ : S29)) (wrap64 ((wrap64 (x1 + 1)) + 1)) (wrap64 (x5 + 1)))) else (none))) else (some (x1, x0)) := by
  refine LimIs.unique (laws_markPairS.l0L_is x0 x1 x5) (LimIs.step (f := fun k => if x5 < (x0.length : Int) then ((laws_markText.f k x1).bind fun t122 => (if 0 ≤ x5 then ((some (x0.set (x5 : Int).toNat (⟨t122, (rd_T29 x0 x5).f1⟩ : S29) : List (S29))).bind fun y123 => (laws_markPairS.l0 k (y123.set (x5 : Int).toNat (⟨(rd_T29 y123 x5).f0, wrap64 (x1 + 1)⟩ : S29)) (wrap64 ((wrap64 (x1 + 1)) + 1)) (wrap64 (x5 + 1)))) else (none))) else (some (x1, x0))) (by simp only [laws_markPairS.l0]) (fun k => by simp only [laws_markPairS.l0]) ?_)
  repeat' first
    | (with_reducible exact LimIs.const _)
    | (with_reducible exact laws_markPairS.l0L_is _ _ _)
    | (with_reducible exact laws_markText.fL_is _)
    | (with_reducible refine LimIs.ite ?_ ?_)
    | (with_reducible refine LimIs.bind ?_ (fun _ => ?_))
theorem laws_markPairS.fL_eq (l0 : List (S29)) (a1 : Int) : laws_markPairS.fL l0 a1 = laws_markPairS.l0L l0 a1 0 := by
  refine LimIs.unique (laws_markPairS.fL_is l0 a1) ?_
  unfold laws_markPairS.f
  repeat' first
    | (with_reducible exact LimIs.const _)
    | (with_reducible exact laws_markPairS.l0L_is _ _ _)
    | (with_reducible refine LimIs.ite ?_ ?_)
    | (with_reducible refine LimIs.bind ?_ (fun _ => ?_))
/-! ### laws_szIntervalS -/
noncomputable def laws_szIntervalS.l0L (x0 : List (S121)) (x1 : Int) (x5 : Int) : Option (Int) := Lim (fun k => laws_szIntervalS.l0 k x0 x1 x5)
theorem laws_szIntervalS.l0L_is (x0 : List (S121)) (x1 : Int) (x5 : Int) : LimIs (fun k => laws_szIntervalS.l0 k x0 x1 x5) (laws_szIntervalS.l0L x0 x1 x5) := LimIs.of_mono (fun k r h => (laws_szIntervalS.mono_l k) x0 x1 x5 r h)
noncomputable def laws_szIntervalS.fL (l0 : List (S121)) (a1 : Int) : Option (Int) := Lim (fun k => laws_szIntervalS.f k l0 a1)
theorem laws_szIntervalS.fL_is (l0 : List (S121)) (a1 : Int) : LimIs (fun k => laws_szIntervalS.f k l0 a1) (laws_szIntervalS.fL l0 a1) := LimIs.of_mono (fun k r h => laws_szIntervalS.mono l0 a1 k r h)
theorem laws_szIntervalS.l0L_eq (x0 : List (S121)) (x1 : Int) (x5 : Int) : laws_szIntervalS.l0L x0 x1 x5 = if x5 < (x0.length : Int) then (if 0 ≤ x5 then ((laws_szInterval.f ((rd_T121 x0 x5).f0) ((rd_T121 x0 x5).f1) x1).bind fun t127 => (if t127 < 0 then (some (-1)) else (laws_szIntervalS.l0L x0 t127 (wrap64 (x5 + 1))))) else (none)) else (some x1) := by
  refine LimIs.unique (laws_szIntervalS.l0L_is x0 x1 x5) (LimIs.step (f := fun k => if x5 < (x0.length : Int) then (if 0 ≤ x5 then ((laws_szInterval.f ((rd_T121 x0 x5).f0) ((rd_T121 x0 x5).f1) x1).bind fun t127 => (if t127 < 0 then (some (-1)) else (laws_szIntervalS.l0 k x0 t127 (wrap64 (x5 + 1))))) else (none)) else (some x1)) (by simp only [laws_szIntervalS.l0]) (fun k => by simp only [laws_szIntervalS.l0]) ?_)
  repeat' first
    | (with_reducible exact LimIs.const _)
    | (with_reducible exact laws_szIntervalS.l0L_is _ _ _)
    | (with_reducible refine LimIs.ite ?_ ?_)
    | (with_reducible refine LimIs.bind ?_ (fun _ => ?_))
theorem laws_szIntervalS.fL_eq (l0 : List (S121)) (a1 : Int) : laws_szIntervalS.fL l0 a1 = if (wrap64 (a1 - (l0.length : Int))) < 0 then (some (-1)) else (laws_szIntervalS.l0L l0 (wrap64 (a1 - (l0.length : Int))) 0) := by
  refine LimIs.unique (laws_szIntervalS.fL_is l0 a1) ?_
  unfold laws_szIntervalS.f
  repeat' first
    | (with_reducible exact LimIs.const _)
    | (with_reducible exact laws_szIntervalS.l0L_is _ _ _)
    | (with_reducible refine LimIs.ite ?_ ?_)
    | (with_reducible refine LimIs.bind ?_ (fun _ => ?_))
/-! ### laws_toIntervalS -/
noncomputable def laws_toIntervalS.l0L (x0 : List (S121)) (x3 : List (S83)) (x4 : Int) : Option ((List (S83))) := Lim (fun k => laws_toIntervalS.l0 k x0 x3 x4)
theorem laws_toIntervalS.l0L_is (x0 : List (S121)) (x3 : List (S83)) (x4 : Int) : LimIs (fun k => laws_toIntervalS.l0 k x0 x3 x4) (laws_toIntervalS.l0L x0 x3 x4) := LimIs.of_mono (fun k r h => (laws_toIntervalS.mono_l k) x0 x3 x4 r h)
noncomputable def laws_toIntervalS.fL (l0 : List (S121)) : Option ((List (S83))) := Lim (fun k => laws_toIntervalS.f k l0)
theorem laws_toIntervalS.fL_is (l0 : List (S121)) : LimIs (fun k => laws_toIntervalS.f k l0) (laws_toIntervalS.fL l0) := LimIs.of_mono (fun k r h => laws_toIntervalS.mono l0 k r h)
theorem laws_toIntervalS.l0L_eq (x0 : List (S121)) (x3 : List (S83)) (x4 : Int) : laws_toIntervalS.l0L x0 x3 x4 = if x4 < (x0.length : Int) then (if 0 ≤ x4 then ((laws_toInterval.f ((rd_T121 x0 x4).f0) ((rd_T121 x0 x4).f1)).bind fun bt135 => (if x4 < (x3.length : Int) then (laws_toIntervalS.l0L x0 (x3.set (x4 : Int).toNat (⟨bt135.1, bt135.2⟩ : S83)) (wrap64 (x4 + 1))) else (none))) else (none)) else (some x3) := by
  refine LimIs.unique (laws_toIntervalS.l0L_is x0 x3 x4) (LimIs.step (f := fun k => if x4 < (x0.length : Int) then (if 0 ≤ x4 then ((laws_toInterval.f ((rd_T121 x0 x4).f0) ((rd_T121 x0 x4).f1)).bind fun bt135 => (if x4 < (x3.length : Int) then (laws_toIntervalS.l0 k x0 (x3.set (x4 : Int).toNat (⟨bt135.1, bt135.2⟩ : S83)) (wrap64 (x4 + 1))) else (none))) else (none)) else (some x3)) (by simp only [laws_toIntervalS.l0]) (fun k => by simp only [laws_toIntervalS.l0]) ?_)
  repeat' first
    | (with_reducible exact LimIs.const _)
    | (with_reducible exact laws_toIntervalS.l0L_is _ _ _)
    | (with_reducible refine LimIs.ite ?_ ?_)
    | (with_reducible refine LimIs.bind ?_ (fun _ => ?_))
theorem laws_toIntervalS.fL_eq (l0 : List (S121)) : laws_toIntervalS.fL l0 = if 0 ≤ (l0.length : Int) then (if ((l0.length : Int) : Int).toNat ≤ 8796093022208 then (laws_toIntervalS.l0L l0 (List.replicate ((l0.length : Int) : Int).toNat z83) 0) else (none)) else (none) := by
  refine LimIs.unique (laws_toIntervalS.fL_is l0) ?_
  unfold laws_toIntervalS.f
  repeat' first
    | (with_reducible exact LimIs.const _)
    | (with_reducible exact laws_toIntervalS.l0L_is _ _ _)
    | (with_reducible refine LimIs.ite ?_ ?_)
    | (with_reducible refine LimIs.bind ?_ (fun _ => ?_))
/-! ### laws_eqIntS -/
noncomputable def laws_eqIntS.l0L (x0 : List Int) (x1 : List Int) (x5 : Int) : Option (Bool) := Lim (fun k => laws_eqIntS.l0 k x0 x1 x5)
theorem laws_eqIntS.l0L_is (x0 : List Int) (x1 : List Int) (x5 : Int) : LimIs (fun k => laws_eqIntS.l0 k x0 x1 x5) (laws_eqIntS.l0L x0 x1 x5) := LimIs.of_mono (fun k r h => (laws_eqIntS.mono_l k) x0 x1 x5 r h)
noncomputable def laws_eqIntS.fL (l0 : List Int) (l1 : List Int) : Option (Bool) := Lim (fun k => laws_eqIntS.f k l0 l1)
theorem laws_eqIntS.fL_is (l0 : List Int) (l1 : List Int) : LimIs (fun k => laws_eqIntS.f k l0 l1) (laws_eqIntS.fL l0 l1) := LimIs.of_mono (fun k r h => laws_eqIntS.mono l0 l1 k r h)
theorem laws_eqIntS.l0L_eq (x0 : List Int) (x1 : List Int) (x5 : Int) : laws_eqIntS.l0L x0 x1 x5 = if x5 < (x0.length : Int) then (if 0 ≤ x5 then (if x5 < (x1.length : Int) then (if (rd x0 x5) = (rd x1 x5) then (laws_eqIntS.l0L x0 x1 (wrap64 (x5 + 1))) else (some false)) else (none)) else (none)) else (some true) := by
  refine LimIs.unique (laws_eqIntS.l0L_is x0 x1 x5) (LimIs.step (f := fun k => if x5 < (x0.length : Int) then (if 0 ≤ x5 then (if x5 < (x1.length : Int) then (if (rd x0 x5) = (rd x1 x5) then (laws_eqIntS.l0 k x0 x1 (wrap64 (x5 + 1))) else (some false)) else (none)) else (none)) else (some true)) (by simp only [laws_eqIntS.l0]) (fun k => by simp only [laws_eqIntS.l0]) ?_)
  repeat' first
    | (with_reducible exact LimIs.const _)
    | (with_reducible exact laws_eqIntS.l0L_is _ _ _)
    | (with_reducible refine LimIs.ite ?_ ?_)
    | (with_reducible refine LimIs.bind ?_ (fun _ => ?_))
theorem laws_eqIntS.fL_eq (l0 : List Int) (l1 : List Int) : laws_eqIntS.fL l0 l1 = if (l0.length : Int) = (l1.length : Int) then (laws_eqIntS.l0L l0 l1 0) else (some false) := by
  refine LimIs.unique (laws_eqIntS.fL_is l0 l1) ?_
  unfold laws_eqIntS.f
  repeat' first
    | (with_reducible exact LimIs.const _)
    | (with_reducible exact laws_eqIntS.l0L_is _ _ _)
    | (with_reducible refine LimIs.ite ?_ ?_)
    | (with_reducible refine LimIs.bind ?_ (fun _ => ?_))
/-! ### laws_eqIntervalS -/
noncomputable def laws_eqIntervalS.l0L (x0 : List (S83)) (x1 : List (S83)) (x5 : Int) : Option (Bool) := Lim (fun k => laws_eqIntervalS.l0 k x0 x1 x5)
theorem laws_eqIntervalS.l0L_is (x0 : List (S83)) (x1 : List (S83)) (x5 : Int) : LimIs (fun k => laws_eqIntervalS.l0 k x0 x1 x5) (laws_eqIntervalS.l0L x0 x1 x5) := LimIs.of_mono (fun k r h => (laws_eqIntervalS.mono_l k) x0 x1 x5 r h)
noncomputable def laws_eqIntervalS.fL (l0 : List (S83)) (l1 : List (S83)) : Option (Bool) := Lim (fun k => laws_eqIntervalS.f k l0 l1)
theorem laws_eqIntervalS.fL_is (l0 : List (S83)) (l1 : List (S83)) : LimIs (fun k => laws_eqIntervalS.f k l0 l1) (laws_eqIntervalS.fL l0 l1) := LimIs.of_mono (fun k r h => laws_eqIntervalS.mono l0 l1 k r h)
theorem laws_eqIntervalS.l0L_eq (x0 : List (S83)) (x1 : List (S83)) (x5 : Int) : laws_eqIntervalS.l0L x0 x1 x5 = if x5 < (x0.length : Int) then (if 0 ≤ x5 then (if x5 < (x1.length : Int) then ((laws_eqInterval.f ((rd_T83 x0 x5).f0) ((rd_T83 x0 x5).f1) ((rd_T83 x1 x5).f0) ((rd_T83 x1 x5).f1)).bind fun t144 => (if t144 = true then (laws_eqIntervalS.l0L x0 x1 (wrap64 (x5 + 1))) else (some false))) else (none)) else (none)) else (some true) := by
  refine LimIs.unique (laws_eqIntervalS.l0L_is x0 x1 x5) (LimIs.step (f := fun k => if x5 < (x0.length : Int) then (if 0 ≤ x5 then (if x5 < (x1.length : Int) then ((laws_eqInterval.f ((rd_T83 x0 x5).f0) ((rd_T83 x0 x5).f1) ((rd_T83 x1 x5).f0) ((rd_T83 x1 x5).f1)).bind fun t144 => (if t144 = true then (laws_eqIntervalS.l0 k x0 x1 (wrap64 (x5 + 1))) else (some false))) else (none)) else (none)) else (some true)) (by simp only [laws_eqIntervalS.l0]) (fun k => by simp only [laws_eqIntervalS.l0]) ?_)
  repeat' first
    | (with_reducible exact LimIs.const _)
    | (with_reducible exact laws_eqIntervalS.l0L_is _ _ _)
    | (with_reducible refine LimIs.ite ?_ ?_)
    | (with_reducible refine LimIs.bind ?_ (fun _ => ?_))
theorem laws_eqIntervalS.fL_eq (l0 : List (S83)) (l1 : List (S83)) : laws_eqIntervalS.fL l0 l1 = if (l0.length : Int) = (l1.length : Int) then (laws_eqIntervalS.l0L l0 l1 0) else (some false) := by
  refine LimIs.unique (laws_eqIntervalS.fL_is l0 l1) ?_
  unfold laws_eqIntervalS.f
  repeat' first
    | (with_reducible exact LimIs.const _)
    | (with_reducible exact laws_eqIntervalS.l0L_is _ _ _)
    | (with_reducible refine LimIs.ite ?_ ?_)
    | (with_reducible refine LimIs.bind ?_ (fun _ => ?_))
/-! ### laws_markIntervalS -/
noncomputable def laws_markIntervalS.l0L (x0 : List (S83)) (x1 : Int) (x5 : Int) : Option (Int × (List (S83))) := Lim (fun k => laws_markIntervalS.l0 k x0 x1 x5)
theorem laws_markIntervalS.l0L_is (x0 : List (S83)) (x1 : Int) (x5 : Int) : LimIs (fun k => laws_markIntervalS.l0 k x0 x1 x5) (laws_markIntervalS.l0L x0 x1 x5) := LimIs.of_mono (fun k r h => (laws_markIntervalS.mono_l k) x0 x1 x5 r h)
noncomputable def laws_markIntervalS.fL (l0 : List (S83)) (a1 : Int) : Option (Int × (List (S83))) := Lim (fun k => laws_markIntervalS.f k l0 a1)
theorem laws_markIntervalS.fL_is (l0 : List (S83)) (a1 : Int) : LimIs (fun k => laws_markIntervalS.f k l0 a1) (laws_markIntervalS.fL l0 a1) := LimIs.of_mono (fun k r h => laws_markIntervalS.mono l0 a1 k r h)
theorem laws_markIntervalS.l0L_eq (x0 : List (S83)) (x1 : Int) (x5 : Int) : laws_markIntervalS.l0L x0 x1 x5 = if x5 < (x0.length : Int) then ((laws_markText.fL x1).bind fun t145 => (if 0 ≤ x5 then ((some (x0.set (x5 : Int).toNat (⟨t145, (rd_T83 x0 x5).f1⟩ : S83) : List (S83))).bind fun y146 => ((laws_markText.fL (wrap64 (x1 + 1))).bind fun t147 => (laws_markIntervalS.l0L (y146.set (x5 : Int).toNat (⟨(rd_T83 y146 x5).f0, t147⟩ : S83)) (wrap64 ((wrap64 (x1 + 1)) + 1)) (wrap64 (x5 + 1))))) else (none))) else (some (x1, x0)) := by
  refine LimIs.unique (laws_markIntervalS.l0L_is x0 x1 x5) (LimIs.step (f := fun k => if x5 < (x0.length : Int) then ((laws_markText.f k x1).bind fun t145 => (if 0 ≤ x5 then ((some (x0.set (x5 : Int).toNat (⟨t145, (rd_T83 x0 x5).f1⟩ : S83) : List (S83))).bind fun y146 => ((laws_markText.f k (wrap64 (x1 + 1))).bind fun t147 => (laws_markIntervalS.l0 k (y146.set (x5 : Int).toNat (⟨(rd_T83 y146 x5).f0, t147⟩ : S83)) (wrap64 ((wrap64 (x1 + 1)) + 1)) (wrap64 (x5 + 1))))) else (none))) else (some (x1, x0))) (by simp only [laws_markIntervalS.l0]) (fun k => by simp only [laws_markIntervalS.l0]) ?_)
  repeat' first
    | (with_reducible exact LimIs.const _)
    | (with_reducible exact laws_markIntervalS.l0L_is _ _ _)
    | (with_reducible exact laws_markText.fL_is _)
    | (with_reducible refine LimIs.ite ?_ ?_)
    | (with_reducible refine LimIs.bind ?_ (fun _ => ?_))
theorem laws_markIntervalS.fL_eq (l0 : List (S83)) (a1 : Int) : laws_markIntervalS.fL l0 a1 = laws_markIntervalS.l0L l0 a1 0 := by
  refine LimIs.unique (laws_markIntervalS.fL_is l0 a1) ?_
  unfold laws_markIntervalS.f
  repeat' first
    | (with_reducible exact LimIs.const _)
    | (with_reducible exact laws_markIntervalS.l0L_is _ _ _)
    | (with_reducible refine LimIs.ite ?_ ?_)
    | (with_reducible refine LimIs.bind ?_ (fun _ => ?_))
/-! ### laws_markIntS -/
noncomputable def laws_markIntS.l0L (x0 : List Int) (x1 : Int) (x5 : Int) : Option (Int × List Int) := Lim (fun k => laws_markIntS.l0 k x0 x1 x5)
theorem laws_markIntS.l0L_is (x0 : List Int) (x1 : Int) (x5 : Int) : LimIs (fun k => laws_markIntS.l0 k x0 x1 x5) (laws_markIntS.l0L x0 x1 x5) := LimIs.of_mono (fun k r h => (laws_markIntS.mono_l k) x0 x1 x5 r h)
noncomputable def laws_markIntS.fL (l0 : List Int) (a1 : Int) : Option (Int × List Int) := Lim (fun k => laws_markIntS.f k l0 a1)
theorem laws_markIntS.fL_is (l0 : List Int) (a1 : Int) : LimIs (fun k => laws_markIntS.f k l0 a1) (laws_markIntS.fL l0 a1) := LimIs.of_mono (fun k r h => laws_markIntS.mono l0 a1 k r h)
theorem laws_markIntS.l0L_eq (x0 : List Int) (x1 : Int) (x5 : Int) : laws_markIntS.l0L x0 x1 x5 = if x5 < (x0.length : Int) then (if 0 ≤ x5 then (laws_markIntS.l0L (x0.set (x5 : Int).toNat x1) (wrap64 (x1 + 1)) (wrap64 (x5 + 1))) else (none)) else (some (x1, x0)) := by
  refine LimIs.unique (laws_markIntS.l0L_is x0 x1 x5) (LimIs.step (f := fun k => if x5 < (x0.length : Int) then (if 0 ≤ x5 then (laws_markIntS.l0 k (x0.set (x5 : Int).toNat x1) (wrap64 (x1 + 1)) (wrap64 (x5 + 1))) else (none)) else (some (x1, x0))) (by simp only [laws_markIntS.l0]) (fun k => by simp only [laws_markIntS.l0]) ?_)
  repeat' first
    | (with_reducible exact LimIs.const _)
    | (with_reducible exact laws_markIntS.l0L_is _ _ _)
    | (with_reducible refine LimIs.ite ?_ ?_)
    | (with_reducible refine LimIs.bind ?_ (fun _ => ?_))
theorem laws_markIntS.fL_eq (l0 : List Int) (a1 : Int) : laws_markIntS.fL l0 a1 = laws_markIntS.l0L l0 a1 0 := by
  refine LimIs.unique (laws_markIntS.fL_is l0 a1) ?_
  unfold laws_markIntS.f
  repeat' first
    | (with_reducible exact LimIs.const _)
    | (with_reducible exact laws_markIntS.l0L_is _ _ _)
    | (with_reducible refine LimIs.ite ?_ ?_)
    | (with_reducible refine LimIs.bind ?_ (fun _ => ?_))
/-! ### laws_heldIntS -/
noncomputable def laws_heldIntS.l0L (x0 : List Int) (x1 : Int) (x5 : Int) : Option (Int) := Lim (fun k => laws_heldIntS.l0 k x0 x1 x5)
theorem laws_heldIntS.l0L_is (x0 : List Int) (x1 : Int) (x5 : Int) : LimIs (fun k => laws_heldIntS.l0 k x0 x1 x5) (laws_heldIntS.l0L x0 x1 x5) := LimIs.of_mono (fun k r h => (laws_heldIntS.mono_l k) x0 x1 x5 r h)
noncomputable def laws_heldIntS.fL (l0 : List Int) (a1 : Int) : Option (Int) := Lim (fun k => laws_heldIntS.f k l0 a1)
theorem laws_heldIntS.fL_is (l0 : List Int) (a1 : Int) : LimIs (fun k => laws_heldIntS.f k l0 a1) (laws_heldIntS.fL l0 a1) := LimIs.of_mono (fun k r h => laws_heldIntS.mono l0 a1 k r h)
theorem laws_heldIntS.l0L_eq (x0 : List Int) (x1 : Int) (x5 : Int) : laws_heldIntS.l0L x0 x1 x5 = if x5 < (x0.length : Int) then (if 0 ≤ x5 then (if (rd x0 x5) = x1 then (laws_heldIntS.l0L x0 (wrap64 (x1 + 1)) (wrap64 (x5 + 1))) else (some (-1))) else (none)) else (some x1) := by
  refine LimIs.unique (laws_heldIntS.l0L_is x0 x1 x5) (LimIs.step (f := fun k => if x5 < (x0.length : Int) then (if 0 ≤ x5 then (if (rd x0 x5) = x1 then (laws_heldIntS.l0 k x0 (wrap64 (x1 + 1)) (wrap64 (x5 + 1))) else (some (-1))) else (none)) else (some x1)) (by simp only [laws_heldIntS.l0]) (fun k => by simp only [laws_heldIntS.l0]) ?_)
  repeat' first
    | (with_reducible exact LimIs.const _)
    | (with_reducible exact laws_heldIntS.l0L_is _ _ _)
    | (with_reducible refine LimIs.ite ?_ ?_)
    | (with_reducible refine LimIs.bind ?_ (fun _ => ?_))
theorem laws_heldIntS.fL_eq (l0 : List Int) (a1 : Int) : laws_heldIntS.fL l0 a1 = laws_heldIntS.l0L l0 a1 0 := by
  refine LimIs.unique (laws_heldIntS.fL_is l0 a1) ?_
  unfold laws_heldIntS.f
  repeat' first
    | (with_reducible exact LimIs.const _)
    | (with_reducible exact laws_heldIntS.l0L_is _ _ _)
    | (with_reducible refine LimIs.ite ?_ ?_)
    | (with_reducible refine LimIs.bind ?_ (fun _ => ?_))
/-! ### spec_KeyValid -/
noncomputable def spec_KeyValid.l0L (x0 : ByteArray) (x3 : Int) : Option (Bool) := Lim (fun k => spec_KeyValid.l0 k x0 x3)
theorem spec_KeyValid.l0L_is (x0 : ByteArray) (x3 : Int) : LimIs (fun k => spec_KeyValid.l0 k x0 x3) (spec_KeyValid.l0L x0 x3) := LimIs.of_mono (fun k r h => (spec_KeyValid.mono_l k) x0 x3 r h)
noncomputable def spec_KeyValid.fL (a0 : ByteArray) : Option (Bool) := Lim (fun k => spec_KeyValid.f k a0)
theorem spec_KeyValid.fL_is (a0 : ByteArray) : LimIs (fun k => spec_KeyValid.f k a0) (spec_KeyValid.fL a0) := LimIs.of_mono (fun k r h => spec_KeyValid.mono a0 k r h)
theorem spec_KeyValid.l0L_eq (x0 : ByteArray) (x3 : Int) : spec_KeyValid.l0L x0 x3 = if x3 < (x0.size : Int) then (if 0 ≤ x3 then (if (bt x0 x3) < 97 then (some false) else (if (bt x0 x3) > 122 then (some false) else (spec_KeyValid.l0L x0 (wrap64 (x3 + 1))))) else (none)) else (some true) := by
  refine LimIs.unique (spec_KeyValid.l0L_is x0 x3) (LimIs.step (f := fun k => if x3 < (x0.size : Int) then (if 0 ≤ x3 then (if (bt x0 x3) < 97 then (some false) else (if (bt x0 x3) > 122 then (some false) else (spec_KeyValid.l0 k x0 (wrap64 (x3 + 1))))) else (none)) else (some true)) (by simp only [spec_KeyValid.l0]) (fun k => by simp only [spec_KeyValid.l0]) ?_)
  repeat' first
    | (with_reducible exact LimIs.const _)
    | (with_reducible exact spec_KeyValid.l0L_is _ _)
    | (with_reducible refine LimIs.ite ?_ ?_)
    | (with_reducible refine LimIs.bind ?_ (fun _ => ?_))
theorem spec_KeyValid.fL_eq (a0 : ByteArray) : spec_KeyValid.fL a0 = (spec_l1In.f (a0.size : Int) 1 4).bind fun t151 => (if t151 = true then (spec_KeyValid.l0L a0 0) else (some false)) := by
  refine LimIs.unique (spec_KeyValid.fL_is a0) ?_
  unfold spec_KeyValid.f
  repeat' first
    | (with_reducible exact LimIs.const _)
    | (with_reducible exact spec_KeyValid.l0L_is _ _)
    | (with_reducible refine LimIs.ite ?_ ?_)
    | (with_reducible refine LimIs.bind ?_ (fun _ => ?_))
/-! ### spec_PairsValid -/
noncomputable def spec_PairsValid.l0L (x0 : List (S29)) (x3 : Int) : Option (Bool) := Lim (fun k => spec_PairsValid.l0 k x0 x3)
theorem spec_PairsValid.l0L_is (x0 : List (S29)) (x3 : Int) : LimIs (fun k => spec_PairsValid.l0 k x0 x3) (spec_PairsValid.l0L x0 x3) := LimIs.of_mono (fun k r h => (spec_PairsValid.mono_l k) x0 x3 r h)
noncomputable def spec_PairsValid.fL (l0 : List (S29)) : Option (Bool) := Lim (fun k => spec_PairsValid.f k l0)
theorem spec_PairsValid.fL_is (l0 : List (S29)) : LimIs (fun k => spec_PairsValid.f k l0) (spec_PairsValid.fL l0) := LimIs.of_mono (fun k r h => spec_PairsValid.mono l0 k r h)
theorem spec_PairsValid.l0L_eq (x0 : List (S29)) (x3 : Int) : spec_PairsValid.l0L x0 x3 = if x3 < (x0.length : Int) then (if 0 ≤ x3 then ((spec_KeyValid.fL ((rd_T29 x0 x3).f0)).bind fun t153 => (if t153 = true then ((spec_l1In.f ((rd_T29 x0 x3).f1) 0 999).bind fun t155 => (if t155 = true then (if x3 > 0 then (if 0 ≤ (wrap64 (x3 - 1)) then (if (wrap64 (x3 - 1)) < (x0.length : Int) then (if ((Op.bytesLess (((rd_T29 x0 (wrap64 (x3 - 1))).f0).toList) (((rd_T29 x0 x3).f0).toList)) = true) then (spec_PairsValid.l0L x0 (wrap64 (x3 + 1))) else (some false)) else (none)) else (none)) else (spec_PairsValid.l0L x0 (wrap64 (x3 + 1)))) else (some false))) else (some false))) else (none)) else (some true) := by
  refine LimIs.unique (spec_PairsValid.l0L_is x0 x3) (LimIs.step (f := fun k => if x3 < (x0.length : Int) then (if 0 ≤ x3 then ((spec_KeyValid.f k ((rd_T29 x0 x3).f0)).bind fun t153 => (if t153 = true then ((spec_l1In.f ((rd_T29 x0 x3).f1) 0 999).bind fun t155 => (if t155 = true then (if x3 > 0 then (if 0 ≤ (wrap64 (x3 - 1)) then (if (wrap64 (x3 - 1)) < (x0.length : Int) then (if ((Op.bytesLess (((rd_T29 x0 (wrap64 (x3 - 1))).f0).toList) (((rd_T29 x0 x3).f0).toList)) = true) then (spec_PairsValid.l0 k x0 (wrap64 (x3 + 1))) else (some false)) else (none)) else (none)) else (spec_PairsValid.l0 k x0 (wrap64 (x3 + 1)))) else (some false))) else (some false))) else (none)) else (some true)) (by simp only [spec_PairsValid.l0]) (fun k => by simp only [spec_PairsValid.l0]) ?_)
  repeat' first
    | (with_reducible exact LimIs.const _)
    | (with_reducible exact spec_KeyValid.fL_is _)
    | (with_reducible exact spec_PairsValid.l0L_is _ _)
    | (with_reducible refine LimIs.ite ?_ ?_)
    | (with_reducible refine LimIs.bind ?_ (fun _ => ?_))
theorem spec_PairsValid.fL_eq (l0 : List (S29)) : spec_PairsValid.fL l0 = if (l0.length : Int) > 48 then (some false) else (spec_PairsValid.l0L l0 0) := by
  refine LimIs.unique (spec_PairsValid.fL_is l0) ?_
  unfold spec_PairsValid.f
  repeat' first
    | (with_reducible exact LimIs.const _)
    | (with_reducible exact spec_PairsValid.l0L_is _ _)
    | (with_reducible refine LimIs.ite ?_ ?_)
    | (with_reducible refine LimIs.bind ?_ (fun _ => ?_))
/-! ### spec_KeyRank -/
noncomputable def spec_KeyRank.l0L (x0 : ByteArray) (x3 : Int) (x4 : Int) : Option (Int) := Lim (fun k => spec_KeyRank.l0 k x0 x3 x4)
theorem spec_KeyRank.l0L_is (x0 : ByteArray) (x3 : Int) (x4 : Int) : LimIs (fun k => spec_KeyRank.l0 k x0 x3 x4) (spec_KeyRank.l0L x0 x3 x4) := LimIs.of_mono (fun k r h => (spec_KeyRank.mono_l k) x0 x3 x4 r h)
noncomputable def spec_KeyRank.fL (a0 : ByteArray) : Option (Int) := Lim (fun k => spec_KeyRank.f k a0)
theorem spec_KeyRank.fL_is (a0 : ByteArray) : LimIs (fun k => spec_KeyRank.f k a0) (spec_KeyRank.fL a0) := LimIs.of_mono (fun k r h => spec_KeyRank.mono a0 k r h)
theorem spec_KeyRank.l0L_eq (x0 : ByteArray) (x3 : Int) (x4 : Int) : spec_KeyRank.l0L x0 x3 x4 = if x4 < (x0.size : Int) then (if 0 ≤ x4 then ((spec_l1Weight.f x4).bind fun t159 => (spec_KeyRank.l0L x0 (wrap64 ((wrap64 (x3 + 1)) + (wrap64 ((((bt x0 x4) - 97) % 256) * t159)))) (wrap64 (x4 + 1)))) else (none)) else (some x3) := by
  refine LimIs.unique (spec_KeyRank.l0L_is x0 x3 x4) (LimIs.step (f := fun k => if x4 < (x0.size : Int) then (if 0 ≤ x4 then ((spec_l1Weight.f x4).bind fun t159 => (spec_KeyRank.l0 k x0 (wrap64 ((wrap64 (x3 + 1)) + (wrap64 ((((bt x0 x4) - 97) % 256) * t159)))) (wrap64 (x4 + 1)))) else (none)) else (some x3)) (by simp only [spec_KeyRank.l0]) (fun k => by simp only [spec_KeyRank.l0]) ?_)
  repeat' first
    | (with_reducible exact LimIs.const _)
    | (with_reducible exact spec_KeyRank.l0L_is _ _ _)
    | (with_reducible refine LimIs.ite ?_ ?_)
    | (with_reducible refine LimIs.bind ?_ (fun _ => ?_))
theorem spec_KeyRank.fL_eq (a0 : ByteArray) : spec_KeyRank.fL a0 = (spec_KeyValid.fL a0).bind fun t158 => (if t158 = true then (spec_KeyRank.l0L a0 (-1) 0) else (some (-1))) := by
  refine LimIs.unique (spec_KeyRank.fL_is a0) ?_
  unfold spec_KeyRank.f
  repeat' first
    | (with_reducible exact LimIs.const _)
    | (with_reducible exact spec_KeyRank.l0L_is _ _ _)
    | (with_reducible exact spec_KeyValid.fL_is _)
    | (with_reducible refine LimIs.ite ?_ ?_)
    | (with_reducible refine LimIs.bind ?_ (fun _ => ?_))
/-! ### spec_PairDigest -/
noncomputable def spec_PairDigest.fL (a0_0 : ByteArray) (a0_1 : Int) : Option (Int) := Lim (fun k => spec_PairDigest.f k a0_0 a0_1)
theorem spec_PairDigest.fL_is (a0_0 : ByteArray) (a0_1 : Int) : LimIs (fun k => spec_PairDigest.f k a0_0 a0_1) (spec_PairDigest.fL a0_0 a0_1) := LimIs.of_mono (fun k r h => spec_PairDigest.mono a0_0 a0_1 k r h)
theorem spec_PairDigest.fL_eq (a0_0 : ByteArray) (a0_1 : Int) : spec_PairDigest.fL a0_0 a0_1 = (spec_KeyValid.fL a0_0).bind fun t161 => (if t161 = true then ((spec_l1In.f a0_1 0 999).bind fun t162 => (if t162 = true then ((spec_KeyRank.fL a0_0).bind fun t163 => (some (Int.tmod (wrap64 ((wrap64 ((wrap64 (1009 * t163)) + (wrap64 (7 * a0_1)))) + 3)) 99991))) else (some (-1)))) else (some (-1))) := by
  refine LimIs.unique (spec_PairDigest.fL_is a0_0 a0_1) ?_
  unfold spec_PairDigest.f
  repeat' first
    | (with_reducible exact LimIs.const _)
    | (with_reducible exact spec_KeyRank.fL_is _)
    | (with_reducible exact spec_KeyValid.fL_is _)
    | (with_reducible refine LimIs.ite ?_ ?_)
    | (with_reducible refine LimIs.bind ?_ (fun _ => ?_))
/-! ### spec_PairsDigest -/
noncomputable def spec_PairsDigest.l0L (x0 : List (S29)) (x3 : Int) (x4 : Int) : Option (Int) := Lim (fun k => spec_PairsDigest.l0 k x0 x3 x4)
theorem spec_PairsDigest.l0L_is (x0 : List (S29)) (x3 : Int) (x4 : Int) : LimIs (fun k => spec_PairsDigest.l0 k x0 x3 x4) (spec_PairsDigest.l0L x0 x3 x4) := LimIs.of_mono (fun k r h => (spec_PairsDigest.mono_l k) x0 x3 x4 r h)
noncomputable def spec_PairsDigest.fL (l0 : List (S29)) : Option (Int) := Lim (fun k => spec_PairsDigest.f k l0)
theorem spec_PairsDigest.fL_is (l0 : List (S29)) : LimIs (fun k => spec_PairsDigest.f k l0) (spec_PairsDigest.fL l0) := LimIs.of_mono (fun k r h => spec_PairsDigest.mono l0 k r h)
theorem spec_PairsDigest.l0L_eq (x0 : List (S29)) (x3 : Int) (x4 : Int) : spec_PairsDigest.l0L x0 x3 x4 = if x4 < (x0.length : Int) then (if 0 ≤ x4 then ((spec_PairDigest.fL ((rd_T29 x0 x4).f0) ((rd_T29 x0 x4).f1)).bind fun t166 => (spec_PairsDigest.l0L x0 (Int.tmod (wrap64 (x3 + t166)) 99991) (wrap64 (x4 + 1)))) else (none)) else (some x3) := by
  refine LimIs.unique (spec_PairsDigest.l0L_is x0 x3 x4) (LimIs.step (f := fun k => if x4 < (x0.length : Int) then (if 0 ≤ x4 then ((spec_PairDigest.f k ((rd_T29 x0 x4).f0) ((rd_T29 x0 x4).f1)).bind fun t166 => (spec_PairsDigest.l0 k x0 (Int.tmod (wrap64 (x3 + t166)) 99991) (wrap64 (x4 + 1)))) else (none)) else (some x3)) (by simp only [spec_PairsDigest.l0]) (fun k => by simp only [spec_PairsDigest.l0]) ?_)
  repeat' first
    | (with_reducible exact LimIs.const _)
    | (with_reducible exact spec_PairDigest.fL_is _ _)
    | (with_reducible exact spec_PairsDigest.l0L_is _ _ _)
    | (with_reducible refine LimIs.ite ?_ ?_)
    | (with_reducible refine LimIs.bind ?_ (fun _ => ?_))
theorem spec_PairsDigest.fL_eq (l0 : List (S29)) : spec_PairsDigest.fL l0 = (spec_PairsValid.fL l0).bind fun t164 => (if t164 = true then (spec_PairsDigest.l0L l0 0 0) else (some (-1))) := by
  refine LimIs.unique (spec_PairsDigest.fL_is l0) ?_
  unfold spec_PairsDigest.f
  repeat' first
    | (with_reducible exact LimIs.const _)
    | (with_reducible exact spec_PairsDigest.l0L_is _ _ _)
    | (with_reducible exact spec_PairsValid.fL_is _)
    | (with_reducible refine LimIs.ite ?_ ?_)
    | (with_reducible refine LimIs.bind ?_ (fun _ => ?_))
/-! ### spec_IntervalValid -/
noncomputable def spec_IntervalValid.fL (a0_0 : ByteArray) (a0_1 : ByteArray) : Option (Bool) := Lim (fun k => spec_IntervalValid.f k a0_0 a0_1)
theorem spec_IntervalValid.fL_is (a0_0 : ByteArray) (a0_1 : ByteArray) : LimIs (fun k => spec_IntervalValid.f k a0_0 a0_1) (spec_IntervalValid.fL a0_0 a0_1) := LimIs.of_mono (fun k r h => spec_IntervalValid.mono a0_0 a0_1 k r h)
theorem spec_IntervalValid.fL_eq (a0_0 : ByteArray) (a0_1 : ByteArray) : spec_IntervalValid.fL a0_0 a0_1 = if a0_0.toList = ([] : List UInt8) then (if a0_1.toList = ([] : List UInt8) then (some true) else ((spec_KeyValid.fL a0_1).bind fun t168 => (if t168 = true then (if (Op.bytesLess a0_0.toList a0_1.toList) = true then (some (a0_1.toList != ([97] : List UInt8))) else (some false)) else (some false)))) else ((spec_KeyValid.fL a0_0).bind fun t169 => (if t169 = true then (if a0_1.toList = ([] : List UInt8) then (some true) else ((spec_KeyValid.fL a0_1).bind fun t170 => (if t170 = true then (if (Op.bytesLess a0_0.toList a0_1.toList) = true then (some true) else (some false)) else (some false)))) else (some false))) := by
  refine LimIs.unique (spec_IntervalValid.fL_is a0_0 a0_1) ?_
  unfold spec_IntervalValid.f
  repeat' first
    | (with_reducible exact LimIs.const _)
    | (with_reducible exact spec_KeyValid.fL_is _)
    | (with_reducible refine LimIs.ite ?_ ?_)
    | (with_reducible refine LimIs.bind ?_ (fun _ => ?_))
/-! ### spec_IntervalJoin -/
noncomputable def spec_IntervalJoin.fL (a0_0 : ByteArray) (a0_1 : ByteArray) (a1_0 : ByteArray) (a1_1 : ByteArray) : Option (ByteArray × ByteArray × Bool) := Lim (fun k => spec_IntervalJoin.f k a0_0 a0_1 a1_0 a1_1)
theorem spec_IntervalJoin.fL_is (a0_0 : ByteArray) (a0_1 : ByteArray) (a1_0 : ByteArray) (a1_1 : ByteArray) : LimIs (fun k => spec_IntervalJoin.f k a0_0 a0_1 a1_0 a1_1) (spec_IntervalJoin.fL a0_0 a0_1 a1_0 a1_1) := LimIs.of_mono (fun k r h => spec_IntervalJoin.mono a0_0 a0_1 a1_0 a1_1 k r h)
theorem spec_IntervalJoin.fL_eq (a0_0 : ByteArray) (a0_1 : ByteArray) (a1_0 : ByteArray) (a1_1 : ByteArray) : spec_IntervalJoin.fL a0_0 a0_1 a1_0 a1_1 = (spec_IntervalValid.fL a0_0 a0_1).bind fun t174 => (if t174 = true then ((spec_IntervalValid.fL a1_0 a1_1).bind fun t175 => (if t175 = true then (if a0_1.toList = ([] : List UInt8) then (some ((⟨#[]⟩ : ByteArray), (⟨#[]⟩ : ByteArray), false)) else (if a0_1.toList = a1_0.toList then (some (a0_0, a1_1, true)) else (some ((⟨#[]⟩ : ByteArray), (⟨#[]⟩ : ByteArray), false)))) else (some ((⟨#[]⟩ : ByteArray), (⟨#[]⟩ : ByteArray), false)))) else (some ((⟨#[]⟩ : ByteArray), (⟨#[]⟩ : ByteArray), false))) := by
  refine LimIs.unique (spec_IntervalJoin.fL_is a0_0 a0_1 a1_0 a1_1) ?_
  unfold spec_IntervalJoin.f
  repeat' first
    | (with_reducible exact LimIs.const _)
    | (with_reducible exact spec_IntervalValid.fL_is _ _)
    | (with_reducible refine LimIs.ite ?_ ?_)
    | (with_reducible refine LimIs.bind ?_ (fun _ => ?_))
/-! ### spec_PartitionValid -/
noncomputable def spec_PartitionValid.j0L (x0 : List (S83)) (x33 : Bool) : Option (Bool) := Lim (fun k => spec_PartitionValid.j0 k x0 x33)
theorem spec_PartitionValid.j0L_is (x0 : List (S83)) (x33 : Bool) : LimIs (fun k => spec_PartitionValid.j0 k x0 x33) (spec_PartitionValid.j0L x0 x33) := LimIs.of_mono (fun k r h => (spec_PartitionValid.mono_l k).1 x0 x33 r h)
noncomputable def spec_PartitionValid.l0L (x0 : List (S83)) (x3 : Int) : Option (Bool) := Lim (fun k => spec_PartitionValid.l0 k x0 x3)
theorem spec_PartitionValid.l0L_is (x0 : List (S83)) (x3 : Int) : LimIs (fun k => spec_PartitionValid.l0 k x0 x3) (spec_PartitionValid.l0L x0 x3) := LimIs.of_mono (fun k r h => (spec_PartitionValid.mono_l k).2 x0 x3 r h)
noncomputable def spec_PartitionValid.fL (l0 : List (S83)) : Option (Bool) := Lim (fun k => spec_PartitionValid.f k l0)
theorem spec_PartitionValid.fL_is (l0 : List (S83)) : LimIs (fun k => spec_PartitionValid.f k l0) (spec_PartitionValid.fL l0) := LimIs.of_mono (fun k r h => spec_PartitionValid.mono l0 k r h)
theorem spec_PartitionValid.j0L_eq (x0 : List (S83)) (x33 : Bool) : spec_PartitionValid.j0L x0 x33 = if x33 = true then (some false) else (spec_PartitionValid.l0L x0 1) := by
  refine LimIs.unique (spec_PartitionValid.j0L_is x0 x33) (LimIs.step (f := fun k => if x33 = true then (some false) else (spec_PartitionValid.l0 k x0 1)) (by simp only [spec_PartitionValid.j0]) (fun k => by simp only [spec_PartitionValid.j0]) ?_)
  repeat' first
    | (with_reducible exact LimIs.const _)
    | (with_reducible exact spec_PartitionValid.l0L_is _ _)
    | (with_reducible refine LimIs.ite ?_ ?_)
    | (with_reducible refine LimIs.bind ?_ (fun _ => ?_))
theorem spec_PartitionValid.l0L_eq (x0 : List (S83)) (x3 : Int) : spec_PartitionValid.l0L x0 x3 = if x3 < (x0.length : Int) then (if 0 ≤ (wrap64 (x3 - 1)) then (if (wrap64 (x3 - 1)) < (x0.length : Int) then (if 0 ≤ x3 then ((spec_IntervalJoin.fL ((rd_T83 x0 (wrap64 (x3 - 1))).f0) ((rd_T83 x0 (wrap64 (x3 - 1))).f1) ((rd_T83 x0 x3).f0) ((rd_T83 x0 x3).f1)).bind fun bt183 => (if bt183.2.2 = true then (spec_PartitionValid.l0L x0 (wrap64 (x3 + 1))) else (some false))) else (none)) else (none)) else (none)) else (some true) := by
  refine LimIs.unique (spec_PartitionValid.l0L_is x0 x3) (LimIs.step (f := fun k => if x3 < (x0.length : Int) then (if 0 ≤ (wrap64 (x3 - 1)) then (if (wrap64 (x3 - 1)) < (x0.length : Int) then (if 0 ≤ x3 then ((spec_IntervalJoin.f k ((rd_T83 x0 (wrap64 (x3 - 1))).f0) ((rd_T83 x0 (wrap64 (x3 - 1))).f1) ((rd_T83 x0 x3).f0) ((rd_T83 x0 x3).f1)).bind fun bt183 => (if bt183.2.2 = true then (spec_PartitionValid.l0 k x0 (wrap64 (x3 + 1))) else (some false))) else (none)) else (none)) else (none)) else (some true)) (by simp only [spec_PartitionValid.l0]) (fun k => by simp only [spec_PartitionValid.l0]) ?_)
  repeat' first
    | (with_reducible exact LimIs.const _)
    | (with_reducible exact spec_IntervalJoin.fL_is _ _ _ _)
    | (with_reducible exact spec_PartitionValid.l0L_is _ _)
    | (with_reducible refine LimIs.ite ?_ ?_)
    | (with_reducible refine LimIs.bind ?_ (fun _ => ?_))
theorem spec_PartitionValid.fL_eq (l0 : List (S83)) : spec_PartitionValid.fL l0 = (spec_l1In.f (l0.length : Int) 1 6).bind fun t176 => (if t176 = true then (if 0 < (l0.length : Int) then ((spec_IntervalValid.fL ((rd_T83 l0 0).f0) ((rd_T83 l0 0).f1)).bind fun t178 => (if t178 = true then (if ((rd_T83 l0 0).f0).toList = ([] : List UInt8) then (if 0 ≤ (wrap64 ((l0.length : Int) - 1)) then (if (wrap64 ((l0.length : Int) - 1)) < (l0.length : Int) then (spec_PartitionValid.j0L l0 (((rd_T83 l0 (wrap64 ((l0.length : Int) - 1))).f1).toList != ([] : List UInt8))) else (none)) else (none)) else (spec_PartitionValid.j0L l0 true)) else (spec_PartitionValid.j0L l0 true))) else (none)) else (spec_PartitionValid.j0L l0 true)) := by
  refine LimIs.unique (spec_PartitionValid.fL_is l0) ?_
  unfold spec_PartitionValid.f
  repeat' first
    | (with_reducible exact LimIs.const _)
    | (with_reducible exact spec_IntervalValid.fL_is _ _)
    | (with_reducible exact spec_PartitionValid.j0L_is _ _)
    | (with_reducible refine LimIs.ite ?_ ?_)
    | (with_reducible refine LimIs.bind ?_ (fun _ => ?_))
/-! ### spec_IntervalHas -/
noncomputable def spec_IntervalHas.fL (a0_0 : ByteArray) (a0_1 : ByteArray) (a1 : ByteArray) : Option (Bool) := Lim (fun k => spec_IntervalHas.f k a0_0 a0_1 a1)
theorem spec_IntervalHas.fL_is (a0_0 : ByteArray) (a0_1 : ByteArray) (a1 : ByteArray) : LimIs (fun k => spec_IntervalHas.f k a0_0 a0_1 a1) (spec_IntervalHas.fL a0_0 a0_1 a1) := LimIs.of_mono (fun k r h => spec_IntervalHas.mono a0_0 a0_1 a1 k r h)
theorem spec_IntervalHas.fL_eq (a0_0 : ByteArray) (a0_1 : ByteArray) (a1 : ByteArray) : spec_IntervalHas.fL a0_0 a0_1 a1 = (spec_IntervalValid.fL a0_0 a0_1).bind fun t188 => (if t188 = true then ((spec_KeyValid.fL a1).bind fun t189 => (if t189 = true then (if ((Op.bytesLess a1.toList a0_0.toList) = true) then (some false) else (if a0_1.toList = ([] : List UInt8) then (some true) else (some (Op.bytesLess a1.toList a0_1.toList)))) else (some false))) else (some false)) := by
  refine LimIs.unique (spec_IntervalHas.fL_is a0_0 a0_1 a1) ?_
  unfold spec_IntervalHas.f
  repeat' first
    | (with_reducible exact LimIs.const _)
    | (with_reducible exact spec_IntervalValid.fL_is _ _)
    | (with_reducible exact spec_KeyValid.fL_is _)
    | (with_reducible refine LimIs.ite ?_ ?_)
    | (with_reducible refine LimIs.bind ?_ (fun _ => ?_))
/-! ### spec_PairScan -/
noncomputable def spec_PairScan.j0L (x0 : List (S29)) (x2 : Int) (x7 : List (S29)) (x22 : Bool) (x191000 : ByteArray) (x191001 : ByteArray) : Option ((List (S29))) := Lim (fun k => spec_PairScan.j0 k x0 x2 x7 x22 x191000 x191001)
theorem spec_PairScan.j0L_is (x0 : List (S29)) (x2 : Int) (x7 : List (S29)) (x22 : Bool) (x191000 : ByteArray) (x191001 : ByteArray) : LimIs (fun k => spec_PairScan.j0 k x0 x2 x7 x22 x191000 x191001) (spec_PairScan.j0L x0 x2 x7 x22 x191000 x191001) := LimIs.of_mono (fun k r h => (spec_PairScan.mono_l k).1 x0 x2 x7 x22 x191000 x191001 r h)
noncomputable def spec_PairScan.l0L (x0 : List (S29)) (x2 : Int) (x7 : List (S29)) (x8 : Int) (x191000 : ByteArray) (x191001 : ByteArray) : Option ((List (S29))) := Lim (fun k => spec_PairScan.l0 k x0 x2 x7 x8 x191000 x191001)
theorem spec_PairScan.l0L_is (x0 : List (S29)) (x2 : Int) (x7 : List (S29)) (x8 : Int) (x191000 : ByteArray) (x191001 : ByteArray) : LimIs (fun k => spec_PairScan.l0 k x0 x2 x7 x8 x191000 x191001) (spec_PairScan.l0L x0 x2 x7 x8 x191000 x191001) := LimIs.of_mono (fun k r h => (spec_PairScan.mono_l k).2.1 x0 x2 x7 x8 x191000 x191001 r h)
noncomputable def spec_PairScan.j2L (x0 : List (S29)) (x2 : Int) (x7 : List (S29)) (x8 : Int) (x33 : Bool) (x191000 : ByteArray) (x191001 : ByteArray) : Option ((List (S29))) := Lim (fun k => spec_PairScan.j2 k x0 x2 x7 x8 x33 x191000 x191001)
theorem spec_PairScan.j2L_is (x0 : List (S29)) (x2 : Int) (x7 : List (S29)) (x8 : Int) (x33 : Bool) (x191000 : ByteArray) (x191001 : ByteArray) : LimIs (fun k => spec_PairScan.j2 k x0 x2 x7 x8 x33 x191000 x191001) (spec_PairScan.j2L x0 x2 x7 x8 x33 x191000 x191001) := LimIs.of_mono (fun k r h => (spec_PairScan.mono_l k).2.2 x0 x2 x7 x8 x33 x191000 x191001 r h)
noncomputable def spec_PairScan.fL (l0 : List (S29)) (a1_0 : ByteArray) (a1_1 : ByteArray) (a2 : Int) : Option ((List (S29))) := Lim (fun k => spec_PairScan.f k l0 a1_0 a1_1 a2)
theorem spec_PairScan.fL_is (l0 : List (S29)) (a1_0 : ByteArray) (a1_1 : ByteArray) (a2 : Int) : LimIs (fun k => spec_PairScan.f k l0 a1_0 a1_1 a2) (spec_PairScan.fL l0 a1_0 a1_1 a2) := LimIs.of_mono (fun k r h => spec_PairScan.mono l0 a1_0 a1_1 a2 k r h)
theorem spec_PairScan.j0L_eq (x0 : List (S29)) (x2 : Int) (x7 : List (S29)) (x22 : Bool) (x191000 : ByteArray) (x191001 : ByteArray) : spec_PairScan.j0L x0 x2 x7 x22 x191000 x191001 = if x22 = true then (some x7) else (spec_PairScan.l0L x0 x2 x7 0 x191000 x191001) := by
  refine LimIs.unique (spec_PairScan.j0L_is x0 x2 x7 x22 x191000 x191001) (LimIs.step (f := fun k => if x22 = true then (some x7) else (spec_PairScan.l0 k x0 x2 x7 0 x191000 x191001)) (by simp only [spec_PairScan.j0]) (fun k => by simp only [spec_PairScan.j0]) ?_)
  repeat' first
    | (with_reducible exact LimIs.const _)
    | (with_reducible exact spec_PairScan.l0L_is _ _ _ _ _ _)
    | (with_reducible refine LimIs.ite ?_ ?_)
    | (with_reducible refine LimIs.bind ?_ (fun _ => ?_))
theorem spec_PairScan.l0L_eq (x0 : List (S29)) (x2 : Int) (x7 : List (S29)) (x8 : Int) (x191000 : ByteArray) (x191001 : ByteArray) : spec_PairScan.l0L x0 x2 x7 x8 x191000 x191001 = if x8 < (x0.length : Int) then (spec_PairScan.j2L x0 x2 x7 x8 (decide ((x7.length : Int) < x2)) x191000 x191001) else (spec_PairScan.j2L x0 x2 x7 x8 false x191000 x191001) := by
  refine LimIs.unique (spec_PairScan.l0L_is x0 x2 x7 x8 x191000 x191001) (LimIs.step (f := fun k => if x8 < (x0.length : Int) then (spec_PairScan.j2 k x0 x2 x7 x8 (decide ((x7.length : Int) < x2)) x191000 x191001) else (spec_PairScan.j2 k x0 x2 x7 x8 false x191000 x191001)) (by simp only [spec_PairScan.l0]) (fun k => by simp only [spec_PairScan.l0]) ?_)
  repeat' first
    | (with_reducible exact LimIs.const _)
    | (with_reducible exact spec_PairScan.j2L_is _ _ _ _ _ _ _)
    | (with_reducible refine LimIs.ite ?_ ?_)
    | (with_reducible refine LimIs.bind ?_ (fun _ => ?_))
theorem spec_PairScan.j2L_eq (x0 : List (S29)) (x2 : Int) (x7 : List (S29)) (x8 : Int) (x33 : Bool) (x191000 : ByteArray) (x191001 : ByteArray) : spec_PairScan.j2L x0 x2 x7 x8 x33 x191000 x191001 = if x33 = true then (if 0 ≤ x8 then (if x8 < (x0.length : Int) then ((spec_IntervalHas.fL x191000 x191001 ((rd_T29 x0 x8).f0)).bind fun t198 => (if t198 = true then (if x7.length < 5864062014805 then (spec_PairScan.l0L x0 x2 (x7 ++ [(⟨(rd_T29 x0 x8).f0, (rd_T29 x0 x8).f1⟩ : S29)]) (wrap64 (x8 + 1)) x191000 x191001) else (none)) else (spec_PairScan.l0L x0 x2 x7 (wrap64 (x8 + 1)) x191000 x191001))) else (none)) else (none)) else (some x7) := by
  refine LimIs.unique (spec_PairScan.j2L_is x0 x2 x7 x8 x33 x191000 x191001) (LimIs.step (f := fun k => if x33 = true then (if 0 ≤ x8 then (if x8 < (x0.length : Int) then ((spec_IntervalHas.f k x191000 x191001 ((rd_T29 x0 x8).f0)).bind fun t198 => (if t198 = true then (if x7.length < 5864062014805 then (spec_PairScan.l0 k x0 x2 (x7 ++ [(⟨(rd_T29 x0 x8).f0, (rd_T29 x0 x8).f1⟩ : S29)]) (wrap64 (x8 + 1)) x191000 x191001) else (none)) else (spec_PairScan.l0 k x0 x2 x7 (wrap64 (x8 + 1)) x191000 x191001))) else (none)) else (none)) else (some x7)) (by simp only [spec_PairScan.j2]) (fun k => by simp only [spec_PairScan.j2]) ?_)
  repeat' first
    | (with_reducible exact LimIs.const _)
    | (with_reducible exact spec_IntervalHas.fL_is _ _ _)
    | (with_reducible exact spec_PairScan.l0L_is _ _ _ _ _ _)
    | (with_reducible refine LimIs.ite ?_ ?_)
    | (with_reducible refine LimIs.bind ?_ (fun _ => ?_))
theorem spec_PairScan.fL_eq (l0 : List (S29)) (a1_0 : ByteArray) (a1_1 : ByteArray) (a2 : Int) : spec_PairScan.fL l0 a1_0 a1_1 a2 = (some (([] : List (S29)) : List (S29))).bind fun y191 => ((spec_PairsValid.fL l0).bind fun t194 => (if t194 = true then ((spec_IntervalValid.fL a1_0 a1_1).bind fun t195 => (if t195 = true then ((spec_l1In.f a2 0 48).bind fun t196 => (spec_PairScan.j0L l0 a2 y191 (!t196) a1_0 a1_1)) else (spec_PairScan.j0L l0 a2 y191 true a1_0 a1_1))) else (spec_PairScan.j0L l0 a2 y191 true a1_0 a1_1))) := by
  refine LimIs.unique (spec_PairScan.fL_is l0 a1_0 a1_1 a2) ?_
  unfold spec_PairScan.f
  repeat' first
    | (with_reducible exact LimIs.const _)
    | (with_reducible exact spec_IntervalValid.fL_is _ _)
    | (with_reducible exact spec_PairScan.j0L_is _ _ _ _ _ _)
    | (with_reducible exact spec_PairsValid.fL_is _)
    | (with_reducible refine LimIs.ite ?_ ?_)
    | (with_reducible refine LimIs.bind ?_ (fun _ => ?_))
/-! ### spec_PairsIn -/
noncomputable def spec_PairsIn.fL (l0 : List (S29)) (a1_0 : ByteArray) (a1_1 : ByteArray) : Option ((List (S29))) := Lim (fun k => spec_PairsIn.f k l0 a1_0 a1_1)
theorem spec_PairsIn.fL_is (l0 : List (S29)) (a1_0 : ByteArray) (a1_1 : ByteArray) : LimIs (fun k => spec_PairsIn.f k l0 a1_0 a1_1) (spec_PairsIn.fL l0 a1_0 a1_1) := LimIs.of_mono (fun k r h => spec_PairsIn.mono l0 a1_0 a1_1 k r h)
theorem spec_PairsIn.fL_eq (l0 : List (S29)) (a1_0 : ByteArray) (a1_1 : ByteArray) : spec_PairsIn.fL l0 a1_0 a1_1 = (spec_PairScan.fL l0 a1_0 a1_1 48).bind fun t204 => (some t204) := by
  refine LimIs.unique (spec_PairsIn.fL_is l0 a1_0 a1_1) ?_
  unfold spec_PairsIn.f
  repeat' first
    | (with_reducible exact LimIs.const _)
    | (with_reducible exact spec_PairScan.fL_is _ _ _ _)
    | (with_reducible refine LimIs.ite ?_ ?_)
    | (with_reducible refine LimIs.bind ?_ (fun _ => ?_))
/-! ### spec_PartDigests -/
noncomputable def spec_PartDigests.j0L (x0 : List (S29)) (x1 : List (S83)) (x5 : List Int) (x15 : Bool) : Option (List Int) := Lim (fun k => spec_PartDigests.j0 k x0 x1 x5 x15)
theorem spec_PartDigests.j0L_is (x0 : List (S29)) (x1 : List (S83)) (x5 : List Int) (x15 : Bool) : LimIs (fun k => spec_PartDigests.j0 k x0 x1 x5 x15) (spec_PartDigests.j0L x0 x1 x5 x15) := LimIs.of_mono (fun k r h => (spec_PartDigests.mono_l k).1 x0 x1 x5 x15 r h)
noncomputable def spec_PartDigests.l0L (x0 : List (S29)) (x1 : List (S83)) (x5 : List Int) (x6 : Int) : Option (List Int) := Lim (fun k => spec_PartDigests.l0 k x0 x1 x5 x6)
theorem spec_PartDigests.l0L_is (x0 : List (S29)) (x1 : List (S83)) (x5 : List Int) (x6 : Int) : LimIs (fun k => spec_PartDigests.l0 k x0 x1 x5 x6) (spec_PartDigests.l0L x0 x1 x5 x6) := LimIs.of_mono (fun k r h => (spec_PartDigests.mono_l k).2 x0 x1 x5 x6 r h)
noncomputable def spec_PartDigests.fL (l0 : List (S29)) (l1 : List (S83)) : Option (List Int) := Lim (fun k => spec_PartDigests.f k l0 l1)
theorem spec_PartDigests.fL_is (l0 : List (S29)) (l1 : List (S83)) : LimIs (fun k => spec_PartDigests.f k l0 l1) (spec_PartDigests.fL l0 l1) := LimIs.of_mono (fun k r h => spec_PartDigests.mono l0 l1 k r h)
theorem spec_PartDigests.j0L_eq (x0 : List (S29)) (x1 : List (S83)) (x5 : List Int) (x15 : Bool) : spec_PartDigests.j0L x0 x1 x5 x15 = if x15 = true then (some x5) else (spec_PartDigests.l0L x0 x1 x5 0) := by
  refine LimIs.unique (spec_PartDigests.j0L_is x0 x1 x5 x15) (LimIs.step (f := fun k => if x15 = true then (some x5) else (spec_PartDigests.l0 k x0 x1 x5 0)) (by simp only [spec_PartDigests.j0]) (fun k => by simp only [spec_PartDigests.j0]) ?_)
  repeat' first
    | (with_reducible exact LimIs.const _)
    | (with_reducible exact spec_PartDigests.l0L_is _ _ _ _)
    | (with_reducible refine LimIs.ite ?_ ?_)
    | (with_reducible refine LimIs.bind ?_ (fun _ => ?_))
theorem spec_PartDigests.l0L_eq (x0 : List (S29)) (x1 : List (S83)) (x5 : List Int) (x6 : Int) : spec_PartDigests.l0L x0 x1 x5 x6 = if x6 < (x1.length : Int) then (if 0 ≤ x6 then ((spec_PairsIn.fL x0 ((rd_T83 x1 x6).f0) ((rd_T83 x1 x6).f1)).bind fun t213 => ((spec_PairsDigest.fL t213).bind fun t216 => (if x5.length < 17592186044416 then (spec_PartDigests.l0L x0 x1 (x5 ++ [t216]) (wrap64 (x6 + 1))) else (none)))) else (none)) else (some x5) := by
  refine LimIs.unique (spec_PartDigests.l0L_is x0 x1 x5 x6) (LimIs.step (f := fun k => if x6 < (x1.length : Int) then (if 0 ≤ x6 then ((spec_PairsIn.f k x0 ((rd_T83 x1 x6).f0) ((rd_T83 x1 x6).f1)).bind fun t213 => ((spec_PairsDigest.f k t213).bind fun t216 => (if x5.length < 17592186044416 then (spec_PartDigests.l0 k x0 x1 (x5 ++ [t216]) (wrap64 (x6 + 1))) else (none)))) else (none)) else (some x5)) (by simp only [spec_PartDigests.l0]) (fun k => by simp only [spec_PartDigests.l0]) ?_)
  repeat' first
    | (with_reducible exact LimIs.const _)
    | (with_reducible exact spec_PairsDigest.fL_is _)
    | (with_reducible exact spec_PairsIn.fL_is _ _ _)
    | (with_reducible exact spec_PartDigests.l0L_is _ _ _ _)
    | (with_reducible refine LimIs.ite ?_ ?_)
    | (with_reducible refine LimIs.bind ?_ (fun _ => ?_))
theorem spec_PartDigests.fL_eq (l0 : List (S29)) (l1 : List (S83)) : spec_PartDigests.fL l0 l1 = (some (([] : List Int) : List Int)).bind fun y207 => ((spec_PairsValid.fL l0).bind fun t210 => (if t210 = true then ((spec_PartitionValid.fL l1).bind fun t211 => (spec_PartDigests.j0L l0 l1 y207 (!t211))) else (spec_PartDigests.j0L l0 l1 y207 true))) := by
  refine LimIs.unique (spec_PartDigests.fL_is l0 l1) ?_
  unfold spec_PartDigests.f
  repeat' first
    | (with_reducible exact LimIs.const _)
    | (with_reducible exact spec_PairsValid.fL_is _)
    | (with_reducible exact spec_PartDigests.j0L_is _ _ _ _)
    | (with_reducible exact spec_PartitionValid.fL_is _)
    | (with_reducible refine LimIs.ite ?_ ?_)
    | (with_reducible refine LimIs.bind ?_ (fun _ => ?_))
/-! ### spec_DiffParts -/
noncomputable def spec_DiffParts.l0L (x7 : List Int) (x8 : List Int) (x9 : List Int) (x10 : Int) : Option (List Int) := Lim (fun k => spec_DiffParts.l0 k x7 x8 x9 x10)
theorem spec_DiffParts.l0L_is (x7 : List Int) (x8 : List Int) (x9 : List Int) (x10 : Int) : LimIs (fun k => spec_DiffParts.l0 k x7 x8 x9 x10) (spec_DiffParts.l0L x7 x8 x9 x10) := LimIs.of_mono (fun k r h => (spec_DiffParts.mono_l k).1 x7 x8 x9 x10 r h)
noncomputable def spec_DiffParts.j1L (x7 : List Int) (x8 : List Int) (x9 : List Int) (x10 : Int) (x27 : Bool) : Option (List Int) := Lim (fun k => spec_DiffParts.j1 k x7 x8 x9 x10 x27)
theorem spec_DiffParts.j1L_is (x7 : List Int) (x8 : List Int) (x9 : List Int) (x10 : Int) (x27 : Bool) : LimIs (fun k => spec_DiffParts.j1 k x7 x8 x9 x10 x27) (spec_DiffParts.j1L x7 x8 x9 x10 x27) := LimIs.of_mono (fun k r h => (spec_DiffParts.mono_l k).2 x7 x8 x9 x10 x27 r h)
noncomputable def spec_DiffParts.fL (l0 : List (S29)) (l1 : List (S29)) (l2 : List (S83)) : Option (List Int) := Lim (fun k => spec_DiffParts.f k l0 l1 l2)
theorem spec_DiffParts.fL_is (l0 : List (S29)) (l1 : List (S29)) (l2 : List (S83)) : LimIs (fun k => spec_DiffParts.f k l0 l1 l2) (spec_DiffParts.fL l0 l1 l2) := LimIs.of_mono (fun k r h => spec_DiffParts.mono l0 l1 l2 k r h)
theorem spec_DiffParts.l0L_eq (x7 : List Int) (x8 : List Int) (x9 : List Int) (x10 : Int) : spec_DiffParts.l0L x7 x8 x9 x10 = if x10 < (x8.length : Int) then (spec_DiffParts.j1L x7 x8 x9 x10 (decide (x10 < (x9.length : Int)))) else (spec_DiffParts.j1L x7 x8 x9 x10 false) := by
  refine LimIs.unique (spec_DiffParts.l0L_is x7 x8 x9 x10) (LimIs.step (f := fun k => if x10 < (x8.length : Int) then (spec_DiffParts.j1 k x7 x8 x9 x10 (decide (x10 < (x9.length : Int)))) else (spec_DiffParts.j1 k x7 x8 x9 x10 false)) (by simp only [spec_DiffParts.l0]) (fun k => by simp only [spec_DiffParts.l0]) ?_)
  repeat' first
    | (with_reducible exact LimIs.const _)
    | (with_reducible exact spec_DiffParts.j1L_is _ _ _ _ _)
    | (with_reducible refine LimIs.ite ?_ ?_)
    | (with_reducible refine LimIs.bind ?_ (fun _ => ?_))
theorem spec_DiffParts.j1L_eq (x7 : List Int) (x8 : List Int) (x9 : List Int) (x10 : Int) (x27 : Bool) : spec_DiffParts.j1L x7 x8 x9 x10 x27 = if x27 = true then (if 0 ≤ x10 then (if x10 < (x8.length : Int) then (if x10 < (x9.length : Int) then (if (rd x8 x10) = (rd x9 x10) then (spec_DiffParts.l0L x7 x8 x9 (wrap64 (x10 + 1))) else (if x7.length < 17592186044416 then (spec_DiffParts.l0L (x7 ++ [x10]) x8 x9 (wrap64 (x10 + 1))) else (none))) else (none)) else (none)) else (none)) else (some x7) := by
  refine LimIs.unique (spec_DiffParts.j1L_is x7 x8 x9 x10 x27) (LimIs.step (f := fun k => if x27 = true then (if 0 ≤ x10 then (if x10 < (x8.length : Int) then (if x10 < (x9.length : Int) then (if (rd x8 x10) = (rd x9 x10) then (spec_DiffParts.l0 k x7 x8 x9 (wrap64 (x10 + 1))) else (if x7.length < 17592186044416 then (spec_DiffParts.l0 k (x7 ++ [x10]) x8 x9 (wrap64 (x10 + 1))) else (none))) else (none)) else (none)) else (none)) else (some x7)) (by simp only [spec_DiffParts.j1]) (fun k => by simp only [spec_DiffParts.j1]) ?_)
  repeat' first
    | (with_reducible exact LimIs.const _)
    | (with_reducible exact spec_DiffParts.l0L_is _ _ _ _)
    | (with_reducible refine LimIs.ite ?_ ?_)
    | (with_reducible refine LimIs.bind ?_ (fun _ => ?_))
theorem spec_DiffParts.fL_eq (l0 : List (S29)) (l1 : List (S29)) (l2 : List (S83)) : spec_DiffParts.fL l0 l1 l2 = (spec_PartDigests.fL l0 l2).bind fun t223 => ((spec_PartDigests.fL l1 l2).bind fun t226 => (spec_DiffParts.l0L (([] : List Int)) t223 t226 0)) := by
  refine LimIs.unique (spec_DiffParts.fL_is l0 l1 l2) ?_
  unfold spec_DiffParts.f
  repeat' first
    | (with_reducible exact LimIs.const _)
    | (with_reducible exact spec_DiffParts.l0L_is _ _ _ _)
    | (with_reducible exact spec_PartDigests.fL_is _ _)
    | (with_reducible refine LimIs.ite ?_ ?_)
    | (with_reducible refine LimIs.bind ?_ (fun _ => ?_))
/-! ### impl_lettersOnly -/
noncomputable def impl_lettersOnly.fL (a0 : ByteArray) : Option (Bool) := Lim (fun k => impl_lettersOnly.f k a0)
theorem impl_lettersOnly.fL_is (a0 : ByteArray) : LimIs (fun k => impl_lettersOnly.f k a0) (impl_lettersOnly.fL a0) := LimIs.of_mono (fun k r h => impl_lettersOnly.mono a0 k r h)
theorem impl_lettersOnly.fL_eq (a0 : ByteArray) : impl_lettersOnly.fL a0 = if a0.toList = ([] : List UInt8) then (some true) else (if 0 < (a0.size : Int) then (if (bt a0 0) ≥ 97 then (if (bt a0 0) ≤ 122 then (if 1 ≤ (a0.size : Int) then ((impl_lettersOnly.fL (a0.extract 1 a0.size)).bind fun t234 => (some t234)) else (none)) else (some false)) else (some false)) else (none)) := by
  refine LimIs.unique (impl_lettersOnly.fL_is a0) (LimIs.step (f := fun k => if a0.toList = ([] : List UInt8) then (some true) else (if 0 < (a0.size : Int) then (if (bt a0 0) ≥ 97 then (if (bt a0 0) ≤ 122 then (if 1 ≤ (a0.size : Int) then ((impl_lettersOnly.f k (a0.extract 1 a0.size)).bind fun t234 => (some t234)) else (none)) else (some false)) else (some false)) else (none))) (by simp only [impl_lettersOnly.f]) (fun k => by simp only [impl_lettersOnly.f]) ?_)
  repeat' first
    | (with_reducible exact LimIs.const _)
    | (with_reducible exact impl_lettersOnly.fL_is _)
    | (with_reducible refine LimIs.ite ?_ ?_)
    | (with_reducible refine LimIs.bind ?_ (fun _ => ?_))
/-! ### impl_KeyValid -/
noncomputable def impl_KeyValid.fL (a0 : ByteArray) : Option (Bool) := Lim (fun k => impl_KeyValid.f k a0)
theorem impl_KeyValid.fL_is (a0 : ByteArray) : LimIs (fun k => impl_KeyValid.f k a0) (impl_KeyValid.fL a0) := LimIs.of_mono (fun k r h => impl_KeyValid.mono a0 k r h)
theorem impl_KeyValid.fL_eq (a0 : ByteArray) : impl_KeyValid.fL a0 = if (a0.size : Int) < 1 then (some false) else (if (a0.size : Int) > 4 then (some false) else ((impl_lettersOnly.fL a0).bind fun t235 => (some t235))) := by
  refine LimIs.unique (impl_KeyValid.fL_is a0) ?_
  unfold impl_KeyValid.f
  repeat' first
    | (with_reducible exact LimIs.const _)
    | (with_reducible exact impl_lettersOnly.fL_is _)
    | (with_reducible refine LimIs.ite ?_ ?_)
    | (with_reducible refine LimIs.bind ?_ (fun _ => ?_))
/-! ### impl_PairsValid -/
noncomputable def impl_PairsValid.l0L (x0 : List (S29)) (x8 : List (S29)) (x9 : Int) (x10 : Int) : Option (Bool) := Lim (fun k => impl_PairsValid.l0 k x0 x8 x9 x10)
theorem impl_PairsValid.l0L_is (x0 : List (S29)) (x8 : List (S29)) (x9 : Int) (x10 : Int) : LimIs (fun k => impl_PairsValid.l0 k x0 x8 x9 x10) (impl_PairsValid.l0L x0 x8 x9 x10) := LimIs.of_mono (fun k r h => (impl_PairsValid.mono_l k).1 x0 x8 x9 x10 r h)
noncomputable def impl_PairsValid.j1L (x0 : List (S29)) (x3 : Int) (x8 : List (S29)) (x9 : Int) (x10 : Int) (x24 : Bool) (x238000 : ByteArray) (x238001 : Int) : Option (Bool) := Lim (fun k => impl_PairsValid.j1 k x0 x3 x8 x9 x10 x24 x238000 x238001)
theorem impl_PairsValid.j1L_is (x0 : List (S29)) (x3 : Int) (x8 : List (S29)) (x9 : Int) (x10 : Int) (x24 : Bool) (x238000 : ByteArray) (x238001 : Int) : LimIs (fun k => impl_PairsValid.j1 k x0 x3 x8 x9 x10 x24 x238000 x238001) (impl_PairsValid.j1L x0 x3 x8 x9 x10 x24 x238000 x238001) := LimIs.of_mono (fun k r h => (impl_PairsValid.mono_l k).2 x0 x3 x8 x9 x10 x24 x238000 x238001 r h)
noncomputable def impl_PairsValid.fL (l0 : List (S29)) : Option (Bool) := Lim (fun k => impl_PairsValid.f k l0)
theorem impl_PairsValid.fL_is (l0 : List (S29)) : LimIs (fun k => impl_PairsValid.f k l0) (impl_PairsValid.fL l0) := LimIs.of_mono (fun k r h => impl_PairsValid.mono l0 k r h)
theorem impl_PairsValid.l0L_eq (x0 : List (S29)) (x8 : List (S29)) (x9 : Int) (x10 : Int) : impl_PairsValid.l0L x0 x8 x9 x10 = if x10 < x9 then (if 0 ≤ x10 then (if x10 < (x8.length : Int) then ((impl_KeyValid.fL ((rd_T29 x8 x10).f0)).bind fun t238 => (if t238 = true then ((impl_valueValid.f ((rd_T29 x8 x10).f1)).bind fun t239 => (impl_PairsValid.j1L x0 x10 x8 x9 x10 (!t239) ((rd_T29 x8 x10).f0) ((rd_T29 x8 x10).f1))) else (impl_PairsValid.j1L x0 x10 x8 x9 x10 true ((rd_T29 x8 x10).f0) ((rd_T29 x8 x10).f1)))) else (none)) else (none)) else (some true) := by
  refine LimIs.unique (impl_PairsValid.l0L_is x0 x8 x9 x10) (LimIs.step (f := fun k => if x10 < x9 then (if 0 ≤ x10 then (if x10 < (x8.length : Int) then ((impl_KeyValid.f k ((rd_T29 x8 x10).f0)).bind fun t238 => (if t238 = true then ((impl_valueValid.f ((rd_T29 x8 x10).f1)).bind fun t239 => (impl_PairsValid.j1 k x0 x10 x8 x9 x10 (!t239) ((rd_T29 x8 x10).f0) ((rd_T29 x8 x10).f1))) else (impl_PairsValid.j1 k x0 x10 x8 x9 x10 true ((rd_T29 x8 x10).f0) ((rd_T29 x8 x10).f1)))) else (none)) else (none)) else (some true)) (by simp only [impl_PairsValid.l0]) (fun k => by simp only [impl_PairsValid.l0]) ?_)
  repeat' first
    | (with_reducible exact LimIs.const _)
    | (with_reducible exact impl_KeyValid.fL_is _)
    | (with_reducible exact impl_PairsValid.j1L_is _ _ _ _ _ _ _ _)
    | (with_reducible refine LimIs.ite ?_ ?_)
    | (with_reducible refine LimIs.bind ?_ (fun _ => ?_))
theorem impl_PairsValid.j1L_eq (x0 : List (S29)) (x3 : Int) (x8 : List (S29)) (x9 : Int) (x10 : Int) (x24 : Bool) (x238000 : ByteArray) (x238001 : Int) : impl_PairsValid.j1L x0 x3 x8 x9 x10 x24 x238000 x238001 = if x24 = true then (some false) else (if x3 > 0 then (if 0 ≤ (wrap64 (x3 - 1)) then (if (wrap64 (x3 - 1)) < (x0.length : Int) then (if ((Op.bytesLess (((rd_T29 x0 (wrap64 (x3 - 1))).f0).toList) x238000.toList) = true) then (impl_PairsValid.l0L x0 x8 x9 (wrap64 (x10 + 1))) else (some false)) else (none)) else (none)) else (impl_PairsValid.l0L x0 x8 x9 (wrap64 (x10 + 1)))) := by
  refine LimIs.unique (impl_PairsValid.j1L_is x0 x3 x8 x9 x10 x24 x238000 x238001) (LimIs.step (f := fun k => if x24 = true then (some false) else (if x3 > 0 then (if 0 ≤ (wrap64 (x3 - 1)) then (if (wrap64 (x3 - 1)) < (x0.length : Int) then (if ((Op.bytesLess (((rd_T29 x0 (wrap64 (x3 - 1))).f0).toList) x238000.toList) = true) then (impl_PairsValid.l0 k x0 x8 x9 (wrap64 (x10 + 1))) else (some false)) else (none)) else (none)) else (impl_PairsValid.l0 k x0 x8 x9 (wrap64 (x10 + 1))))) (by simp only [impl_PairsValid.j1]) (fun k => by simp only [impl_PairsValid.j1]) ?_)
  repeat' first
    | (with_reducible exact LimIs.const _)
    | (with_reducible exact impl_PairsValid.l0L_is _ _ _ _)
    | (with_reducible refine LimIs.ite ?_ ?_)
    | (with_reducible refine LimIs.bind ?_ (fun _ => ?_))
theorem impl_PairsValid.fL_eq (l0 : List (S29)) : impl_PairsValid.fL l0 = if (l0.length : Int) > 48 then (some false) else (impl_PairsValid.l0L l0 l0 (l0.length : Int) 0) := by
  refine LimIs.unique (impl_PairsValid.fL_is l0) ?_
  unfold impl_PairsValid.f
  repeat' first
    | (with_reducible exact LimIs.const _)
    | (with_reducible exact impl_PairsValid.l0L_is _ _ _ _)
    | (with_reducible refine LimIs.ite ?_ ?_)
    | (with_reducible refine LimIs.bind ?_ (fun _ => ?_))
/-! ### impl_keysFrom -/
noncomputable def impl_keysFrom.fL (a0 : Int) : Option (Int) := Lim (fun k => impl_keysFrom.f k a0)
theorem impl_keysFrom.fL_is (a0 : Int) : LimIs (fun k => impl_keysFrom.f k a0) (impl_keysFrom.fL a0) := LimIs.of_mono (fun k r h => impl_keysFrom.mono a0 k r h)
theorem impl_keysFrom.fL_eq (a0 : Int) : impl_keysFrom.fL a0 = if a0 ≥ 4 then (some 1) else ((impl_keysFrom.fL (wrap64 (a0 + 1))).bind fun t241 => (some (wrap64 (1 + (wrap64 (26 * t241)))))) := by
  refine LimIs.unique (impl_keysFrom.fL_is a0) (LimIs.step (f := fun k => if a0 ≥ 4 then (some 1) else ((impl_keysFrom.f k (wrap64 (a0 + 1))).bind fun t241 => (some (wrap64 (1 + (wrap64 (26 * t241))))))) (by simp only [impl_keysFrom.f]) (fun k => by simp only [impl_keysFrom.f]) ?_)
  repeat' first
    | (with_reducible exact LimIs.const _)
    | (with_reducible exact impl_keysFrom.fL_is _)
    | (with_reducible refine LimIs.ite ?_ ?_)
    | (with_reducible refine LimIs.bind ?_ (fun _ => ?_))
/-! ### impl_rankBelow -/
noncomputable def impl_rankBelow.fL (a0 : ByteArray) (a1 : Int) : Option (Int) := Lim (fun k => impl_rankBelow.f k a0 a1)
theorem impl_rankBelow.fL_is (a0 : ByteArray) (a1 : Int) : LimIs (fun k => impl_rankBelow.f k a0 a1) (impl_rankBelow.fL a0 a1) := LimIs.of_mono (fun k r h => impl_rankBelow.mono a0 a1 k r h)
theorem impl_rankBelow.fL_eq (a0 : ByteArray) (a1 : Int) : impl_rankBelow.fL a0 a1 = if a0.toList = ([] : List UInt8) then (some 0) else (if 0 < (a0.size : Int) then ((impl_keysFrom.fL a1).bind fun t242 => (if 1 ≤ (a0.size : Int) then ((impl_rankBelow.fL (a0.extract 1 a0.size) (wrap64 (a1 + 1))).bind fun t243 => (some (wrap64 ((wrap64 (1 + (wrap64 ((((bt a0 0) - 97) % 256) * t242)))) + t243)))) else (none))) else (none)) := by
  refine LimIs.unique (impl_rankBelow.fL_is a0 a1) (LimIs.step (f := fun k => if a0.toList = ([] : List UInt8) then (some 0) else (if 0 < (a0.size : Int) then ((impl_keysFrom.f k a1).bind fun t242 => (if 1 ≤ (a0.size : Int) then ((impl_rankBelow.f k (a0.extract 1 a0.size) (wrap64 (a1 + 1))).bind fun t243 => (some (wrap64 ((wrap64 (1 + (wrap64 ((((bt a0 0) - 97) % 256) * t242)))) + t243)))) else (none))) else (none))) (by simp only [impl_rankBelow.f]) (fun k => by simp only [impl_rankBelow.f]) ?_)
  repeat' first
    | (with_reducible exact LimIs.const _)
    | (with_reducible exact impl_keysFrom.fL_is _)
    | (with_reducible exact impl_rankBelow.fL_is _ _)
    | (with_reducible refine LimIs.ite ?_ ?_)
    | (with_reducible refine LimIs.bind ?_ (fun _ => ?_))
/-! ### impl_KeyRank -/
noncomputable def impl_KeyRank.fL (a0 : ByteArray) : Option (Int) := Lim (fun k => impl_KeyRank.f k a0)
theorem impl_KeyRank.fL_is (a0 : ByteArray) : LimIs (fun k => impl_KeyRank.f k a0) (impl_KeyRank.fL a0) := LimIs.of_mono (fun k r h => impl_KeyRank.mono a0 k r h)
theorem impl_KeyRank.fL_eq (a0 : ByteArray) : impl_KeyRank.fL a0 = (impl_KeyValid.fL a0).bind fun t244 => (if t244 = true then ((impl_rankBelow.fL a0 1).bind fun t245 => (some (wrap64 (t245 - 1)))) else (some (-1))) := by
  refine LimIs.unique (impl_KeyRank.fL_is a0) ?_
  unfold impl_KeyRank.f
  repeat' first
    | (with_reducible exact LimIs.const _)
    | (with_reducible exact impl_KeyValid.fL_is _)
    | (with_reducible exact impl_rankBelow.fL_is _ _)
    | (with_reducible refine LimIs.ite ?_ ?_)
    | (with_reducible refine LimIs.bind ?_ (fun _ => ?_))
/-! ### impl_PairDigest -/
noncomputable def impl_PairDigest.fL (a0_0 : ByteArray) (a0_1 : Int) : Option (Int) := Lim (fun k => impl_PairDigest.f k a0_0 a0_1)
theorem impl_PairDigest.fL_is (a0_0 : ByteArray) (a0_1 : Int) : LimIs (fun k => impl_PairDigest.f k a0_0 a0_1) (impl_PairDigest.fL a0_0 a0_1) := LimIs.of_mono (fun k r h => impl_PairDigest.mono a0_0 a0_1 k r h)
theorem impl_PairDigest.fL_eq (a0_0 : ByteArray) (a0_1 : Int) : impl_PairDigest.fL a0_0 a0_1 = (impl_KeyValid.fL a0_0).bind fun t247 => (if t247 = true then ((impl_valueValid.f a0_1).bind fun t248 => (if t248 = true then ((impl_KeyRank.fL a0_0).bind fun t249 => (some (Int.tmod (wrap64 ((wrap64 ((wrap64 (1009 * t249)) + (wrap64 (7 * a0_1)))) + 3)) 99991))) else (some (-1)))) else (some (-1))) := by
  refine LimIs.unique (impl_PairDigest.fL_is a0_0 a0_1) ?_
  unfold impl_PairDigest.f
  repeat' first
    | (with_reducible exact LimIs.const _)
    | (with_reducible exact impl_KeyRank.fL_is _)
    | (with_reducible exact impl_KeyValid.fL_is _)
    | (with_reducible refine LimIs.ite ?_ ?_)
    | (with_reducible refine LimIs.bind ?_ (fun _ => ?_))
/-! ### impl_PairsDigest -/
noncomputable def impl_PairsDigest.l0L (x3 : Int) (x9 : List (S29)) (x10 : Int) (x11 : Int) : Option (Int) := Lim (fun k => impl_PairsDigest.l0 k x3 x9 x10 x11)
theorem impl_PairsDigest.l0L_is (x3 : Int) (x9 : List (S29)) (x10 : Int) (x11 : Int) : LimIs (fun k => impl_PairsDigest.l0 k x3 x9 x10 x11) (impl_PairsDigest.l0L x3 x9 x10 x11) := LimIs.of_mono (fun k r h => (impl_PairsDigest.mono_l k) x3 x9 x10 x11 r h)
noncomputable def impl_PairsDigest.fL (l0 : List (S29)) : Option (Int) := Lim (fun k => impl_PairsDigest.f k l0)
theorem impl_PairsDigest.fL_is (l0 : List (S29)) : LimIs (fun k => impl_PairsDigest.f k l0) (impl_PairsDigest.fL l0) := LimIs.of_mono (fun k r h => impl_PairsDigest.mono l0 k r h)
theorem impl_PairsDigest.l0L_eq (x3 : Int) (x9 : List (S29)) (x10 : Int) (x11 : Int) : impl_PairsDigest.l0L x3 x9 x10 x11 = if x11 < x10 then (if 0 ≤ x11 then (if x11 < (x9.length : Int) then ((impl_PairDigest.fL ((rd_T29 x9 x11).f0) ((rd_T29 x9 x11).f1)).bind fun t253 => (impl_PairsDigest.l0L (wrap64 (x3 + t253)) x9 x10 (wrap64 (x11 + 1)))) else (none)) else (none)) else (some (Int.tmod x3 99991)) := by
  refine LimIs.unique (impl_PairsDigest.l0L_is x3 x9 x10 x11) (LimIs.step (f := fun k => if x11 < x10 then (if 0 ≤ x11 then (if x11 < (x9.length : Int) then ((impl_PairDigest.f k ((rd_T29 x9 x11).f0) ((rd_T29 x9 x11).f1)).bind fun t253 => (impl_PairsDigest.l0 k (wrap64 (x3 + t253)) x9 x10 (wrap64 (x11 + 1)))) else (none)) else (none)) else (some (Int.tmod x3 99991))) (by simp only [impl_PairsDigest.l0]) (fun k => by simp only [impl_PairsDigest.l0]) ?_)
  repeat' first
    | (with_reducible exact LimIs.const _)
    | (with_reducible exact impl_PairDigest.fL_is _ _)
    | (with_reducible exact impl_PairsDigest.l0L_is _ _ _ _)
    | (with_reducible refine LimIs.ite ?_ ?_)
    | (with_reducible refine LimIs.bind ?_ (fun _ => ?_))
theorem impl_PairsDigest.fL_eq (l0 : List (S29)) : impl_PairsDigest.fL l0 = (impl_PairsValid.fL l0).bind fun t250 => (if t250 = true then (impl_PairsDigest.l0L 0 l0 (l0.length : Int) 0) else (some (-1))) := by
  refine LimIs.unique (impl_PairsDigest.fL_is l0) ?_
  unfold impl_PairsDigest.f
  repeat' first
    | (with_reducible exact LimIs.const _)
    | (with_reducible exact impl_PairsDigest.l0L_is _ _ _ _)
    | (with_reducible exact impl_PairsValid.fL_is _)
    | (with_reducible refine LimIs.ite ?_ ?_)
    | (with_reducible refine LimIs.bind ?_ (fun _ => ?_))
/-! ### impl_IntervalValid -/
noncomputable def impl_IntervalValid.fL (a0_0 : ByteArray) (a0_1 : ByteArray) : Option (Bool) := Lim (fun k => impl_IntervalValid.f k a0_0 a0_1)
theorem impl_IntervalValid.fL_is (a0_0 : ByteArray) (a0_1 : ByteArray) : LimIs (fun k => impl_IntervalValid.f k a0_0 a0_1) (impl_IntervalValid.fL a0_0 a0_1) := LimIs.of_mono (fun k r h => impl_IntervalValid.mono a0_0 a0_1 k r h)
theorem impl_IntervalValid.fL_eq (a0_0 : ByteArray) (a0_1 : ByteArray) : impl_IntervalValid.fL a0_0 a0_1 = if a0_0.toList = ([] : List UInt8) then (if a0_1.toList = ([] : List UInt8) then (some true) else ((impl_KeyValid.fL a0_1).bind fun t256 => (if t256 = true then ((impl_lowestKey.f a0_0 a0_1).bind fun t257 => (some (Op.bytesLess t257.toList a0_1.toList))) else (some false)))) else ((impl_KeyValid.fL a0_0).bind fun t258 => (if t258 = true then (if a0_1.toList = ([] : List UInt8) then (some true) else ((impl_KeyValid.fL a0_1).bind fun t259 => (if t259 = true then ((impl_lowestKey.f a0_0 a0_1).bind fun t260 => (some (Op.bytesLess t260.toList a0_1.toList))) else (some false)))) else (some false))) := by
  refine LimIs.unique (impl_IntervalValid.fL_is a0_0 a0_1) ?_
  unfold impl_IntervalValid.f
  repeat' first
    | (with_reducible exact LimIs.const _)
    | (with_reducible exact impl_KeyValid.fL_is _)
    | (with_reducible refine LimIs.ite ?_ ?_)
    | (with_reducible refine LimIs.bind ?_ (fun _ => ?_))
/-! ### impl_IntervalJoin -/
noncomputable def impl_IntervalJoin.fL (a0_0 : ByteArray) (a0_1 : ByteArray) (a1_0 : ByteArray) (a1_1 : ByteArray) : Option (ByteArray × ByteArray × Bool) := Lim (fun k => impl_IntervalJoin.f k a0_0 a0_1 a1_0 a1_1)
theorem impl_IntervalJoin.fL_is (a0_0 : ByteArray) (a0_1 : ByteArray) (a1_0 : ByteArray) (a1_1 : ByteArray) : LimIs (fun k => impl_IntervalJoin.f k a0_0 a0_1 a1_0 a1_1) (impl_IntervalJoin.fL a0_0 a0_1 a1_0 a1_1) := LimIs.of_mono (fun k r h => impl_IntervalJoin.mono a0_0 a0_1 a1_0 a1_1 k r h)
theorem impl_IntervalJoin.fL_eq (a0_0 : ByteArray) (a0_1 : ByteArray) (a1_0 : ByteArray) (a1_1 : ByteArray) : impl_IntervalJoin.fL a0_0 a0_1 a1_0 a1_1 = (impl_IntervalValid.fL a0_0 a0_1).bind fun t264 => (if t264 = true then ((impl_IntervalValid.fL a1_0 a1_1).bind fun t265 => (if t265 = true then (if a0_1.toList = ([] : List UInt8) then (some ((⟨#[]⟩ : ByteArray), (⟨#[]⟩ : ByteArray), false)) else (if a0_1.toList = a1_0.toList then (some (a0_0, a1_1, true)) else (some ((⟨#[]⟩ : ByteArray), (⟨#[]⟩ : ByteArray), false)))) else (some ((⟨#[]⟩ : ByteArray), (⟨#[]⟩ : ByteArray), false)))) else (some ((⟨#[]⟩ : ByteArray), (⟨#[]⟩ : ByteArray), false))) := by
  refine LimIs.unique (impl_IntervalJoin.fL_is a0_0 a0_1 a1_0 a1_1) ?_
  unfold impl_IntervalJoin.f
  repeat' first
    | (with_reducible exact LimIs.const _)
    | (with_reducible exact impl_IntervalValid.fL_is _ _)
    | (with_reducible refine LimIs.ite ?_ ?_)
    | (with_reducible refine LimIs.bind ?_ (fun _ => ?_))
/-! ### impl_PartitionValid -/
noncomputable def impl_PartitionValid.j0L (x0 : List (S83)) (x31 : Bool) : Option (Bool) := Lim (fun k => impl_PartitionValid.j0 k x0 x31)
theorem impl_PartitionValid.j0L_is (x0 : List (S83)) (x31 : Bool) : LimIs (fun k => impl_PartitionValid.j0 k x0 x31) (impl_PartitionValid.j0L x0 x31) := LimIs.of_mono (fun k r h => (impl_PartitionValid.mono_l k).1 x0 x31 r h)
noncomputable def impl_PartitionValid.l0L (x0 : List (S83)) (x32 : List (S83)) (x33 : Int) (x34 : Int) : Option (Bool) := Lim (fun k => impl_PartitionValid.l0 k x0 x32 x33 x34)
theorem impl_PartitionValid.l0L_is (x0 : List (S83)) (x32 : List (S83)) (x33 : Int) (x34 : Int) : LimIs (fun k => impl_PartitionValid.l0 k x0 x32 x33 x34) (impl_PartitionValid.l0L x0 x32 x33 x34) := LimIs.of_mono (fun k r h => (impl_PartitionValid.mono_l k).2 x0 x32 x33 x34 r h)
noncomputable def impl_PartitionValid.fL (l0 : List (S83)) : Option (Bool) := Lim (fun k => impl_PartitionValid.f k l0)
theorem impl_PartitionValid.fL_is (l0 : List (S83)) : LimIs (fun k => impl_PartitionValid.f k l0) (impl_PartitionValid.fL l0) := LimIs.of_mono (fun k r h => impl_PartitionValid.mono l0 k r h)
theorem impl_PartitionValid.j0L_eq (x0 : List (S83)) (x31 : Bool) : impl_PartitionValid.j0L x0 x31 = if x31 = true then (some false) else (impl_PartitionValid.l0L x0 x0 (x0.length : Int) 0) := by
  refine LimIs.unique (impl_PartitionValid.j0L_is x0 x31) (LimIs.step (f := fun k => if x31 = true then (some false) else (impl_PartitionValid.l0 k x0 x0 (x0.length : Int) 0)) (by simp only [impl_PartitionValid.j0]) (fun k => by simp only [impl_PartitionValid.j0]) ?_)
  repeat' first
    | (with_reducible exact LimIs.const _)
    | (with_reducible exact impl_PartitionValid.l0L_is _ _ _ _)
    | (with_reducible refine LimIs.ite ?_ ?_)
    | (with_reducible refine LimIs.bind ?_ (fun _ => ?_))
theorem impl_PartitionValid.l0L_eq (x0 : List (S83)) (x32 : List (S83)) (x33 : Int) (x34 : Int) : impl_PartitionValid.l0L x0 x32 x33 x34 = if x34 < x33 then (if 0 ≤ x34 then (if x34 < (x32.length : Int) then ((impl_IntervalValid.fL ((rd_T83 x32 x34).f0) ((rd_T83 x32 x34).f1)).bind fun t270 => (if t270 = true then (if x34 > 0 then (if 0 ≤ (wrap64 (x34 - 1)) then (if (wrap64 (x34 - 1)) < (x0.length : Int) then ((impl_IntervalJoin.fL ((rd_T83 x0 (wrap64 (x34 - 1))).f0) ((rd_T83 x0 (wrap64 (x34 - 1))).f1) ((rd_T83 x32 x34).f0) ((rd_T83 x32 x34).f1)).bind fun bt272 => (if bt272.2.2 = true then (impl_PartitionValid.l0L x0 x32 x33 (wrap64 (x34 + 1))) else (some false))) else (none)) else (none)) else (impl_PartitionValid.l0L x0 x32 x33 (wrap64 (x34 + 1)))) else (some false))) else (none)) else (none)) else (some true) := by
  refine LimIs.unique (impl_PartitionValid.l0L_is x0 x32 x33 x34) (LimIs.step (f := fun k => if x34 < x33 then (if 0 ≤ x34 then (if x34 < (x32.length : Int) then ((impl_IntervalValid.f k ((rd_T83 x32 x34).f0) ((rd_T83 x32 x34).f1)).bind fun t270 => (if t270 = true then (if x34 > 0 then (if 0 ≤ (wrap64 (x34 - 1)) then (if (wrap64 (x34 - 1)) < (x0.length : Int) then ((impl_IntervalJoin.f k ((rd_T83 x0 (wrap64 (x34 - 1))).f0) ((rd_T83 x0 (wrap64 (x34 - 1))).f1) ((rd_T83 x32 x34).f0) ((rd_T83 x32 x34).f1)).bind fun bt272 => (if bt272.2.2 = true then (impl_PartitionValid.l0 k x0 x32 x33 (wrap64 (x34 + 1))) else (some false))) else (none)) else (none)) else (impl_PartitionValid.l0 k x0 x32 x33 (wrap64 (x34 + 1)))) else (some false))) else (none)) else (none)) else (some true)) (by simp only [impl_PartitionValid.l0]) (fun k => by simp only [impl_PartitionValid.l0]) ?_)
  repeat' first
    | (with_reducible exact LimIs.const _)
    | (with_reducible exact impl_IntervalJoin.fL_is _ _ _ _)
    | (with_reducible exact impl_IntervalValid.fL_is _ _)
    | (with_reducible exact impl_PartitionValid.l0L_is _ _ _ _)
    | (with_reducible refine LimIs.ite ?_ ?_)
    | (with_reducible refine LimIs.bind ?_ (fun _ => ?_))
theorem impl_PartitionValid.fL_eq (l0 : List (S83)) : impl_PartitionValid.fL l0 = if (l0.length : Int) < 1 then (impl_PartitionValid.j0L l0 true) else (if (l0.length : Int) > 6 then (impl_PartitionValid.j0L l0 true) else (if 0 < (l0.length : Int) then (if ((rd_T83 l0 0).f0).toList = ([] : List UInt8) then (if 0 ≤ (wrap64 ((l0.length : Int) - 1)) then (if (wrap64 ((l0.length : Int) - 1)) < (l0.length : Int) then (impl_PartitionValid.j0L l0 (((rd_T83 l0 (wrap64 ((l0.length : Int) - 1))).f1).toList != ([] : List UInt8))) else (none)) else (none)) else (impl_PartitionValid.j0L l0 true)) else (none))) := by
  refine LimIs.unique (impl_PartitionValid.fL_is l0) ?_
  unfold impl_PartitionValid.f
  repeat' first
    | (with_reducible exact LimIs.const _)
    | (with_reducible exact impl_PartitionValid.j0L_is _ _)
    | (with_reducible refine LimIs.ite ?_ ?_)
    | (with_reducible refine LimIs.bind ?_ (fun _ => ?_))
/-! ### impl_Pair_string -/
noncomputable def impl_Pair_string.l0L (x0 : List (S29)) (x1 : ByteArray) (x8 : Int) (x9 : Int) (x10 : Int) : Option (Int × Bool) := Lim (fun k => impl_Pair_string.l0 k x0 x1 x8 x9 x10)
theorem impl_Pair_string.l0L_is (x0 : List (S29)) (x1 : ByteArray) (x8 : Int) (x9 : Int) (x10 : Int) : LimIs (fun k => impl_Pair_string.l0 k x0 x1 x8 x9 x10) (impl_Pair_string.l0L x0 x1 x8 x9 x10) := LimIs.of_mono (fun k r h => (impl_Pair_string.mono_l k) x0 x1 x8 x9 x10 r h)
noncomputable def impl_Pair_string.fL (l0 : List (S29)) (a1 : ByteArray) (a2 : Unit) : Option (Int × Bool) := Lim (fun k => impl_Pair_string.f k l0 a1 a2)
theorem impl_Pair_string.fL_is (l0 : List (S29)) (a1 : ByteArray) (a2 : Unit) : LimIs (fun k => impl_Pair_string.f k l0 a1 a2) (impl_Pair_string.fL l0 a1 a2) := LimIs.of_mono (fun k r h => impl_Pair_string.mono l0 a1 a2 k r h)
theorem impl_Pair_string.l0L_eq (x0 : List (S29)) (x1 : ByteArray) (x8 : Int) (x9 : Int) (x10 : Int) : impl_Pair_string.l0L x0 x1 x8 x9 x10 = if x9 < x10 then (if 0 ≤ (wrap64 ((IntKind.u64.wrap (wrap64 (x9 + x10))) / 2)) then (if (wrap64 ((IntKind.u64.wrap (wrap64 (x9 + x10))) / 2)) < (x0.length : Int) then ((impl_pairPlace_1.f ((rd_T29 x0 (wrap64 ((IntKind.u64.wrap (wrap64 (x9 + x10))) / 2))).f0) ((rd_T29 x0 (wrap64 ((IntKind.u64.wrap (wrap64 (x9 + x10))) / 2))).f1) x1).bind fun t284 => (if t284 < 0 then (impl_Pair_string.l0L x0 x1 x8 (wrap64 ((wrap64 ((IntKind.u64.wrap (wrap64 (x9 + x10))) / 2)) + 1)) x10) else (impl_Pair_string.l0L x0 x1 x8 x9 (wrap64 ((IntKind.u64.wrap (wrap64 (x9 + x10))) / 2))))) else (none)) else (none)) else (if x9 < x8 then (if 0 ≤ x9 then (if x9 < (x0.length : Int) then ((impl_pairPlace_1.f ((rd_T29 x0 x9).f0) ((rd_T29 x0 x9).f1) x1).bind fun t286 => (some (x9, (t286 == 0)))) else (none)) else (none)) else (some (x9, false))) := by
  refine LimIs.unique (impl_Pair_string.l0L_is x0 x1 x8 x9 x10) (LimIs.step (f := fun k => if x9 < x10 then (if 0 ≤ (wrap64 ((IntKind.u64.wrap (wrap64 (x9 + x10))) / 2)) then (if (wrap64 ((IntKind.u64.wrap (wrap64 (x9 + x10))) / 2)) < (x0.length : Int) then ((impl_pairPlace_1.f ((rd_T29 x0 (wrap64 ((IntKind.u64.wrap (wrap64 (x9 + x10))) / 2))).f0) ((rd_T29 x0 (wrap64 ((IntKind.u64.wrap (wrap64 (x9 + x10))) / 2))).f1) x1).bind fun t284 => (if t284 < 0 then (impl_Pair_string.l0 k x0 x1 x8 (wrap64 ((wrap64 ((IntKind.u64.wrap (wrap64 (x9 + x10))) / 2)) + 1)) x10) else (impl_Pair_string.l0 k x0 x1 x8 x9 (wrap64 ((IntKind.u64.wrap (wrap64 (x9 + x10))) / 2))))) else (none)) else (none)) else (if x9 < x8 then (if 0 ≤ x9 then (if x9 < (x0.length : Int) then ((impl_pairPlace_1.f ((rd_T29 x0 x9).f0) ((rd_T29 x0 x9).f1) x1).bind fun t286 => (some (x9, (t286 == 0)))) else (none)) else (none)) else (some (x9, false)))) (by simp only [impl_Pair_string.l0]) (fun k => by simp only [impl_Pair_string.l0]) ?_)
  repeat' first
    | (with_reducible exact LimIs.const _)
    | (with_reducible exact impl_Pair_string.l0L_is _ _ _ _ _)
    | (with_reducible refine LimIs.ite ?_ ?_)
    | (with_reducible refine LimIs.bind ?_ (fun _ => ?_))
theorem impl_Pair_string.fL_eq (l0 : List (S29)) (a1 : ByteArray) (a2 : Unit) : impl_Pair_string.fL l0 a1 a2 = impl_Pair_string.l0L l0 a1 (l0.length : Int) 0 (l0.length : Int) := by
  refine LimIs.unique (impl_Pair_string.fL_is l0 a1 a2) ?_
  unfold impl_Pair_string.f
  repeat' first
    | (with_reducible exact LimIs.const _)
    | (with_reducible exact impl_Pair_string.l0L_is _ _ _ _ _)
    | (with_reducible refine LimIs.ite ?_ ?_)
    | (with_reducible refine LimIs.bind ?_ (fun _ => ?_))
/-! ### impl_pairPlace -/
noncomputable def impl_pairPlace.fL (l0 : List (S29)) (a1 : ByteArray) : Option (Int × Bool) := Lim (fun k => impl_pairPlace.f k l0 a1)
theorem impl_pairPlace.fL_is (l0 : List (S29)) (a1 : ByteArray) : LimIs (fun k => impl_pairPlace.f k l0 a1) (impl_pairPlace.fL l0 a1) := LimIs.of_mono (fun k r h => impl_pairPlace.mono l0 a1 k r h)
theorem impl_pairPlace.fL_eq (l0 : List (S29)) (a1 : ByteArray) : impl_pairPlace.fL l0 a1 = (impl_Pair_string.fL l0 a1 ()).bind fun bt287 => (some (bt287.1, bt287.2)) := by
  refine LimIs.unique (impl_pairPlace.fL_is l0 a1) ?_
  unfold impl_pairPlace.f
  repeat' first
    | (with_reducible exact LimIs.const _)
    | (with_reducible exact impl_Pair_string.fL_is _ _ _)
    | (with_reducible refine LimIs.ite ?_ ?_)
    | (with_reducible refine LimIs.bind ?_ (fun _ => ?_))
/-! ### impl_PairsIn -/
noncomputable def impl_PairsIn.j0L (x0 : List (S29)) (x15 : Bool) (x290000 : ByteArray) (x290001 : ByteArray) : Option ((List (S29))) := Lim (fun k => impl_PairsIn.j0 k x0 x15 x290000 x290001)
theorem impl_PairsIn.j0L_is (x0 : List (S29)) (x15 : Bool) (x290000 : ByteArray) (x290001 : ByteArray) : LimIs (fun k => impl_PairsIn.j0 k x0 x15 x290000 x290001) (impl_PairsIn.j0L x0 x15 x290000 x290001) := LimIs.of_mono (fun k r h => (impl_PairsIn.mono_l k) x0 x15 x290000 x290001 r h)
noncomputable def impl_PairsIn.fL (l0 : List (S29)) (a1_0 : ByteArray) (a1_1 : ByteArray) : Option ((List (S29))) := Lim (fun k => impl_PairsIn.f k l0 a1_0 a1_1)
theorem impl_PairsIn.fL_is (l0 : List (S29)) (a1_0 : ByteArray) (a1_1 : ByteArray) : LimIs (fun k => impl_PairsIn.f k l0 a1_0 a1_1) (impl_PairsIn.fL l0 a1_0 a1_1) := LimIs.of_mono (fun k r h => impl_PairsIn.mono l0 a1_0 a1_1 k r h)
theorem impl_PairsIn.j0L_eq (x0 : List (S29)) (x15 : Bool) (x290000 : ByteArray) (x290001 : ByteArray) : impl_PairsIn.j0L x0 x15 x290000 x290001 = if x15 = true then (some ([] : List (S29))) else ((impl_pairPlace.fL x0 x290000).bind fun bt292 => (if x290001.toList = ([] : List UInt8) then (if 0 ≤ bt292.1 then (if bt292.1 ≤ (x0.length : Int) then (if (x0.length : Int) ≤ (x0.length : Int) then ((impl_Pair.f ((x0.take ((x0.length : Int) : Int).toNat).drop (bt292.1 : Int).toNat)).bind fun t298 => (some t298)) else (none)) else (none)) else (none)) else ((impl_pairPlace.fL x0 x290001).bind fun bt301 => (if 0 ≤ bt292.1 then (if bt292.1 ≤ bt301.1 then (if bt301.1 ≤ (x0.length : Int) then ((impl_Pair.f ((x0.take (bt301.1 : Int).toNat).drop (bt292.1 : Int).toNat)).bind fun t307 => (some t307)) else (none)) else (none)) else (none))))) := by
  refine LimIs.unique (impl_PairsIn.j0L_is x0 x15 x290000 x290001) (LimIs.step (f := fun k => if x15 = true then (some ([] : List (S29))) else ((impl_pairPlace.f k x0 x290000).bind fun bt292 => (if x290001.toList = ([] : List UInt8) then (if 0 ≤ bt292.1 then (if bt292.1 ≤ (x0.length : Int) then (if (x0.length : Int) ≤ (x0.length : Int) then ((impl_Pair.f ((x0.take ((x0.length : Int) : Int).toNat).drop (bt292.1 : Int).toNat)).bind fun t298 => (some t298)) else (none)) else (none)) else (none)) else ((impl_pairPlace.f k x0 x290001).bind fun bt301 => (if 0 ≤ bt292.1 then (if bt292.1 ≤ bt301.1 then (if bt301.1 ≤ (x0.length : Int) then ((impl_Pair.f ((x0.take (bt301.1 : Int).toNat).drop (bt292.1 : Int).toNat)).bind fun t307 => (some t307)) else (none)) else (none)) else (none)))))) (by simp only [impl_PairsIn.j0]) (fun k => by simp only [impl_PairsIn.j0]) ?_)
  repeat' first
    | (with_reducible exact LimIs.const _)
    | (with_reducible exact impl_pairPlace.fL_is _ _)
    | (with_reducible refine LimIs.ite ?_ ?_)
    | (with_reducible refine LimIs.bind ?_ (fun _ => ?_))
theorem impl_PairsIn.fL_eq (l0 : List (S29)) (a1_0 : ByteArray) (a1_1 : ByteArray) : impl_PairsIn.fL l0 a1_0 a1_1 = (impl_PairsValid.fL l0).bind fun t290 => (if t290 = true then ((impl_IntervalValid.fL a1_0 a1_1).bind fun t291 => (impl_PairsIn.j0L l0 (!t291) a1_0 a1_1)) else (impl_PairsIn.j0L l0 true a1_0 a1_1)) := by
  refine LimIs.unique (impl_PairsIn.fL_is l0 a1_0 a1_1) ?_
  unfold impl_PairsIn.f
  repeat' first
    | (with_reducible exact LimIs.const _)
    | (with_reducible exact impl_IntervalValid.fL_is _ _)
    | (with_reducible exact impl_PairsIn.j0L_is _ _ _ _)
    | (with_reducible exact impl_PairsValid.fL_is _)
    | (with_reducible refine LimIs.ite ?_ ?_)
    | (with_reducible refine LimIs.bind ?_ (fun _ => ?_))
/-! ### impl_PartDigests -/
noncomputable def impl_PartDigests.j0L (x0 : List (S29)) (x1 : List (S83)) (x15 : Bool) : Option (List Int) := Lim (fun k => impl_PartDigests.j0 k x0 x1 x15)
theorem impl_PartDigests.j0L_is (x0 : List (S29)) (x1 : List (S83)) (x15 : Bool) : LimIs (fun k => impl_PartDigests.j0 k x0 x1 x15) (impl_PartDigests.j0L x0 x1 x15) := LimIs.of_mono (fun k r h => (impl_PartDigests.mono_l k).1 x0 x1 x15 r h)
noncomputable def impl_PartDigests.l0L (x0 : List (S29)) (x5 : List Int) (x16 : List (S83)) (x17 : Int) (x18 : Int) : Option (List Int) := Lim (fun k => impl_PartDigests.l0 k x0 x5 x16 x17 x18)
theorem impl_PartDigests.l0L_is (x0 : List (S29)) (x5 : List Int) (x16 : List (S83)) (x17 : Int) (x18 : Int) : LimIs (fun k => impl_PartDigests.l0 k x0 x5 x16 x17 x18) (impl_PartDigests.l0L x0 x5 x16 x17 x18) := LimIs.of_mono (fun k r h => (impl_PartDigests.mono_l k).2 x0 x5 x16 x17 x18 r h)
noncomputable def impl_PartDigests.fL (l0 : List (S29)) (l1 : List (S83)) : Option (List Int) := Lim (fun k => impl_PartDigests.f k l0 l1)
theorem impl_PartDigests.fL_is (l0 : List (S29)) (l1 : List (S83)) : LimIs (fun k => impl_PartDigests.f k l0 l1) (impl_PartDigests.fL l0 l1) := LimIs.of_mono (fun k r h => impl_PartDigests.mono l0 l1 k r h)
theorem impl_PartDigests.j0L_eq (x0 : List (S29)) (x1 : List (S83)) (x15 : Bool) : impl_PartDigests.j0L x0 x1 x15 = if x15 = true then (some ([] : List Int)) else (impl_PartDigests.l0L x0 ([] : List Int) x1 (x1.length : Int) 0) := by
  refine LimIs.unique (impl_PartDigests.j0L_is x0 x1 x15) (LimIs.step (f := fun k => if x15 = true then (some ([] : List Int)) else (impl_PartDigests.l0 k x0 ([] : List Int) x1 (x1.length : Int) 0)) (by simp only [impl_PartDigests.j0]) (fun k => by simp only [impl_PartDigests.j0]) ?_)
  repeat' first
    | (with_reducible exact LimIs.const _)
    | (with_reducible exact impl_PartDigests.l0L_is _ _ _ _ _)
    | (with_reducible refine LimIs.ite ?_ ?_)
    | (with_reducible refine LimIs.bind ?_ (fun _ => ?_))
theorem impl_PartDigests.l0L_eq (x0 : List (S29)) (x5 : List Int) (x16 : List (S83)) (x17 : Int) (x18 : Int) : impl_PartDigests.l0L x0 x5 x16 x17 x18 = if x18 < x17 then (if 0 ≤ x18 then (if x18 < (x16.length : Int) then ((impl_PairsIn.fL x0 ((rd_T83 x16 x18).f0) ((rd_T83 x16 x18).f1)).bind fun t314 => ((impl_PairsDigest.fL t314).bind fun t317 => (if x5.length < 17592186044416 then (impl_PartDigests.l0L x0 (x5 ++ [t317]) x16 x17 (wrap64 (x18 + 1))) else (none)))) else (none)) else (none)) else (some x5) := by
  refine LimIs.unique (impl_PartDigests.l0L_is x0 x5 x16 x17 x18) (LimIs.step (f := fun k => if x18 < x17 then (if 0 ≤ x18 then (if x18 < (x16.length : Int) then ((impl_PairsIn.f k x0 ((rd_T83 x16 x18).f0) ((rd_T83 x16 x18).f1)).bind fun t314 => ((impl_PairsDigest.f k t314).bind fun t317 => (if x5.length < 17592186044416 then (impl_PartDigests.l0 k x0 (x5 ++ [t317]) x16 x17 (wrap64 (x18 + 1))) else (none)))) else (none)) else (none)) else (some x5)) (by simp only [impl_PartDigests.l0]) (fun k => by simp only [impl_PartDigests.l0]) ?_)
  repeat' first
    | (with_reducible exact LimIs.const _)
    | (with_reducible exact impl_PairsDigest.fL_is _)
    | (with_reducible exact impl_PairsIn.fL_is _ _ _)
    | (with_reducible exact impl_PartDigests.l0L_is _ _ _ _ _)
    | (with_reducible refine LimIs.ite ?_ ?_)
    | (with_reducible refine LimIs.bind ?_ (fun _ => ?_))
theorem impl_PartDigests.fL_eq (l0 : List (S29)) (l1 : List (S83)) : impl_PartDigests.fL l0 l1 = (impl_PairsValid.fL l0).bind fun t310 => (if t310 = true then ((impl_PartitionValid.fL l1).bind fun t311 => (impl_PartDigests.j0L l0 l1 (!t311))) else (impl_PartDigests.j0L l0 l1 true)) := by
  refine LimIs.unique (impl_PartDigests.fL_is l0 l1) ?_
  unfold impl_PartDigests.f
  repeat' first
    | (with_reducible exact LimIs.const _)
    | (with_reducible exact impl_PairsValid.fL_is _)
    | (with_reducible exact impl_PartDigests.j0L_is _ _ _)
    | (with_reducible exact impl_PartitionValid.fL_is _)
    | (with_reducible refine LimIs.ite ?_ ?_)
    | (with_reducible refine LimIs.bind ?_ (fun _ => ?_))
/-! ### impl_DiffParts -/
noncomputable def impl_DiffParts.j0L (x0 : List (S29)) (x1 : List (S29)) (x2 : List (S83)) (x23 : Bool) : Option (List Int) := Lim (fun k => impl_DiffParts.j0 k x0 x1 x2 x23)
theorem impl_DiffParts.j0L_is (x0 : List (S29)) (x1 : List (S29)) (x2 : List (S83)) (x23 : Bool) : LimIs (fun k => impl_DiffParts.j0 k x0 x1 x2 x23) (impl_DiffParts.j0L x0 x1 x2 x23) := LimIs.of_mono (fun k r h => (impl_DiffParts.mono_l k).1 x0 x1 x2 x23 r h)
noncomputable def impl_DiffParts.l0L (x7 : List Int) (x8 : List Int) (x9 : List Int) (x31 : Int) (x32 : Int) : Option (List Int) := Lim (fun k => impl_DiffParts.l0 k x7 x8 x9 x31 x32)
theorem impl_DiffParts.l0L_is (x7 : List Int) (x8 : List Int) (x9 : List Int) (x31 : Int) (x32 : Int) : LimIs (fun k => impl_DiffParts.l0 k x7 x8 x9 x31 x32) (impl_DiffParts.l0L x7 x8 x9 x31 x32) := LimIs.of_mono (fun k r h => (impl_DiffParts.mono_l k).2 x7 x8 x9 x31 x32 r h)
noncomputable def impl_DiffParts.fL (l0 : List (S29)) (l1 : List (S29)) (l2 : List (S83)) : Option (List Int) := Lim (fun k => impl_DiffParts.f k l0 l1 l2)
theorem impl_DiffParts.fL_is (l0 : List (S29)) (l1 : List (S29)) (l2 : List (S83)) : LimIs (fun k => impl_DiffParts.f k l0 l1 l2) (impl_DiffParts.fL l0 l1 l2) := LimIs.of_mono (fun k r h => impl_DiffParts.mono l0 l1 l2 k r h)
theorem impl_DiffParts.j0L_eq (x0 : List (S29)) (x1 : List (S29)) (x2 : List (S83)) (x23 : Bool) : impl_DiffParts.j0L x0 x1 x2 x23 = if x23 = true then (some ([] : List Int)) else ((impl_PartDigests.fL x0 x2).bind fun t324 => ((impl_PartDigests.fL x1 x2).bind fun t327 => (impl_DiffParts.l0L t324 t327 ([] : List Int) (x2.length : Int) 0))) := by
  refine LimIs.unique (impl_DiffParts.j0L_is x0 x1 x2 x23) (LimIs.step (f := fun k => if x23 = true then (some ([] : List Int)) else ((impl_PartDigests.f k x0 x2).bind fun t324 => ((impl_PartDigests.f k x1 x2).bind fun t327 => (impl_DiffParts.l0 k t324 t327 ([] : List Int) (x2.length : Int) 0)))) (by simp only [impl_DiffParts.j0]) (fun k => by simp only [impl_DiffParts.j0]) ?_)
  repeat' first
    | (with_reducible exact LimIs.const _)
    | (with_reducible exact impl_DiffParts.l0L_is _ _ _ _ _)
    | (with_reducible exact impl_PartDigests.fL_is _ _)
    | (with_reducible refine LimIs.ite ?_ ?_)
    | (with_reducible refine LimIs.bind ?_ (fun _ => ?_))
theorem impl_DiffParts.l0L_eq (x7 : List Int) (x8 : List Int) (x9 : List Int) (x31 : Int) (x32 : Int) : impl_DiffParts.l0L x7 x8 x9 x31 x32 = if x32 < x31 then (if 0 ≤ x32 then (if x32 < (x7.length : Int) then (if x32 < (x8.length : Int) then (if (rd x7 x32) = (rd x8 x32) then (impl_DiffParts.l0L x7 x8 x9 x31 (wrap64 (x32 + 1))) else (if x9.length < 17592186044416 then (impl_DiffParts.l0L x7 x8 (x9 ++ [x32]) x31 (wrap64 (x32 + 1))) else (none))) else (none)) else (none)) else (none)) else (some x9) := by
  refine LimIs.unique (impl_DiffParts.l0L_is x7 x8 x9 x31 x32) (LimIs.step (f := fun k => if x32 < x31 then (if 0 ≤ x32 then (if x32 < (x7.length : Int) then (if x32 < (x8.length : Int) then (if (rd x7 x32) = (rd x8 x32) then (impl_DiffParts.l0 k x7 x8 x9 x31 (wrap64 (x32 + 1))) else (if x9.length < 17592186044416 then (impl_DiffParts.l0 k x7 x8 (x9 ++ [x32]) x31 (wrap64 (x32 + 1))) else (none))) else (none)) else (none)) else (none)) else (some x9)) (by simp only [impl_DiffParts.l0]) (fun k => by simp only [impl_DiffParts.l0]) ?_)
  repeat' first
    | (with_reducible exact LimIs.const _)
    | (with_reducible exact impl_DiffParts.l0L_is _ _ _ _ _)
    | (with_reducible refine LimIs.ite ?_ ?_)
    | (with_reducible refine LimIs.bind ?_ (fun _ => ?_))
theorem impl_DiffParts.fL_eq (l0 : List (S29)) (l1 : List (S29)) (l2 : List (S83)) : impl_DiffParts.fL l0 l1 l2 = (impl_PairsValid.fL l0).bind fun t321 => (if t321 = true then ((impl_PairsValid.fL l1).bind fun t322 => (if t322 = true then ((impl_PartitionValid.fL l2).bind fun t323 => (impl_DiffParts.j0L l0 l1 l2 (!t323))) else (impl_DiffParts.j0L l0 l1 l2 true))) else (impl_DiffParts.j0L l0 l1 l2 true)) := by
  refine LimIs.unique (impl_DiffParts.fL_is l0 l1 l2) ?_
  unfold impl_DiffParts.f
  repeat' first
    | (with_reducible exact LimIs.const _)
    | (with_reducible exact impl_DiffParts.j0L_is _ _ _ _)
    | (with_reducible exact impl_PairsValid.fL_is _)
    | (with_reducible exact impl_PartitionValid.fL_is _)
    | (with_reducible refine LimIs.ite ?_ ?_)
    | (with_reducible refine LimIs.bind ?_ (fun _ => ?_))
/-! ### laws_FnExactDiffParts -/
noncomputable def laws_FnExactDiffParts.j0L (x0 : List (S104)) (x1 : List (S104)) (x2 : List (S121)) (x8 : List Int) (x12 : List Int) (x84 : Bool) : Option (Bool) := Lim (fun k => laws_FnExactDiffParts.j0 k x0 x1 x2 x8 x12 x84)
theorem laws_FnExactDiffParts.j0L_is (x0 : List (S104)) (x1 : List (S104)) (x2 : List (S121)) (x8 : List Int) (x12 : List Int) (x84 : Bool) : LimIs (fun k => laws_FnExactDiffParts.j0 k x0 x1 x2 x8 x12 x84) (laws_FnExactDiffParts.j0L x0 x1 x2 x8 x12 x84) := LimIs.of_mono (fun k r h => (laws_FnExactDiffParts.mono_l k) x0 x1 x2 x8 x12 x84 r h)
noncomputable def laws_FnExactDiffParts.fL (l0 : List (S104)) (l1 : List (S104)) (l2 : List (S121)) : Option (Bool) := Lim (fun k => laws_FnExactDiffParts.f k l0 l1 l2)
theorem laws_FnExactDiffParts.fL_is (l0 : List (S104)) (l1 : List (S104)) (l2 : List (S121)) : LimIs (fun k => laws_FnExactDiffParts.f k l0 l1 l2) (laws_FnExactDiffParts.fL l0 l1 l2) := LimIs.of_mono (fun k r h => laws_FnExactDiffParts.mono l0 l1 l2 k r h)
theorem laws_FnExactDiffParts.j0L_eq (x0 : List (S104)) (x1 : List (S104)) (x2 : List (S121)) (x8 : List Int) (x12 : List Int) (x84 : Bool) : laws_FnExactDiffParts.j0L x0 x1 x2 x8 x12 x84 = if x84 = true then (some false) else ((laws_markIntS.fL x12 1).bind fun bt382 => ((laws_heldIntS.fL bt382.2 1).bind fun t384 => (if t384 < 0 then (some false) else (if t384 = bt382.1 then ((laws_toPairS.fL x0).bind fun t385 => ((laws_toPairS.fL x1).bind fun t388 => ((laws_toIntervalS.fL x2).bind fun t391 => ((impl_DiffParts.fL t385 t388 t391).bind fun t394 => ((laws_eqIntS.fL t394 x8).bind fun t397 => (if t397 = true then ((laws_heldIntS.fL bt382.2 1).bind fun t398 => (if t398 < 0 then (some false) else (if t398 = bt382.1 then (some true) else (some false)))) else (some false))))))) else (some false))))) := by
  refine LimIs.unique (laws_FnExactDiffParts.j0L_is x0 x1 x2 x8 x12 x84) (LimIs.step (f := fun k => if x84 = true then (some false) else ((laws_markIntS.f k x12 1).bind fun bt382 => ((laws_heldIntS.f k bt382.2 1).bind fun t384 => (if t384 < 0 then (some false) else (if t384 = bt382.1 then ((laws_toPairS.f k x0).bind fun t385 => ((laws_toPairS.f k x1).bind fun t388 => ((laws_toIntervalS.f k x2).bind fun t391 => ((impl_DiffParts.f k t385 t388 t391).bind fun t394 => ((laws_eqIntS.f k t394 x8).bind fun t397 => (if t397 = true then ((laws_heldIntS.f k bt382.2 1).bind fun t398 => (if t398 < 0 then (some false) else (if t398 = bt382.1 then (some true) else (some false)))) else (some false))))))) else (some false)))))) (by simp only [laws_FnExactDiffParts.j0]) (fun k => by simp only [laws_FnExactDiffParts.j0]) ?_)
  repeat' first
    | (with_reducible exact LimIs.const _)
    | (with_reducible exact impl_DiffParts.fL_is _ _ _)
    | (with_reducible exact laws_eqIntS.fL_is _ _)
    | (with_reducible exact laws_heldIntS.fL_is _ _)
    | (with_reducible exact laws_markIntS.fL_is _ _)
    | (with_reducible exact laws_toIntervalS.fL_is _)
    | (with_reducible exact laws_toPairS.fL_is _)
    | (with_reducible refine LimIs.ite ?_ ?_)
    | (with_reducible refine LimIs.bind ?_ (fun _ => ?_))
theorem laws_FnExactDiffParts.fL_eq (l0 : List (S104)) (l1 : List (S104)) (l2 : List (S121)) : laws_FnExactDiffParts.fL l0 l1 l2 = (laws_szPairS.fL l0 1048576).bind fun t335 => (if t335 < 0 then (some true) else ((laws_szPairS.fL l1 t335).bind fun t336 => (if t336 < 0 then (some true) else ((laws_szIntervalS.fL l2 t336).bind fun t337 => (if t337 < 0 then (some true) else ((laws_toPairS.fL l0).bind fun t338 => ((laws_toPairS.fL l1).bind fun t341 => ((laws_toIntervalS.fL l2).bind fun t344 => ((spec_DiffParts.fL t338 t341 t344).bind fun t347 => ((laws_toPairS.fL l0).bind fun t350 => ((laws_toPairS.fL l1).bind fun t353 => ((laws_toIntervalS.fL l2).bind fun t356 => ((impl_DiffParts.fL t350 t353 t356).bind fun t359 => ((laws_eqIntS.fL t359 t347).bind fun t362 => (if t362 = true then ((laws_toPairS.fL l0).bind fun t363 => ((laws_eqPairS.fL t350 t363).bind fun t366 => (if t366 = true then ((laws_toPairS.fL l1).bind fun t367 => ((laws_eqPairS.fL t353 t367).bind fun t370 => (if t370 = true then ((laws_toIntervalS.fL l2).bind fun t371 => ((laws_eqIntervalS.fL t356 t371).bind fun t374 => (if t374 = true then ((laws_markPairS.fL t350 1).bind fun bt375 => ((laws_markPairS.fL t353 bt375.1).bind fun bt377 => ((laws_markIntervalS.fL t356 bt377.1).bind fun bt379 => (if bt379.1 < 0 then (laws_FnExactDiffParts.j0L l0 l1 l2 t347 t359 true) else ((laws_eqIntS.fL t359 t347).bind fun t381 => (laws_FnExactDiffParts.j0L l0 l1 l2 t347 t359 (!t381))))))) else (some false)))) else (some false)))) else (some false)))) else (some false)))))))))))))))) := by
  refine LimIs.unique (laws_FnExactDiffParts.fL_is l0 l1 l2) ?_
  unfold laws_FnExactDiffParts.f
  repeat' first
    | (with_reducible exact LimIs.const _)
    | (with_reducible exact impl_DiffParts.fL_is _ _ _)
    | (with_reducible exact laws_FnExactDiffParts.j0L_is _ _ _ _ _ _)
    | (with_reducible exact laws_eqIntS.fL_is _ _)
    | (with_reducible exact laws_eqIntervalS.fL_is _ _)
    | (with_reducible exact laws_eqPairS.fL_is _ _)
    | (with_reducible exact laws_markIntervalS.fL_is _ _)
    | (with_reducible exact laws_markPairS.fL_is _ _)
    | (with_reducible exact laws_szIntervalS.fL_is _ _)
    | (with_reducible exact laws_szPairS.fL_is _ _)
    | (with_reducible exact laws_toIntervalS.fL_is _)
    | (with_reducible exact laws_toPairS.fL_is _)
    | (with_reducible exact spec_DiffParts.fL_is _ _ _)
    | (with_reducible refine LimIs.ite ?_ ?_)
    | (with_reducible refine LimIs.bind ?_ (fun _ => ?_))
end Go.Proofs.Ytfeeifefmenlmaa.PFnExactDiffParts
