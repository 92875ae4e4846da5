/- The limits of the printed functions, and their equations. Written by lim.py out of the print. No condition. -/
import Derived.Test.YtfeeifefmenlmaaOFnExactApplyFeed
import Derived.Test.YtfeeifefmenlmaaLim
namespace Go.Proofs.Ytfeeifefmenlmaa.PFnExactApplyFeed
open Go.RowKit Go.Proofs.YtfeeifefmenlmaaW.PrintWords Go.Proofs.YtfeeifefmenlmaaW.PrintLast Go.Proofs.YtfeeifefmenlmaaW.PrintMore Go.Proofs.Ytfeeifefmenlmaa.Lim
set_option linter.unusedVariables false

/-! ### laws_szPairS -/
noncomputable def laws_szPairS.l0L (x0 : List (S104)) (x1 : Int) (x5 : Int) : Option (Int) := Lim (fun k => laws_szPairS.l0 k x0 x1 x5)
theorem laws_szPairS.l0L_is (x0 : List (S104)) (x1 : Int) (x5 : Int) : LimIs (fun k => laws_szPairS.l0 k x0 x1 x5) (laws_szPairS.l0L x0 x1 x5) := LimIs.of_mono (fun k r h => (laws_szPairS.mono_l k) x0 x1 x5 r h)
noncomputable def laws_szPairS.fL (l0 : List (S104)) (a1 : Int) : Option (Int) := Lim (fun k => laws_szPairS.f k l0 a1)
theorem laws_szPairS.fL_is (l0 : List (S104)) (a1 : Int) : LimIs (fun k => laws_szPairS.f k l0 a1) (laws_szPairS.fL l0 a1) := LimIs.of_mono (fun k r h => laws_szPairS.mono l0 a1 k r h)
theorem laws_szPairS.l0L_eq (x0 : List (S104)) (x1 : Int) (x5 : Int) : laws_szPairS.l0L x0 x1 x5 = if x5 < (x0.length : Int) then (if 0 ≤ x5 then ((laws_szPair.f ((rd_T104 x0 x5).f0) ((rd_T104 x0 x5).f1) x1).bind fun t103 => (if t103 < 0 then (some (-1)) else (laws_szPairS.l0L x0 t103 (wrap64 (x5 + 1))))) else (none)) else (some x1) := by
  refine LimIs.unique (laws_szPairS.l0L_is x0 x1 x5) (LimIs.step (f := fun k => if x5 < (x0.length : Int) then (if 0 ≤ x5 then ((laws_szPair.f ((rd_T104 x0 x5).f0) ((rd_T104 x0 x5).f1) x1).bind fun t103 => (if t103 < 0 then (some (-1)) else (laws_szPairS.l0 k x0 t103 (wrap64 (x5 + 1))))) else (none)) else (some x1)) (by simp only [laws_szPairS.l0]) (fun k => by simp only [laws_szPairS.l0]) ?_)
  repeat' first
    | (with_reducible exact LimIs.const _)
    | (with_reducible exact laws_szPairS.l0L_is _ _ _)
    | (with_reducible refine LimIs.ite ?_ ?_)
    | (with_reducible refine LimIs.bind ?_ (fun _ => ?_))
theorem laws_szPairS.fL_eq (l0 : List (S104)) (a1 : Int) : laws_szPairS.fL l0 a1 = if (wrap64 (a1 - (l0.length : Int))) < 0 then (some (-1)) else (laws_szPairS.l0L l0 (wrap64 (a1 - (l0.length : Int))) 0) := by
  refine LimIs.unique (laws_szPairS.fL_is l0 a1) ?_
  unfold laws_szPairS.f
  repeat' first
    | (with_reducible exact LimIs.const _)
    | (with_reducible exact laws_szPairS.l0L_is _ _ _)
    | (with_reducible refine LimIs.ite ?_ ?_)
    | (with_reducible refine LimIs.bind ?_ (fun _ => ?_))
/-! ### laws_szChangeS -/
noncomputable def laws_szChangeS.l0L (x0 : List (S106)) (x1 : Int) (x5 : Int) : Option (Int) := Lim (fun k => laws_szChangeS.l0 k x0 x1 x5)
theorem laws_szChangeS.l0L_is (x0 : List (S106)) (x1 : Int) (x5 : Int) : LimIs (fun k => laws_szChangeS.l0 k x0 x1 x5) (laws_szChangeS.l0L x0 x1 x5) := LimIs.of_mono (fun k r h => (laws_szChangeS.mono_l k) x0 x1 x5 r h)
noncomputable def laws_szChangeS.fL (l0 : List (S106)) (a1 : Int) : Option (Int) := Lim (fun k => laws_szChangeS.f k l0 a1)
theorem laws_szChangeS.fL_is (l0 : List (S106)) (a1 : Int) : LimIs (fun k => laws_szChangeS.f k l0 a1) (laws_szChangeS.fL l0 a1) := LimIs.of_mono (fun k r h => laws_szChangeS.mono l0 a1 k r h)
theorem laws_szChangeS.l0L_eq (x0 : List (S106)) (x1 : Int) (x5 : Int) : laws_szChangeS.l0L x0 x1 x5 = if x5 < (x0.length : Int) then (if 0 ≤ x5 then ((laws_szChange.f ((rd_T106 x0 x5).f0) ((rd_T106 x0 x5).f1) ((rd_T106 x0 x5).f2) ((rd_T106 x0 x5).f3) x1).bind fun t106 => (if t106 < 0 then (some (-1)) else (laws_szChangeS.l0L x0 t106 (wrap64 (x5 + 1))))) else (none)) else (some x1) := by
  refine LimIs.unique (laws_szChangeS.l0L_is x0 x1 x5) (LimIs.step (f := fun k => if x5 < (x0.length : Int) then (if 0 ≤ x5 then ((laws_szChange.f ((rd_T106 x0 x5).f0) ((rd_T106 x0 x5).f1) ((rd_T106 x0 x5).f2) ((rd_T106 x0 x5).f3) x1).bind fun t106 => (if t106 < 0 then (some (-1)) else (laws_szChangeS.l0 k x0 t106 (wrap64 (x5 + 1))))) else (none)) else (some x1)) (by simp only [laws_szChangeS.l0]) (fun k => by simp only [laws_szChangeS.l0]) ?_)
  repeat' first
    | (with_reducible exact LimIs.const _)
    | (with_reducible exact laws_szChangeS.l0L_is _ _ _)
    | (with_reducible refine LimIs.ite ?_ ?_)
    | (with_reducible refine LimIs.bind ?_ (fun _ => ?_))
theorem laws_szChangeS.fL_eq (l0 : List (S106)) (a1 : Int) : laws_szChangeS.fL l0 a1 = if (wrap64 (a1 - (l0.length : Int))) < 0 then (some (-1)) else (laws_szChangeS.l0L l0 (wrap64 (a1 - (l0.length : Int))) 0) := by
  refine LimIs.unique (laws_szChangeS.fL_is l0 a1) ?_
  unfold laws_szChangeS.f
  repeat' first
    | (with_reducible exact LimIs.const _)
    | (with_reducible exact laws_szChangeS.l0L_is _ _ _)
    | (with_reducible refine LimIs.ite ?_ ?_)
    | (with_reducible refine LimIs.bind ?_ (fun _ => ?_))
/-! ### spec_KeyValid -/
noncomputable def spec_KeyValid.l0L (x0 : ByteArray) (x3 : Int) : Option (Bool) := Lim (fun k => spec_KeyValid.l0 k x0 x3)
theorem spec_KeyValid.l0L_is (x0 : ByteArray) (x3 : Int) : LimIs (fun k => spec_KeyValid.l0 k x0 x3) (spec_KeyValid.l0L x0 x3) := LimIs.of_mono (fun k r h => (spec_KeyValid.mono_l k) x0 x3 r h)
noncomputable def spec_KeyValid.fL (a0 : ByteArray) : Option (Bool) := Lim (fun k => spec_KeyValid.f k a0)
theorem spec_KeyValid.fL_is (a0 : ByteArray) : LimIs (fun k => spec_KeyValid.f k a0) (spec_KeyValid.fL a0) := LimIs.of_mono (fun k r h => spec_KeyValid.mono a0 k r h)
theorem spec_KeyValid.l0L_eq (x0 : ByteArray) (x3 : Int) : spec_KeyValid.l0L x0 x3 = if x3 < (x0.size : Int) then (if 0 ≤ x3 then (if (bt x0 x3) < 97 then (some false) else (if (bt x0 x3) > 122 then (some false) else (spec_KeyValid.l0L x0 (wrap64 (x3 + 1))))) else (none)) else (some true) := by
  refine LimIs.unique (spec_KeyValid.l0L_is x0 x3) (LimIs.step (f := fun k => if x3 < (x0.size : Int) then (if 0 ≤ x3 then (if (bt x0 x3) < 97 then (some false) else (if (bt x0 x3) > 122 then (some false) else (spec_KeyValid.l0 k x0 (wrap64 (x3 + 1))))) else (none)) else (some true)) (by simp only [spec_KeyValid.l0]) (fun k => by simp only [spec_KeyValid.l0]) ?_)
  repeat' first
    | (with_reducible exact LimIs.const _)
    | (with_reducible exact spec_KeyValid.l0L_is _ _)
    | (with_reducible refine LimIs.ite ?_ ?_)
    | (with_reducible refine LimIs.bind ?_ (fun _ => ?_))
theorem spec_KeyValid.fL_eq (a0 : ByteArray) : spec_KeyValid.fL a0 = (spec_l1In.f (a0.size : Int) 1 4).bind fun t107 => (if t107 = true then (spec_KeyValid.l0L a0 0) else (some false)) := by
  refine LimIs.unique (spec_KeyValid.fL_is a0) ?_
  unfold spec_KeyValid.f
  repeat' first
    | (with_reducible exact LimIs.const _)
    | (with_reducible exact spec_KeyValid.l0L_is _ _)
    | (with_reducible refine LimIs.ite ?_ ?_)
    | (with_reducible refine LimIs.bind ?_ (fun _ => ?_))
/-! ### spec_FeedValid -/
noncomputable def spec_FeedValid.l0L (x0 : List (S75)) (x3 : Int) : Option (Bool) := Lim (fun k => spec_FeedValid.l0 k x0 x3)
theorem spec_FeedValid.l0L_is (x0 : List (S75)) (x3 : Int) : LimIs (fun k => spec_FeedValid.l0 k x0 x3) (spec_FeedValid.l0L x0 x3) := LimIs.of_mono (fun k r h => (spec_FeedValid.mono_l k) x0 x3 r h)
noncomputable def spec_FeedValid.fL (l0 : List (S75)) : Option (Bool) := Lim (fun k => spec_FeedValid.f k l0)
theorem spec_FeedValid.fL_is (l0 : List (S75)) : LimIs (fun k => spec_FeedValid.f k l0) (spec_FeedValid.fL l0) := LimIs.of_mono (fun k r h => spec_FeedValid.mono l0 k r h)
theorem spec_FeedValid.l0L_eq (x0 : List (S75)) (x3 : Int) : spec_FeedValid.l0L x0 x3 = if x3 < (x0.length : Int) then (if 0 ≤ x3 then (if x3 ≥ 24 then (some false) else ((spec_l1In.f ((rd_T75 x0 x3).f0) 0 23).bind fun t110 => (if t110 = true then ((spec_KeyValid.fL ((rd_T75 x0 x3).f1)).bind fun t111 => (if t111 = true then ((spec_l1In.f ((rd_T75 x0 x3).f2) (-1) 999).bind fun t112 => (if t112 = true then ((spec_l1In.f ((rd_T75 x0 x3).f3) (-1) 999).bind fun t113 => (if t113 = true then (if ((rd_T75 x0 x3).f2) = ((rd_T75 x0 x3).f3) then (some false) else (if x3 > 0 then (if 0 ≤ (wrap64 (x3 - 1)) then (if (wrap64 (x3 - 1)) < (x0.length : Int) then (if ((rd_T75 x0 x3).f0) ≤ ((rd_T75 x0 (wrap64 (x3 - 1))).f0) then (some false) else (spec_FeedValid.l0L x0 (wrap64 (x3 + 1)))) else (none)) else (none)) else (spec_FeedValid.l0L x0 (wrap64 (x3 + 1))))) else (some false))) else (some false))) else (some false))) else (some false)))) else (none)) else (some true) := by
  refine LimIs.unique (spec_FeedValid.l0L_is x0 x3) (LimIs.step (f := fun k => if x3 < (x0.length : Int) then (if 0 ≤ x3 then (if x3 ≥ 24 then (some false) else ((spec_l1In.f ((rd_T75 x0 x3).f0) 0 23).bind fun t110 => (if t110 = true then ((spec_KeyValid.f k ((rd_T75 x0 x3).f1)).bind fun t111 => (if t111 = true then ((spec_l1In.f ((rd_T75 x0 x3).f2) (-1) 999).bind fun t112 => (if t112 = true then ((spec_l1In.f ((rd_T75 x0 x3).f3) (-1) 999).bind fun t113 => (if t113 = true then (if ((rd_T75 x0 x3).f2) = ((rd_T75 x0 x3).f3) then (some false) else (if x3 > 0 then (if 0 ≤ (wrap64 (x3 - 1)) then (if (wrap64 (x3 - 1)) < (x0.length : Int) then (if ((rd_T75 x0 x3).f0) ≤ ((rd_T75 x0 (wrap64 (x3 - 1))).f0) then (some false) else (spec_FeedValid.l0 k x0 (wrap64 (x3 + 1)))) else (none)) else (none)) else (spec_FeedValid.l0 k x0 (wrap64 (x3 + 1))))) else (some false))) else (some false))) else (some false))) else (some false)))) else (none)) else (some true)) (by simp only [spec_FeedValid.l0]) (fun k => by simp only [spec_FeedValid.l0]) ?_)
  repeat' first
    | (with_reducible exact LimIs.const _)
    | (with_reducible exact spec_FeedValid.l0L_is _ _)
    | (with_reducible exact spec_KeyValid.fL_is _)
    | (with_reducible refine LimIs.ite ?_ ?_)
    | (with_reducible refine LimIs.bind ?_ (fun _ => ?_))
theorem spec_FeedValid.fL_eq (l0 : List (S75)) : spec_FeedValid.fL l0 = spec_FeedValid.l0L l0 0 := by
  refine LimIs.unique (spec_FeedValid.fL_is l0) ?_
  unfold spec_FeedValid.f
  repeat' first
    | (with_reducible exact LimIs.const _)
    | (with_reducible exact spec_FeedValid.l0L_is _ _)
    | (with_reducible refine LimIs.ite ?_ ?_)
    | (with_reducible refine LimIs.bind ?_ (fun _ => ?_))
/-! ### spec_PairsValid -/
noncomputable def spec_PairsValid.l0L (x0 : List (S29)) (x3 : Int) : Option (Bool) := Lim (fun k => spec_PairsValid.l0 k x0 x3)
theorem spec_PairsValid.l0L_is (x0 : List (S29)) (x3 : Int) : LimIs (fun k => spec_PairsValid.l0 k x0 x3) (spec_PairsValid.l0L x0 x3) := LimIs.of_mono (fun k r h => (spec_PairsValid.mono_l k) x0 x3 r h)
noncomputable def spec_PairsValid.fL (l0 : List (S29)) : Option (Bool) := Lim (fun k => spec_PairsValid.f k l0)
theorem spec_PairsValid.fL_is (l0 : List (S29)) : LimIs (fun k => spec_PairsValid.f k l0) (spec_PairsValid.fL l0) := LimIs.of_mono (fun k r h => spec_PairsValid.mono l0 k r h)
theorem spec_PairsValid.l0L_eq (x0 : List (S29)) (x3 : Int) : spec_PairsValid.l0L x0 x3 = if x3 < (x0.length : Int) then (if 0 ≤ x3 then ((spec_KeyValid.fL ((rd_T29 x0 x3).f0)).bind fun t116 => (if t116 = true then ((spec_l1In.f ((rd_T29 x0 x3).f1) 0 999).bind fun t118 => (if t118 = true then (if x3 > 0 then (if 0 ≤ (wrap64 (x3 - 1)) then (if (wrap64 (x3 - 1)) < (x0.length : Int) then (if ((Op.bytesLess (((rd_T29 x0 (wrap64 (x3 - 1))).f0).toList) (((rd_T29 x0 x3).f0).toList)) = true) then (spec_PairsValid.l0L x0 (wrap64 (x3 + 1))) else (some false)) else (none)) else (none)) else (spec_PairsValid.l0L x0 (wrap64 (x3 + 1)))) else (some false))) else (some false))) else (none)) else (some true) := by
  refine LimIs.unique (spec_PairsValid.l0L_is x0 x3) (LimIs.step (f := fun k => if x3 < (x0.length : Int) then (if 0 ≤ x3 then ((spec_KeyValid.f k ((rd_T29 x0 x3).f0)).bind fun t116 => (if t116 = true then ((spec_l1In.f ((rd_T29 x0 x3).f1) 0 999).bind fun t118 => (if t118 = true then (if x3 > 0 then (if 0 ≤ (wrap64 (x3 - 1)) then (if (wrap64 (x3 - 1)) < (x0.length : Int) then (if ((Op.bytesLess (((rd_T29 x0 (wrap64 (x3 - 1))).f0).toList) (((rd_T29 x0 x3).f0).toList)) = true) then (spec_PairsValid.l0 k x0 (wrap64 (x3 + 1))) else (some false)) else (none)) else (none)) else (spec_PairsValid.l0 k x0 (wrap64 (x3 + 1)))) else (some false))) else (some false))) else (none)) else (some true)) (by simp only [spec_PairsValid.l0]) (fun k => by simp only [spec_PairsValid.l0]) ?_)
  repeat' first
    | (with_reducible exact LimIs.const _)
    | (with_reducible exact spec_KeyValid.fL_is _)
    | (with_reducible exact spec_PairsValid.l0L_is _ _)
    | (with_reducible refine LimIs.ite ?_ ?_)
    | (with_reducible refine LimIs.bind ?_ (fun _ => ?_))
theorem spec_PairsValid.fL_eq (l0 : List (S29)) : spec_PairsValid.fL l0 = if (l0.length : Int) > 48 then (some false) else (spec_PairsValid.l0L l0 0) := by
  refine LimIs.unique (spec_PairsValid.fL_is l0) ?_
  unfold spec_PairsValid.f
  repeat' first
    | (with_reducible exact LimIs.const _)
    | (with_reducible exact spec_PairsValid.l0L_is _ _)
    | (with_reducible refine LimIs.ite ?_ ?_)
    | (with_reducible refine LimIs.bind ?_ (fun _ => ?_))
/-! ### spec_l4Place -/
noncomputable def spec_l4Place.l0L (x0 : List (S29)) (x1 : ByteArray) (x5 : Int) : Option (Int) := Lim (fun k => spec_l4Place.l0 k x0 x1 x5)
theorem spec_l4Place.l0L_is (x0 : List (S29)) (x1 : ByteArray) (x5 : Int) : LimIs (fun k => spec_l4Place.l0 k x0 x1 x5) (spec_l4Place.l0L x0 x1 x5) := LimIs.of_mono (fun k r h => (spec_l4Place.mono_l k) x0 x1 x5 r h)
noncomputable def spec_l4Place.fL (l0 : List (S29)) (a1 : ByteArray) : Option (Int) := Lim (fun k => spec_l4Place.f k l0 a1)
theorem spec_l4Place.fL_is (l0 : List (S29)) (a1 : ByteArray) : LimIs (fun k => spec_l4Place.f k l0 a1) (spec_l4Place.fL l0 a1) := LimIs.of_mono (fun k r h => spec_l4Place.mono l0 a1 k r h)
theorem spec_l4Place.l0L_eq (x0 : List (S29)) (x1 : ByteArray) (x5 : Int) : spec_l4Place.l0L x0 x1 x5 = if x5 < (x0.length : Int) then (if 0 ≤ x5 then (if (Op.bytesLess (((rd_T29 x0 x5).f0).toList) x1.toList) = true then (spec_l4Place.l0L x0 x1 (wrap64 (x5 + 1))) else (some x5)) else (none)) else (some x5) := by
  refine LimIs.unique (spec_l4Place.l0L_is x0 x1 x5) (LimIs.step (f := fun k => if x5 < (x0.length : Int) then (if 0 ≤ x5 then (if (Op.bytesLess (((rd_T29 x0 x5).f0).toList) x1.toList) = true then (spec_l4Place.l0 k x0 x1 (wrap64 (x5 + 1))) else (some x5)) else (none)) else (some x5)) (by simp only [spec_l4Place.l0]) (fun k => by simp only [spec_l4Place.l0]) ?_)
  repeat' first
    | (with_reducible exact LimIs.const _)
    | (with_reducible exact spec_l4Place.l0L_is _ _ _)
    | (with_reducible refine LimIs.ite ?_ ?_)
    | (with_reducible refine LimIs.bind ?_ (fun _ => ?_))
theorem spec_l4Place.fL_eq (l0 : List (S29)) (a1 : ByteArray) : spec_l4Place.fL l0 a1 = spec_l4Place.l0L l0 a1 0 := by
  refine LimIs.unique (spec_l4Place.fL_is l0 a1) ?_
  unfold spec_l4Place.f
  repeat' first
    | (with_reducible exact LimIs.const _)
    | (with_reducible exact spec_l4Place.l0L_is _ _ _)
    | (with_reducible refine LimIs.ite ?_ ?_)
    | (with_reducible refine LimIs.bind ?_ (fun _ => ?_))
/-! ### spec_PairGet -/
noncomputable def spec_PairGet.fL (l0 : List (S29)) (a1 : ByteArray) : Option (Int) := Lim (fun k => spec_PairGet.f k l0 a1)
theorem spec_PairGet.fL_is (l0 : List (S29)) (a1 : ByteArray) : LimIs (fun k => spec_PairGet.f k l0 a1) (spec_PairGet.fL l0 a1) := LimIs.of_mono (fun k r h => spec_PairGet.mono l0 a1 k r h)
theorem spec_PairGet.fL_eq (l0 : List (S29)) (a1 : ByteArray) : spec_PairGet.fL l0 a1 = (spec_l4Place.fL l0 a1).bind fun t122 => ((spec_PairsValid.fL l0).bind fun t123 => (if t123 = true then (if t122 = (l0.length : Int) then (some (-1)) else (if 0 ≤ t122 then (if t122 < (l0.length : Int) then (if ((rd_T29 l0 t122).f0).toList = a1.toList then (some ((rd_T29 l0 t122).f1)) else (some (-1))) else (none)) else (none))) else (some (-1)))) := by
  refine LimIs.unique (spec_PairGet.fL_is l0 a1) ?_
  unfold spec_PairGet.f
  repeat' first
    | (with_reducible exact LimIs.const _)
    | (with_reducible exact spec_PairsValid.fL_is _)
    | (with_reducible exact spec_l4Place.fL_is _ _)
    | (with_reducible refine LimIs.ite ?_ ?_)
    | (with_reducible refine LimIs.bind ?_ (fun _ => ?_))
/-! ### spec_PairDrop -/
noncomputable def spec_PairDrop.fL (l0 : List (S29)) (a1 : ByteArray) : Option ((List (S29)) × Bool) := Lim (fun k => spec_PairDrop.f k l0 a1)
theorem spec_PairDrop.fL_is (l0 : List (S29)) (a1 : ByteArray) : LimIs (fun k => spec_PairDrop.f k l0 a1) (spec_PairDrop.fL l0 a1) := LimIs.of_mono (fun k r h => spec_PairDrop.mono l0 a1 k r h)
theorem spec_PairDrop.fL_eq (l0 : List (S29)) (a1 : ByteArray) : spec_PairDrop.fL l0 a1 = (some (([] : List (S29)) : List (S29))).bind fun y126 => ((spec_PairsValid.fL l0).bind fun t129 => (if t129 = true then ((spec_l4Place.fL l0 a1).bind fun t130 => (if t130 = (l0.length : Int) then (if y126.length + l0.length < 5864062014805 then (some ((y126 ++ l0), false)) else (none)) else (if 0 ≤ t130 then (if t130 < (l0.length : Int) then (if ((rd_T29 l0 t130).f0).toList = a1.toList then (if t130 ≤ (l0.length : Int) then ((some (l0.take (t130 : Int).toNat : List (S29))).bind fun y135 => (if y126.length + y135.length < 5864062014805 then ((some (y126 ++ y135 : List (S29))).bind fun y139 => (if 0 ≤ (wrap64 (t130 + 1)) then (if (wrap64 (t130 + 1)) ≤ (l0.length : Int) then ((some (l0.drop ((wrap64 (t130 + 1)) : Int).toNat : List (S29))).bind fun y142 => (if y139.length + y142.length < 5864062014805 then (some ((y139 ++ y142), true)) else (none))) else (none)) else (none))) else (none))) else (none)) else (if y126.length + l0.length < 5864062014805 then (some ((y126 ++ l0), false)) else (none))) else (none)) else (none)))) else (some (y126, false)))) := by
  refine LimIs.unique (spec_PairDrop.fL_is l0 a1) ?_
  unfold spec_PairDrop.f
  repeat' first
    | (with_reducible exact LimIs.const _)
    | (with_reducible exact spec_PairsValid.fL_is _)
    | (with_reducible exact spec_l4Place.fL_is _ _)
    | (with_reducible refine LimIs.ite ?_ ?_)
    | (with_reducible refine LimIs.bind ?_ (fun _ => ?_))
/-! ### spec_PairPut -/
noncomputable def spec_PairPut.j0L (x0 : List (S29)) (x1 : ByteArray) (x2 : Int) (x8 : List (S29)) (x23 : Bool) : Option ((List (S29)) × Bool) := Lim (fun k => spec_PairPut.j0 k x0 x1 x2 x8 x23)
theorem spec_PairPut.j0L_is (x0 : List (S29)) (x1 : ByteArray) (x2 : Int) (x8 : List (S29)) (x23 : Bool) : LimIs (fun k => spec_PairPut.j0 k x0 x1 x2 x8 x23) (spec_PairPut.j0L x0 x1 x2 x8 x23) := LimIs.of_mono (fun k r h => (spec_PairPut.mono_l k).1 x0 x1 x2 x8 x23 r h)
noncomputable def spec_PairPut.j1L (x0 : List (S29)) (x1 : ByteArray) (x2 : Int) (x8 : List (S29)) (x9 : Int) (x40 : Bool) : Option ((List (S29)) × Bool) := Lim (fun k => spec_PairPut.j1 k x0 x1 x2 x8 x9 x40)
theorem spec_PairPut.j1L_is (x0 : List (S29)) (x1 : ByteArray) (x2 : Int) (x8 : List (S29)) (x9 : Int) (x40 : Bool) : LimIs (fun k => spec_PairPut.j1 k x0 x1 x2 x8 x9 x40) (spec_PairPut.j1L x0 x1 x2 x8 x9 x40) := LimIs.of_mono (fun k r h => (spec_PairPut.mono_l k).2 x0 x1 x2 x8 x9 x40 r h)
noncomputable def spec_PairPut.fL (l0 : List (S29)) (a1 : ByteArray) (a2 : Int) : Option ((List (S29)) × Bool) := Lim (fun k => spec_PairPut.f k l0 a1 a2)
theorem spec_PairPut.fL_is (l0 : List (S29)) (a1 : ByteArray) (a2 : Int) : LimIs (fun k => spec_PairPut.f k l0 a1 a2) (spec_PairPut.fL l0 a1 a2) := LimIs.of_mono (fun k r h => spec_PairPut.mono l0 a1 a2 k r h)
theorem spec_PairPut.j0L_eq (x0 : List (S29)) (x1 : ByteArray) (x2 : Int) (x8 : List (S29)) (x23 : Bool) : spec_PairPut.j0L x0 x1 x2 x8 x23 = if x23 = true then (some (x8, false)) else ((spec_l4Place.fL x0 x1).bind fun t158 => (if t158 < (x0.length : Int) then (if 0 ≤ t158 then (spec_PairPut.j1L x0 x1 x2 x8 t158 (((rd_T29 x0 t158).f0).toList == x1.toList)) else (none)) else (spec_PairPut.j1L x0 x1 x2 x8 t158 false))) := by
  refine LimIs.unique (spec_PairPut.j0L_is x0 x1 x2 x8 x23) (LimIs.step (f := fun k => if x23 = true then (some (x8, false)) else ((spec_l4Place.f k x0 x1).bind fun t158 => (if t158 < (x0.length : Int) then (if 0 ≤ t158 then (spec_PairPut.j1 k x0 x1 x2 x8 t158 (((rd_T29 x0 t158).f0).toList == x1.toList)) else (none)) else (spec_PairPut.j1 k x0 x1 x2 x8 t158 false)))) (by simp only [spec_PairPut.j0]) (fun k => by simp only [spec_PairPut.j0]) ?_)
  repeat' first
    | (with_reducible exact LimIs.const _)
    | (with_reducible exact spec_PairPut.j1L_is _ _ _ _ _ _)
    | (with_reducible exact spec_l4Place.fL_is _ _)
    | (with_reducible refine LimIs.ite ?_ ?_)
    | (with_reducible refine LimIs.bind ?_ (fun _ => ?_))
theorem spec_PairPut.j1L_eq (x0 : List (S29)) (x1 : ByteArray) (x2 : Int) (x8 : List (S29)) (x9 : Int) (x40 : Bool) : spec_PairPut.j1L x0 x1 x2 x8 x9 x40 = if x40 = true then (if x8.length + x0.length < 5864062014805 then ((some (x8 ++ x0 : List (S29))).bind fun y160 => (if 0 ≤ x9 then (if x9 < (y160.length : Int) then (some ((y160.set (x9 : Int).toNat (⟨(rd_T29 y160 x9).f0, x2⟩ : S29)), true)) else (none)) else (none))) else (none)) else (if (x0.length : Int) ≥ 48 then (if x8.length + x0.length < 5864062014805 then (some ((x8 ++ x0), false)) else (none)) else (if 0 ≤ x9 then (if x9 ≤ (x0.length : Int) then ((some (x0.take (x9 : Int).toNat : List (S29))).bind fun y167 => (if x8.length + y167.length < 5864062014805 then ((some (x8 ++ y167 : List (S29))).bind fun y171 => (if y171.length < 5864062014805 then ((some (y171 ++ [(⟨x1, x2⟩ : S29)] : List (S29))).bind fun y174 => ((some (x0.drop (x9 : Int).toNat : List (S29))).bind fun y177 => (if y174.length + y177.length < 5864062014805 then (some ((y174 ++ y177), true)) else (none)))) else (none))) else (none))) else (none)) else (none))) := by
  refine LimIs.unique (spec_PairPut.j1L_is x0 x1 x2 x8 x9 x40) (LimIs.step (f := fun k => if x40 = true then (if x8.length + x0.length < 5864062014805 then ((some (x8 ++ x0 : List (S29))).bind fun y160 => (if 0 ≤ x9 then (if x9 < (y160.length : Int) then (some ((y160.set (x9 : Int).toNat (⟨(rd_T29 y160 x9).f0, x2⟩ : S29)), true)) else (none)) else (none))) else (none)) else (if (x0.length : Int) ≥ 48 then (if x8.length + x0.length < 5864062014805 then (some ((x8 ++ x0), false)) else (none)) else (if 0 ≤ x9 then (if x9 ≤ (x0.length : Int) then ((some (x0.take (x9 : Int).toNat : List (S29))).bind fun y167 => (if x8.length + y167.length < 5864062014805 then ((some (x8 ++ y167 : List (S29))).bind fun y171 => (if y171.length < 5864062014805 then ((some (y171 ++ [(⟨x1, x2⟩ : S29)] : List (S29))).bind fun y174 => ((some (x0.drop (x9 : Int).toNat : List (S29))).bind fun y177 => (if y174.length + y177.length < 5864062014805 then (some ((y174 ++ y177), true)) else (none)))) else (none))) else (none))) else (none)) else (none)))) (by simp only [spec_PairPut.j1]) (fun k => by simp only [spec_PairPut.j1]) ?_)
  repeat' first
    | (with_reducible exact LimIs.const _)
    | (with_reducible refine LimIs.ite ?_ ?_)
    | (with_reducible refine LimIs.bind ?_ (fun _ => ?_))
theorem spec_PairPut.fL_eq (l0 : List (S29)) (a1 : ByteArray) (a2 : Int) : spec_PairPut.fL l0 a1 a2 = (some (([] : List (S29)) : List (S29))).bind fun y152 => ((spec_PairsValid.fL l0).bind fun t155 => (if t155 = true then ((spec_KeyValid.fL a1).bind fun t156 => (if t156 = true then ((spec_l1In.f a2 0 999).bind fun t157 => (spec_PairPut.j0L l0 a1 a2 y152 (!t157))) else (spec_PairPut.j0L l0 a1 a2 y152 true))) else (spec_PairPut.j0L l0 a1 a2 y152 true))) := by
  refine LimIs.unique (spec_PairPut.fL_is l0 a1 a2) ?_
  unfold spec_PairPut.f
  repeat' first
    | (with_reducible exact LimIs.const _)
    | (with_reducible exact spec_KeyValid.fL_is _)
    | (with_reducible exact spec_PairPut.j0L_is _ _ _ _ _)
    | (with_reducible exact spec_PairsValid.fL_is _)
    | (with_reducible refine LimIs.ite ?_ ?_)
    | (with_reducible refine LimIs.bind ?_ (fun _ => ?_))
/-! ### spec_ApplyFeed -/
noncomputable def spec_ApplyFeed.j0L (x0 : List (S29)) (x1 : List (S75)) (x17 : Bool) : Option ((List (S29)) × Bool) := Lim (fun k => spec_ApplyFeed.j0 k x0 x1 x17)
theorem spec_ApplyFeed.j0L_is (x0 : List (S29)) (x1 : List (S75)) (x17 : Bool) : LimIs (fun k => spec_ApplyFeed.j0 k x0 x1 x17) (spec_ApplyFeed.j0L x0 x1 x17) := LimIs.of_mono (fun k r h => (spec_ApplyFeed.mono_l k).1 x0 x1 x17 r h)
noncomputable def spec_ApplyFeed.l0L (x1 : List (S75)) (x6 : List (S29)) (x7 : Int) : Option ((List (S29)) × Bool) := Lim (fun k => spec_ApplyFeed.l0 k x1 x6 x7)
theorem spec_ApplyFeed.l0L_is (x1 : List (S75)) (x6 : List (S29)) (x7 : Int) : LimIs (fun k => spec_ApplyFeed.l0 k x1 x6 x7) (spec_ApplyFeed.l0L x1 x6 x7) := LimIs.of_mono (fun k r h => (spec_ApplyFeed.mono_l k).2 x1 x6 x7 r h)
noncomputable def spec_ApplyFeed.fL (l0 : List (S29)) (l1 : List (S75)) : Option ((List (S29)) × Bool) := Lim (fun k => spec_ApplyFeed.f k l0 l1)
theorem spec_ApplyFeed.fL_is (l0 : List (S29)) (l1 : List (S75)) : LimIs (fun k => spec_ApplyFeed.f k l0 l1) (spec_ApplyFeed.fL l0 l1) := LimIs.of_mono (fun k r h => spec_ApplyFeed.mono l0 l1 k r h)
theorem spec_ApplyFeed.j0L_eq (x0 : List (S29)) (x1 : List (S75)) (x17 : Bool) : spec_ApplyFeed.j0L x0 x1 x17 = if x17 = true then (some ((([] : List (S29))), false)) else ((some (([] : List (S29)) : List (S29))).bind fun y189 => (if y189.length + x0.length < 5864062014805 then (spec_ApplyFeed.l0L x1 (y189 ++ x0) 0) else (none))) := by
  refine LimIs.unique (spec_ApplyFeed.j0L_is x0 x1 x17) (LimIs.step (f := fun k => if x17 = true then (some ((([] : List (S29))), false)) else ((some (([] : List (S29)) : List (S29))).bind fun y189 => (if y189.length + x0.length < 5864062014805 then (spec_ApplyFeed.l0 k x1 (y189 ++ x0) 0) else (none)))) (by simp only [spec_ApplyFeed.j0]) (fun k => by simp only [spec_ApplyFeed.j0]) ?_)
  repeat' first
    | (with_reducible exact LimIs.const _)
    | (with_reducible exact spec_ApplyFeed.l0L_is _ _ _)
    | (with_reducible refine LimIs.ite ?_ ?_)
    | (with_reducible refine LimIs.bind ?_ (fun _ => ?_))
theorem spec_ApplyFeed.l0L_eq (x1 : List (S75)) (x6 : List (S29)) (x7 : Int) : spec_ApplyFeed.l0L x1 x6 x7 = if x7 < (x1.length : Int) then (if 0 ≤ x7 then ((spec_PairGet.fL x6 ((rd_T75 x1 x7).f1)).bind fun t196 => (if t196 = ((rd_T75 x1 x7).f2) then ((spec_PairDrop.fL x6 ((rd_T75 x1 x7).f1)).bind fun bt202 => (if ((rd_T75 x1 x7).f3) ≥ 0 then ((spec_PairPut.fL x6 ((rd_T75 x1 x7).f1) ((rd_T75 x1 x7).f3)).bind fun bt209 => (if bt209.2 = true then (spec_ApplyFeed.l0L x1 bt209.1 (wrap64 (x7 + 1))) else (some ((([] : List (S29))), false)))) else (if bt202.2 = true then (spec_ApplyFeed.l0L x1 bt202.1 (wrap64 (x7 + 1))) else (some ((([] : List (S29))), false))))) else (some ((([] : List (S29))), false)))) else (none)) else (some (x6, true)) := by
  refine LimIs.unique (spec_ApplyFeed.l0L_is x1 x6 x7) (LimIs.step (f := fun k => if x7 < (x1.length : Int) then (if 0 ≤ x7 then ((spec_PairGet.f k x6 ((rd_T75 x1 x7).f1)).bind fun t196 => (if t196 = ((rd_T75 x1 x7).f2) then ((spec_PairDrop.f k x6 ((rd_T75 x1 x7).f1)).bind fun bt202 => (if ((rd_T75 x1 x7).f3) ≥ 0 then ((spec_PairPut.f k x6 ((rd_T75 x1 x7).f1) ((rd_T75 x1 x7).f3)).bind fun bt209 => (if bt209.2 = true then (spec_ApplyFeed.l0 k x1 bt209.1 (wrap64 (x7 + 1))) else (some ((([] : List (S29))), false)))) else (if bt202.2 = true then (spec_ApplyFeed.l0 k x1 bt202.1 (wrap64 (x7 + 1))) else (some ((([] : List (S29))), false))))) else (some ((([] : List (S29))), false)))) else (none)) else (some (x6, true))) (by simp only [spec_ApplyFeed.l0]) (fun k => by simp only [spec_ApplyFeed.l0]) ?_)
  repeat' first
    | (with_reducible exact LimIs.const _)
    | (with_reducible exact spec_ApplyFeed.l0L_is _ _ _)
    | (with_reducible exact spec_PairDrop.fL_is _ _)
    | (with_reducible exact spec_PairGet.fL_is _ _)
    | (with_reducible exact spec_PairPut.fL_is _ _ _)
    | (with_reducible refine LimIs.ite ?_ ?_)
    | (with_reducible refine LimIs.bind ?_ (fun _ => ?_))
theorem spec_ApplyFeed.fL_eq (l0 : List (S29)) (l1 : List (S75)) : spec_ApplyFeed.fL l0 l1 = (spec_PairsValid.fL l0).bind fun t184 => (if t184 = true then ((spec_FeedValid.fL l1).bind fun t185 => (spec_ApplyFeed.j0L l0 l1 (!t185))) else (spec_ApplyFeed.j0L l0 l1 true)) := by
  refine LimIs.unique (spec_ApplyFeed.fL_is l0 l1) ?_
  unfold spec_ApplyFeed.f
  repeat' first
    | (with_reducible exact LimIs.const _)
    | (with_reducible exact spec_ApplyFeed.j0L_is _ _ _)
    | (with_reducible exact spec_FeedValid.fL_is _)
    | (with_reducible exact spec_PairsValid.fL_is _)
    | (with_reducible refine LimIs.ite ?_ ?_)
    | (with_reducible refine LimIs.bind ?_ (fun _ => ?_))
/-! ### laws_toPairS -/
noncomputable def laws_toPairS.l0L (x0 : List (S104)) (x3 : List (S29)) (x4 : Int) : Option ((List (S29))) := Lim (fun k => laws_toPairS.l0 k x0 x3 x4)
theorem laws_toPairS.l0L_is (x0 : List (S104)) (x3 : List (S29)) (x4 : Int) : LimIs (fun k => laws_toPairS.l0 k x0 x3 x4) (laws_toPairS.l0L x0 x3 x4) := LimIs.of_mono (fun k r h => (laws_toPairS.mono_l k) x0 x3 x4 r h)
noncomputable def laws_toPairS.fL (l0 : List (S104)) : Option ((List (S29))) := Lim (fun k => laws_toPairS.f k l0)
theorem laws_toPairS.fL_is (l0 : List (S104)) : LimIs (fun k => laws_toPairS.f k l0) (laws_toPairS.fL l0) := LimIs.of_mono (fun k r h => laws_toPairS.mono l0 k r h)
theorem laws_toPairS.l0L_eq (x0 : List (S104)) (x3 : List (S29)) (x4 : Int) : laws_toPairS.l0L x0 x3 x4 = if x4 < (x0.length : Int) then (if 0 ≤ x4 then ((laws_toPair.f ((rd_T104 x0 x4).f0) ((rd_T104 x0 x4).f1)).bind fun bt226 => (if x4 < (x3.length : Int) then (laws_toPairS.l0L x0 (x3.set (x4 : Int).toNat (⟨bt226.1, bt226.2⟩ : S29)) (wrap64 (x4 + 1))) else (none))) else (none)) else (some x3) := by
  refine LimIs.unique (laws_toPairS.l0L_is x0 x3 x4) (LimIs.step (f := fun k => if x4 < (x0.length : Int) then (if 0 ≤ x4 then ((laws_toPair.f ((rd_T104 x0 x4).f0) ((rd_T104 x0 x4).f1)).bind fun bt226 => (if x4 < (x3.length : Int) then (laws_toPairS.l0 k x0 (x3.set (x4 : Int).toNat (⟨bt226.1, bt226.2⟩ : S29)) (wrap64 (x4 + 1))) else (none))) else (none)) else (some x3)) (by simp only [laws_toPairS.l0]) (fun k => by simp only [laws_toPairS.l0]) ?_)
  repeat' first
    | (with_reducible exact LimIs.const _)
    | (with_reducible exact laws_toPairS.l0L_is _ _ _)
    | (with_reducible refine LimIs.ite ?_ ?_)
    | (with_reducible refine LimIs.bind ?_ (fun _ => ?_))
theorem laws_toPairS.fL_eq (l0 : List (S104)) : laws_toPairS.fL l0 = if 0 ≤ (l0.length : Int) then (if ((l0.length : Int) : Int).toNat ≤ 11728124029610 then (laws_toPairS.l0L l0 (List.replicate ((l0.length : Int) : Int).toNat z29) 0) else (none)) else (none) := by
  refine LimIs.unique (laws_toPairS.fL_is l0) ?_
  unfold laws_toPairS.f
  repeat' first
    | (with_reducible exact LimIs.const _)
    | (with_reducible exact laws_toPairS.l0L_is _ _ _)
    | (with_reducible refine LimIs.ite ?_ ?_)
    | (with_reducible refine LimIs.bind ?_ (fun _ => ?_))
/-! ### laws_toChangeS -/
noncomputable def laws_toChangeS.l0L (x0 : List (S106)) (x3 : List (S75)) (x4 : Int) : Option ((List (S75))) := Lim (fun k => laws_toChangeS.l0 k x0 x3 x4)
theorem laws_toChangeS.l0L_is (x0 : List (S106)) (x3 : List (S75)) (x4 : Int) : LimIs (fun k => laws_toChangeS.l0 k x0 x3 x4) (laws_toChangeS.l0L x0 x3 x4) := LimIs.of_mono (fun k r h => (laws_toChangeS.mono_l k) x0 x3 x4 r h)
noncomputable def laws_toChangeS.fL (l0 : List (S106)) : Option ((List (S75))) := Lim (fun k => laws_toChangeS.f k l0)
theorem laws_toChangeS.fL_is (l0 : List (S106)) : LimIs (fun k => laws_toChangeS.f k l0) (laws_toChangeS.fL l0) := LimIs.of_mono (fun k r h => laws_toChangeS.mono l0 k r h)
theorem laws_toChangeS.l0L_eq (x0 : List (S106)) (x3 : List (S75)) (x4 : Int) : laws_toChangeS.l0L x0 x3 x4 = if x4 < (x0.length : Int) then (if 0 ≤ x4 then ((laws_toChange.f ((rd_T106 x0 x4).f0) ((rd_T106 x0 x4).f1) ((rd_T106 x0 x4).f2) ((rd_T106 x0 x4).f3)).bind fun bt236 => (if x4 < (x3.length : Int) then (laws_toChangeS.l0L x0 (x3.set (x4 : Int).toNat (⟨bt236.1, bt236.2.1, bt236.2.2.1, bt236.2.2.2⟩ : S75)) (wrap64 (x4 + 1))) else (none))) else (none)) else (some x3) := by
  refine LimIs.unique (laws_toChangeS.l0L_is x0 x3 x4) (LimIs.step (f := fun k => if x4 < (x0.length : Int) then (if 0 ≤ x4 then ((laws_toChange.f ((rd_T106 x0 x4).f0) ((rd_T106 x0 x4).f1) ((rd_T106 x0 x4).f2) ((rd_T106 x0 x4).f3)).bind fun bt236 => (if x4 < (x3.length : Int) then (laws_toChangeS.l0 k x0 (x3.set (x4 : Int).toNat (⟨bt236.1, bt236.2.1, bt236.2.2.1, bt236.2.2.2⟩ : S75)) (wrap64 (x4 + 1))) else (none))) else (none)) else (some x3)) (by simp only [laws_toChangeS.l0]) (fun k => by simp only [laws_toChangeS.l0]) ?_)
  repeat' first
    | (with_reducible exact LimIs.const _)
    | (with_reducible exact laws_toChangeS.l0L_is _ _ _)
    | (with_reducible refine LimIs.ite ?_ ?_)
    | (with_reducible refine LimIs.bind ?_ (fun _ => ?_))
theorem laws_toChangeS.fL_eq (l0 : List (S106)) : laws_toChangeS.fL l0 = if 0 ≤ (l0.length : Int) then (if ((l0.length : Int) : Int).toNat ≤ 7036874417766 then (laws_toChangeS.l0L l0 (List.replicate ((l0.length : Int) : Int).toNat z75) 0) else (none)) else (none) := by
  refine LimIs.unique (laws_toChangeS.fL_is l0) ?_
  unfold laws_toChangeS.f
  repeat' first
    | (with_reducible exact LimIs.const _)
    | (with_reducible exact laws_toChangeS.l0L_is _ _ _)
    | (with_reducible refine LimIs.ite ?_ ?_)
    | (with_reducible refine LimIs.bind ?_ (fun _ => ?_))
/-! ### impl_lettersOnly -/
noncomputable def impl_lettersOnly.fL (a0 : ByteArray) : Option (Bool) := Lim (fun k => impl_lettersOnly.f k a0)
theorem impl_lettersOnly.fL_is (a0 : ByteArray) : LimIs (fun k => impl_lettersOnly.f k a0) (impl_lettersOnly.fL a0) := LimIs.of_mono (fun k r h => impl_lettersOnly.mono a0 k r h)
theorem impl_lettersOnly.fL_eq (a0 : ByteArray) : impl_lettersOnly.fL a0 = if a0.toList = ([] : List UInt8) then (some true) else (if 0 < (a0.size : Int) then (if (bt a0 0) ≥ 97 then (if (bt a0 0) ≤ 122 then (if 1 ≤ (a0.size : Int) then ((impl_lettersOnly.fL (a0.extract 1 a0.size)).bind fun t241 => (some t241)) else (none)) else (some false)) else (some false)) else (none)) := by
  refine LimIs.unique (impl_lettersOnly.fL_is a0) (LimIs.step (f := fun k => if a0.toList = ([] : List UInt8) then (some true) else (if 0 < (a0.size : Int) then (if (bt a0 0) ≥ 97 then (if (bt a0 0) ≤ 122 then (if 1 ≤ (a0.size : Int) then ((impl_lettersOnly.f k (a0.extract 1 a0.size)).bind fun t241 => (some t241)) else (none)) else (some false)) else (some false)) else (none))) (by simp only [impl_lettersOnly.f]) (fun k => by simp only [impl_lettersOnly.f]) ?_)
  repeat' first
    | (with_reducible exact LimIs.const _)
    | (with_reducible exact impl_lettersOnly.fL_is _)
    | (with_reducible refine LimIs.ite ?_ ?_)
    | (with_reducible refine LimIs.bind ?_ (fun _ => ?_))
/-! ### impl_KeyValid -/
noncomputable def impl_KeyValid.fL (a0 : ByteArray) : Option (Bool) := Lim (fun k => impl_KeyValid.f k a0)
theorem impl_KeyValid.fL_is (a0 : ByteArray) : LimIs (fun k => impl_KeyValid.f k a0) (impl_KeyValid.fL a0) := LimIs.of_mono (fun k r h => impl_KeyValid.mono a0 k r h)
theorem impl_KeyValid.fL_eq (a0 : ByteArray) : impl_KeyValid.fL a0 = if (a0.size : Int) < 1 then (some false) else (if (a0.size : Int) > 4 then (some false) else ((impl_lettersOnly.fL a0).bind fun t242 => (some t242))) := by
  refine LimIs.unique (impl_KeyValid.fL_is a0) ?_
  unfold impl_KeyValid.f
  repeat' first
    | (with_reducible exact LimIs.const _)
    | (with_reducible exact impl_lettersOnly.fL_is _)
    | (with_reducible refine LimIs.ite ?_ ?_)
    | (with_reducible refine LimIs.bind ?_ (fun _ => ?_))
/-! ### impl_PairsValid -/
noncomputable def impl_PairsValid.l0L (x0 : List (S29)) (x8 : List (S29)) (x9 : Int) (x10 : Int) : Option (Bool) := Lim (fun k => impl_PairsValid.l0 k x0 x8 x9 x10)
theorem impl_PairsValid.l0L_is (x0 : List (S29)) (x8 : List (S29)) (x9 : Int) (x10 : Int) : LimIs (fun k => impl_PairsValid.l0 k x0 x8 x9 x10) (impl_PairsValid.l0L x0 x8 x9 x10) := LimIs.of_mono (fun k r h => (impl_PairsValid.mono_l k).1 x0 x8 x9 x10 r h)
noncomputable def impl_PairsValid.j1L (x0 : List (S29)) (x3 : Int) (x8 : List (S29)) (x9 : Int) (x10 : Int) (x24 : Bool) (x245000 : ByteArray) (x245001 : Int) : Option (Bool) := Lim (fun k => impl_PairsValid.j1 k x0 x3 x8 x9 x10 x24 x245000 x245001)
theorem impl_PairsValid.j1L_is (x0 : List (S29)) (x3 : Int) (x8 : List (S29)) (x9 : Int) (x10 : Int) (x24 : Bool) (x245000 : ByteArray) (x245001 : Int) : LimIs (fun k => impl_PairsValid.j1 k x0 x3 x8 x9 x10 x24 x245000 x245001) (impl_PairsValid.j1L x0 x3 x8 x9 x10 x24 x245000 x245001) := LimIs.of_mono (fun k r h => (impl_PairsValid.mono_l k).2 x0 x3 x8 x9 x10 x24 x245000 x245001 r h)
noncomputable def impl_PairsValid.fL (l0 : List (S29)) : Option (Bool) := Lim (fun k => impl_PairsValid.f k l0)
theorem impl_PairsValid.fL_is (l0 : List (S29)) : LimIs (fun k => impl_PairsValid.f k l0) (impl_PairsValid.fL l0) := LimIs.of_mono (fun k r h => impl_PairsValid.mono l0 k r h)
theorem impl_PairsValid.l0L_eq (x0 : List (S29)) (x8 : List (S29)) (x9 : Int) (x10 : Int) : impl_PairsValid.l0L x0 x8 x9 x10 = if x10 < x9 then (if 0 ≤ x10 then (if x10 < (x8.length : Int) then ((impl_KeyValid.fL ((rd_T29 x8 x10).f0)).bind fun t245 => (if t245 = true then ((impl_valueValid.f ((rd_T29 x8 x10).f1)).bind fun t246 => (impl_PairsValid.j1L x0 x10 x8 x9 x10 (!t246) ((rd_T29 x8 x10).f0) ((rd_T29 x8 x10).f1))) else (impl_PairsValid.j1L x0 x10 x8 x9 x10 true ((rd_T29 x8 x10).f0) ((rd_T29 x8 x10).f1)))) else (none)) else (none)) else (some true) := by
  refine LimIs.unique (impl_PairsValid.l0L_is x0 x8 x9 x10) (LimIs.step (f := fun k => if x10 < x9 then (if 0 ≤ x10 then (if x10 < (x8.length : Int) then ((impl_KeyValid.f k ((rd_T29 x8 x10).f0)).bind fun t245 => (if t245 = true then ((impl_valueValid.f ((rd_T29 x8 x10).f1)).bind fun t246 => (impl_PairsValid.j1 k x0 x10 x8 x9 x10 (!t246) ((rd_T29 x8 x10).f0) ((rd_T29 x8 x10).f1))) else (impl_PairsValid.j1 k x0 x10 x8 x9 x10 true ((rd_T29 x8 x10).f0) ((rd_T29 x8 x10).f1)))) else (none)) else (none)) else (some true)) (by simp only [impl_PairsValid.l0]) (fun k => by simp only [impl_PairsValid.l0]) ?_)
  repeat' first
    | (with_reducible exact LimIs.const _)
    | (with_reducible exact impl_KeyValid.fL_is _)
    | (with_reducible exact impl_PairsValid.j1L_is _ _ _ _ _ _ _ _)
    | (with_reducible refine LimIs.ite ?_ ?_)
    | (with_reducible refine LimIs.bind ?_ (fun _ => ?_))
theorem impl_PairsValid.j1L_eq (x0 : List (S29)) (x3 : Int) (x8 : List (S29)) (x9 : Int) (x10 : Int) (x24 : Bool) (x245000 : ByteArray) (x245001 : Int) : impl_PairsValid.j1L x0 x3 x8 x9 x10 x24 x245000 x245001 = if x24 = true then (some false) else (if x3 > 0 then (if 0 ≤ (wrap64 (x3 - 1)) then (if (wrap64 (x3 - 1)) < (x0.length : Int) then (if ((Op.bytesLess (((rd_T29 x0 (wrap64 (x3 - 1))).f0).toList) x245000.toList) = true) then (impl_PairsValid.l0L x0 x8 x9 (wrap64 (x10 + 1))) else (some false)) else (none)) else (none)) else (impl_PairsValid.l0L x0 x8 x9 (wrap64 (x10 + 1)))) := by
  refine LimIs.unique (impl_PairsValid.j1L_is x0 x3 x8 x9 x10 x24 x245000 x245001) (LimIs.step (f := fun k => if x24 = true then (some false) else (if x3 > 0 then (if 0 ≤ (wrap64 (x3 - 1)) then (if (wrap64 (x3 - 1)) < (x0.length : Int) then (if ((Op.bytesLess (((rd_T29 x0 (wrap64 (x3 - 1))).f0).toList) x245000.toList) = true) then (impl_PairsValid.l0 k x0 x8 x9 (wrap64 (x10 + 1))) else (some false)) else (none)) else (none)) else (impl_PairsValid.l0 k x0 x8 x9 (wrap64 (x10 + 1))))) (by simp only [impl_PairsValid.j1]) (fun k => by simp only [impl_PairsValid.j1]) ?_)
  repeat' first
    | (with_reducible exact LimIs.const _)
    | (with_reducible exact impl_PairsValid.l0L_is _ _ _ _)
    | (with_reducible refine LimIs.ite ?_ ?_)
    | (with_reducible refine LimIs.bind ?_ (fun _ => ?_))
theorem impl_PairsValid.fL_eq (l0 : List (S29)) : impl_PairsValid.fL l0 = if (l0.length : Int) > 48 then (some false) else (impl_PairsValid.l0L l0 l0 (l0.length : Int) 0) := by
  refine LimIs.unique (impl_PairsValid.fL_is l0) ?_
  unfold impl_PairsValid.f
  repeat' first
    | (with_reducible exact LimIs.const _)
    | (with_reducible exact impl_PairsValid.l0L_is _ _ _ _)
    | (with_reducible refine LimIs.ite ?_ ?_)
    | (with_reducible refine LimIs.bind ?_ (fun _ => ?_))
/-! ### impl_FeedValid -/
noncomputable def impl_FeedValid.l0L (x0 : List (S75)) (x8 : List (S75)) (x9 : Int) (x10 : Int) : Option (Bool) := Lim (fun k => impl_FeedValid.l0 k x0 x8 x9 x10)
theorem impl_FeedValid.l0L_is (x0 : List (S75)) (x8 : List (S75)) (x9 : Int) (x10 : Int) : LimIs (fun k => impl_FeedValid.l0 k x0 x8 x9 x10) (impl_FeedValid.l0L x0 x8 x9 x10) := LimIs.of_mono (fun k r h => (impl_FeedValid.mono_l k).1 x0 x8 x9 x10 r h)
noncomputable def impl_FeedValid.j1L (x0 : List (S75)) (x3 : Int) (x8 : List (S75)) (x9 : Int) (x10 : Int) (x35 : Bool) (x250000 : Int) (x250001 : ByteArray) (x250002 : Int) (x250003 : Int) : Option (Bool) := Lim (fun k => impl_FeedValid.j1 k x0 x3 x8 x9 x10 x35 x250000 x250001 x250002 x250003)
theorem impl_FeedValid.j1L_is (x0 : List (S75)) (x3 : Int) (x8 : List (S75)) (x9 : Int) (x10 : Int) (x35 : Bool) (x250000 : Int) (x250001 : ByteArray) (x250002 : Int) (x250003 : Int) : LimIs (fun k => impl_FeedValid.j1 k x0 x3 x8 x9 x10 x35 x250000 x250001 x250002 x250003) (impl_FeedValid.j1L x0 x3 x8 x9 x10 x35 x250000 x250001 x250002 x250003) := LimIs.of_mono (fun k r h => (impl_FeedValid.mono_l k).2.1 x0 x3 x8 x9 x10 x35 x250000 x250001 x250002 x250003 r h)
noncomputable def impl_FeedValid.j2L (x0 : List (S75)) (x3 : Int) (x8 : List (S75)) (x9 : Int) (x10 : Int) (x55 : Bool) (x250000 : Int) (x250001 : ByteArray) (x250002 : Int) (x250003 : Int) : Option (Bool) := Lim (fun k => impl_FeedValid.j2 k x0 x3 x8 x9 x10 x55 x250000 x250001 x250002 x250003)
theorem impl_FeedValid.j2L_is (x0 : List (S75)) (x3 : Int) (x8 : List (S75)) (x9 : Int) (x10 : Int) (x55 : Bool) (x250000 : Int) (x250001 : ByteArray) (x250002 : Int) (x250003 : Int) : LimIs (fun k => impl_FeedValid.j2 k x0 x3 x8 x9 x10 x55 x250000 x250001 x250002 x250003) (impl_FeedValid.j2L x0 x3 x8 x9 x10 x55 x250000 x250001 x250002 x250003) := LimIs.of_mono (fun k r h => (impl_FeedValid.mono_l k).2.2 x0 x3 x8 x9 x10 x55 x250000 x250001 x250002 x250003 r h)
noncomputable def impl_FeedValid.fL (l0 : List (S75)) : Option (Bool) := Lim (fun k => impl_FeedValid.f k l0)
theorem impl_FeedValid.fL_is (l0 : List (S75)) : LimIs (fun k => impl_FeedValid.f k l0) (impl_FeedValid.fL l0) := LimIs.of_mono (fun k r h => impl_FeedValid.mono l0 k r h)
theorem impl_FeedValid.l0L_eq (x0 : List (S75)) (x8 : List (S75)) (x9 : Int) (x10 : Int) : impl_FeedValid.l0L x0 x8 x9 x10 = if x10 < x9 then (if 0 ≤ x10 then (if x10 < (x8.length : Int) then (if ((rd_T75 x8 x10).f0) < 0 then (impl_FeedValid.j1L x0 x10 x8 x9 x10 true ((rd_T75 x8 x10).f0) ((rd_T75 x8 x10).f1) ((rd_T75 x8 x10).f2) ((rd_T75 x8 x10).f3)) else (if ((rd_T75 x8 x10).f0) ≥ 24 then (impl_FeedValid.j1L x0 x10 x8 x9 x10 true ((rd_T75 x8 x10).f0) ((rd_T75 x8 x10).f1) ((rd_T75 x8 x10).f2) ((rd_T75 x8 x10).f3)) else ((impl_KeyValid.fL ((rd_T75 x8 x10).f1)).bind fun t250 => (if t250 = true then (impl_FeedValid.j1L x0 x10 x8 x9 x10 (((rd_T75 x8 x10).f2) == ((rd_T75 x8 x10).f3)) ((rd_T75 x8 x10).f0) ((rd_T75 x8 x10).f1) ((rd_T75 x8 x10).f2) ((rd_T75 x8 x10).f3)) else (impl_FeedValid.j1L x0 x10 x8 x9 x10 true ((rd_T75 x8 x10).f0) ((rd_T75 x8 x10).f1) ((rd_T75 x8 x10).f2) ((rd_T75 x8 x10).f3)))))) else (none)) else (none)) else (some true) := by
  refine LimIs.unique (impl_FeedValid.l0L_is x0 x8 x9 x10) (LimIs.step (f := fun k => if x10 < x9 then (if 0 ≤ x10 then (if x10 < (x8.length : Int) then (if ((rd_T75 x8 x10).f0) < 0 then (impl_FeedValid.j1 k x0 x10 x8 x9 x10 true ((rd_T75 x8 x10).f0) ((rd_T75 x8 x10).f1) ((rd_T75 x8 x10).f2) ((rd_T75 x8 x10).f3)) else (if ((rd_T75 x8 x10).f0) ≥ 24 then (impl_FeedValid.j1 k x0 x10 x8 x9 x10 true ((rd_T75 x8 x10).f0) ((rd_T75 x8 x10).f1) ((rd_T75 x8 x10).f2) ((rd_T75 x8 x10).f3)) else ((impl_KeyValid.f k ((rd_T75 x8 x10).f1)).bind fun t250 => (if t250 = true then (impl_FeedValid.j1 k x0 x10 x8 x9 x10 (((rd_T75 x8 x10).f2) == ((rd_T75 x8 x10).f3)) ((rd_T75 x8 x10).f0) ((rd_T75 x8 x10).f1) ((rd_T75 x8 x10).f2) ((rd_T75 x8 x10).f3)) else (impl_FeedValid.j1 k x0 x10 x8 x9 x10 true ((rd_T75 x8 x10).f0) ((rd_T75 x8 x10).f1) ((rd_T75 x8 x10).f2) ((rd_T75 x8 x10).f3)))))) else (none)) else (none)) else (some true)) (by simp only [impl_FeedValid.l0]) (fun k => by simp only [impl_FeedValid.l0]) ?_)
  repeat' first
    | (with_reducible exact LimIs.const _)
    | (with_reducible exact impl_FeedValid.j1L_is _ _ _ _ _ _ _ _ _ _)
    | (with_reducible exact impl_KeyValid.fL_is _)
    | (with_reducible refine LimIs.ite ?_ ?_)
    | (with_reducible refine LimIs.bind ?_ (fun _ => ?_))
theorem impl_FeedValid.j1L_eq (x0 : List (S75)) (x3 : Int) (x8 : List (S75)) (x9 : Int) (x10 : Int) (x35 : Bool) (x250000 : Int) (x250001 : ByteArray) (x250002 : Int) (x250003 : Int) : impl_FeedValid.j1L x0 x3 x8 x9 x10 x35 x250000 x250001 x250002 x250003 = if x35 = true then (some false) else (if x250002 = (-1) then (if x250003 = (-1) then (impl_FeedValid.j2L x0 x3 x8 x9 x10 false x250000 x250001 x250002 x250003) else ((impl_valueValid.f x250003).bind fun t251 => (impl_FeedValid.j2L x0 x3 x8 x9 x10 (!t251) x250000 x250001 x250002 x250003))) else ((impl_valueValid.f x250002).bind fun t252 => (if t252 = true then (if x250003 = (-1) then (impl_FeedValid.j2L x0 x3 x8 x9 x10 false x250000 x250001 x250002 x250003) else ((impl_valueValid.f x250003).bind fun t253 => (impl_FeedValid.j2L x0 x3 x8 x9 x10 (!t253) x250000 x250001 x250002 x250003))) else (impl_FeedValid.j2L x0 x3 x8 x9 x10 true x250000 x250001 x250002 x250003)))) := by
  refine LimIs.unique (impl_FeedValid.j1L_is x0 x3 x8 x9 x10 x35 x250000 x250001 x250002 x250003) (LimIs.step (f := fun k => if x35 = true then (some false) else (if x250002 = (-1) then (if x250003 = (-1) then (impl_FeedValid.j2 k x0 x3 x8 x9 x10 false x250000 x250001 x250002 x250003) else ((impl_valueValid.f x250003).bind fun t251 => (impl_FeedValid.j2 k x0 x3 x8 x9 x10 (!t251) x250000 x250001 x250002 x250003))) else ((impl_valueValid.f x250002).bind fun t252 => (if t252 = true then (if x250003 = (-1) then (impl_FeedValid.j2 k x0 x3 x8 x9 x10 false x250000 x250001 x250002 x250003) else ((impl_valueValid.f x250003).bind fun t253 => (impl_FeedValid.j2 k x0 x3 x8 x9 x10 (!t253) x250000 x250001 x250002 x250003))) else (impl_FeedValid.j2 k x0 x3 x8 x9 x10 true x250000 x250001 x250002 x250003))))) (by simp only [impl_FeedValid.j1]) (fun k => by simp only [impl_FeedValid.j1]) ?_)
  repeat' first
    | (with_reducible exact LimIs.const _)
    | (with_reducible exact impl_FeedValid.j2L_is _ _ _ _ _ _ _ _ _ _)
    | (with_reducible refine LimIs.ite ?_ ?_)
    | (with_reducible refine LimIs.bind ?_ (fun _ => ?_))
theorem impl_FeedValid.j2L_eq (x0 : List (S75)) (x3 : Int) (x8 : List (S75)) (x9 : Int) (x10 : Int) (x55 : Bool) (x250000 : Int) (x250001 : ByteArray) (x250002 : Int) (x250003 : Int) : impl_FeedValid.j2L x0 x3 x8 x9 x10 x55 x250000 x250001 x250002 x250003 = if x55 = true then (some false) else (if x3 > 0 then (if 0 ≤ (wrap64 (x3 - 1)) then (if (wrap64 (x3 - 1)) < (x0.length : Int) then (if ((rd_T75 x0 (wrap64 (x3 - 1))).f0) ≥ x250000 then (some false) else (impl_FeedValid.l0L x0 x8 x9 (wrap64 (x10 + 1)))) else (none)) else (none)) else (impl_FeedValid.l0L x0 x8 x9 (wrap64 (x10 + 1)))) := by
  refine LimIs.unique (impl_FeedValid.j2L_is x0 x3 x8 x9 x10 x55 x250000 x250001 x250002 x250003) (LimIs.step (f := fun k => if x55 = true then (some false) else (if x3 > 0 then (if 0 ≤ (wrap64 (x3 - 1)) then (if (wrap64 (x3 - 1)) < (x0.length : Int) then (if ((rd_T75 x0 (wrap64 (x3 - 1))).f0) ≥ x250000 then (some false) else (impl_FeedValid.l0 k x0 x8 x9 (wrap64 (x10 + 1)))) else (none)) else (none)) else (impl_FeedValid.l0 k x0 x8 x9 (wrap64 (x10 + 1))))) (by simp only [impl_FeedValid.j2]) (fun k => by simp only [impl_FeedValid.j2]) ?_)
  repeat' first
    | (with_reducible exact LimIs.const _)
    | (with_reducible exact impl_FeedValid.l0L_is _ _ _ _)
    | (with_reducible refine LimIs.ite ?_ ?_)
    | (with_reducible refine LimIs.bind ?_ (fun _ => ?_))
theorem impl_FeedValid.fL_eq (l0 : List (S75)) : impl_FeedValid.fL l0 = if (l0.length : Int) > 24 then (some false) else (impl_FeedValid.l0L l0 l0 (l0.length : Int) 0) := by
  refine LimIs.unique (impl_FeedValid.fL_is l0) ?_
  unfold impl_FeedValid.f
  repeat' first
    | (with_reducible exact LimIs.const _)
    | (with_reducible exact impl_FeedValid.l0L_is _ _ _ _)
    | (with_reducible refine LimIs.ite ?_ ?_)
    | (with_reducible refine LimIs.bind ?_ (fun _ => ?_))
/-! ### impl_Pair_string -/
noncomputable def impl_Pair_string.l0L (x0 : List (S29)) (x1 : ByteArray) (x8 : Int) (x9 : Int) (x10 : Int) : Option (Int × Bool) := Lim (fun k => impl_Pair_string.l0 k x0 x1 x8 x9 x10)
theorem impl_Pair_string.l0L_is (x0 : List (S29)) (x1 : ByteArray) (x8 : Int) (x9 : Int) (x10 : Int) : LimIs (fun k => impl_Pair_string.l0 k x0 x1 x8 x9 x10) (impl_Pair_string.l0L x0 x1 x8 x9 x10) := LimIs.of_mono (fun k r h => (impl_Pair_string.mono_l k) x0 x1 x8 x9 x10 r h)
noncomputable def impl_Pair_string.fL (l0 : List (S29)) (a1 : ByteArray) (a2 : Unit) : Option (Int × Bool) := Lim (fun k => impl_Pair_string.f k l0 a1 a2)
theorem impl_Pair_string.fL_is (l0 : List (S29)) (a1 : ByteArray) (a2 : Unit) : LimIs (fun k => impl_Pair_string.f k l0 a1 a2) (impl_Pair_string.fL l0 a1 a2) := LimIs.of_mono (fun k r h => impl_Pair_string.mono l0 a1 a2 k r h)
theorem impl_Pair_string.l0L_eq (x0 : List (S29)) (x1 : ByteArray) (x8 : Int) (x9 : Int) (x10 : Int) : impl_Pair_string.l0L x0 x1 x8 x9 x10 = if x9 < x10 then (if 0 ≤ (wrap64 ((IntKind.u64.wrap (wrap64 (x9 + x10))) / 2)) then (if (wrap64 ((IntKind.u64.wrap (wrap64 (x9 + x10))) / 2)) < (x0.length : Int) then ((impl_pairPlace_1.f ((rd_T29 x0 (wrap64 ((IntKind.u64.wrap (wrap64 (x9 + x10))) / 2))).f0) ((rd_T29 x0 (wrap64 ((IntKind.u64.wrap (wrap64 (x9 + x10))) / 2))).f1) x1).bind fun t263 => (if t263 < 0 then (impl_Pair_string.l0L x0 x1 x8 (wrap64 ((wrap64 ((IntKind.u64.wrap (wrap64 (x9 + x10))) / 2)) + 1)) x10) else (impl_Pair_string.l0L x0 x1 x8 x9 (wrap64 ((IntKind.u64.wrap (wrap64 (x9 + x10))) / 2))))) else (none)) else (none)) else (if x9 < x8 then (if 0 ≤ x9 then (if x9 < (x0.length : Int) then ((impl_pairPlace_1.f ((rd_T29 x0 x9).f0) ((rd_T29 x0 x9).f1) x1).bind fun t265 => (some (x9, (t265 == 0)))) else (none)) else (none)) else (some (x9, false))) := by
  refine LimIs.unique (impl_Pair_string.l0L_is x0 x1 x8 x9 x10) (LimIs.step (f := fun k => if x9 < x10 then (if 0 ≤ (wrap64 ((IntKind.u64.wrap (wrap64 (x9 + x10))) / 2)) then (if (wrap64 ((IntKind.u64.wrap (wrap64 (x9 + x10))) / 2)) < (x0.length : Int) then ((impl_pairPlace_1.f ((rd_T29 x0 (wrap64 ((IntKind.u64.wrap (wrap64 (x9 + x10))) / 2))).f0) ((rd_T29 x0 (wrap64 ((IntKind.u64.wrap (wrap64 (x9 + x10))) / 2))).f1) x1).bind fun t263 => (if t263 < 0 then (impl_Pair_string.l0 k x0 x1 x8 (wrap64 ((wrap64 ((IntKind.u64.wrap (wrap64 (x9 + x10))) / 2)) + 1)) x10) else (impl_Pair_string.l0 k x0 x1 x8 x9 (wrap64 ((IntKind.u64.wrap (wrap64 (x9 + x10))) / 2))))) else (none)) else (none)) else (if x9 < x8 then (if 0 ≤ x9 then (if x9 < (x0.length : Int) then ((impl_pairPlace_1.f ((rd_T29 x0 x9).f0) ((rd_T29 x0 x9).f1) x1).bind fun t265 => (some (x9, (t265 == 0)))) else (none)) else (none)) else (some (x9, false)))) (by simp only [impl_Pair_string.l0]) (fun k => by simp only [impl_Pair_string.l0]) ?_)
  repeat' first
    | (with_reducible exact LimIs.const _)
    | (with_reducible exact impl_Pair_string.l0L_is _ _ _ _ _)
    | (with_reducible refine LimIs.ite ?_ ?_)
    | (with_reducible refine LimIs.bind ?_ (fun _ => ?_))
theorem impl_Pair_string.fL_eq (l0 : List (S29)) (a1 : ByteArray) (a2 : Unit) : impl_Pair_string.fL l0 a1 a2 = impl_Pair_string.l0L l0 a1 (l0.length : Int) 0 (l0.length : Int) := by
  refine LimIs.unique (impl_Pair_string.fL_is l0 a1 a2) ?_
  unfold impl_Pair_string.f
  repeat' first
    | (with_reducible exact LimIs.const _)
    | (with_reducible exact impl_Pair_string.l0L_is _ _ _ _ _)
    | (with_reducible refine LimIs.ite ?_ ?_)
    | (with_reducible refine LimIs.bind ?_ (fun _ => ?_))
/-! ### impl_pairPlace -/
noncomputable def impl_pairPlace.fL (l0 : List (S29)) (a1 : ByteArray) : Option (Int × Bool) := Lim (fun k => impl_pairPlace.f k l0 a1)
theorem impl_pairPlace.fL_is (l0 : List (S29)) (a1 : ByteArray) : LimIs (fun k => impl_pairPlace.f k l0 a1) (impl_pairPlace.fL l0 a1) := LimIs.of_mono (fun k r h => impl_pairPlace.mono l0 a1 k r h)
theorem impl_pairPlace.fL_eq (l0 : List (S29)) (a1 : ByteArray) : impl_pairPlace.fL l0 a1 = (impl_Pair_string.fL l0 a1 ()).bind fun bt266 => (some (bt266.1, bt266.2)) := by
  refine LimIs.unique (impl_pairPlace.fL_is l0 a1) ?_
  unfold impl_pairPlace.f
  repeat' first
    | (with_reducible exact LimIs.const _)
    | (with_reducible exact impl_Pair_string.fL_is _ _ _)
    | (with_reducible refine LimIs.ite ?_ ?_)
    | (with_reducible refine LimIs.bind ?_ (fun _ => ?_))
/-! ### impl_PairGet -/
noncomputable def impl_PairGet.fL (l0 : List (S29)) (a1 : ByteArray) : Option (Int) := Lim (fun k => impl_PairGet.f k l0 a1)
theorem impl_PairGet.fL_is (l0 : List (S29)) (a1 : ByteArray) : LimIs (fun k => impl_PairGet.f k l0 a1) (impl_PairGet.fL l0 a1) := LimIs.of_mono (fun k r h => impl_PairGet.mono l0 a1 k r h)
theorem impl_PairGet.fL_eq (l0 : List (S29)) (a1 : ByteArray) : impl_PairGet.fL l0 a1 = (impl_PairsValid.fL l0).bind fun t268 => (if t268 = true then ((impl_pairPlace.fL l0 a1).bind fun bt269 => (if bt269.2 = true then (if 0 ≤ bt269.1 then (if bt269.1 < (l0.length : Int) then (some ((rd_T29 l0 bt269.1).f1)) else (none)) else (none)) else (some (-1)))) else (some (-1))) := by
  refine LimIs.unique (impl_PairGet.fL_is l0 a1) ?_
  unfold impl_PairGet.f
  repeat' first
    | (with_reducible exact LimIs.const _)
    | (with_reducible exact impl_PairsValid.fL_is _)
    | (with_reducible exact impl_pairPlace.fL_is _ _)
    | (with_reducible refine LimIs.ite ?_ ?_)
    | (with_reducible refine LimIs.bind ?_ (fun _ => ?_))
/-! ### impl_PairDrop -/
noncomputable def impl_PairDrop.fL (l0 : List (S29)) (a1 : ByteArray) : Option ((List (S29)) × Bool) := Lim (fun k => impl_PairDrop.f k l0 a1)
theorem impl_PairDrop.fL_is (l0 : List (S29)) (a1 : ByteArray) : LimIs (fun k => impl_PairDrop.f k l0 a1) (impl_PairDrop.fL l0 a1) := LimIs.of_mono (fun k r h => impl_PairDrop.mono l0 a1 k r h)
theorem impl_PairDrop.fL_eq (l0 : List (S29)) (a1 : ByteArray) : impl_PairDrop.fL l0 a1 = (impl_PairsValid.fL l0).bind fun t292 => (if t292 = true then ((impl_pairPlace.fL l0 a1).bind fun bt293 => (if bt293.2 = true then ((impl_Pair_137.f l0 bt293.1 1 ([] : List (S29))).bind fun t295 => (some (t295, true))) else ((impl_Pair_96.f l0).bind fun t298 => (some (t298, false))))) else (some (([] : List (S29)), false))) := by
  refine LimIs.unique (impl_PairDrop.fL_is l0 a1) ?_
  unfold impl_PairDrop.f
  repeat' first
    | (with_reducible exact LimIs.const _)
    | (with_reducible exact impl_PairsValid.fL_is _)
    | (with_reducible exact impl_pairPlace.fL_is _ _)
    | (with_reducible refine LimIs.ite ?_ ?_)
    | (with_reducible refine LimIs.bind ?_ (fun _ => ?_))
/-! ### impl_PairPut -/
noncomputable def impl_PairPut.j0L (x0 : List (S29)) (x1 : ByteArray) (x2 : Int) (x22 : Bool) : Option ((List (S29)) × Bool) := Lim (fun k => impl_PairPut.j0 k x0 x1 x2 x22)
theorem impl_PairPut.j0L_is (x0 : List (S29)) (x1 : ByteArray) (x2 : Int) (x22 : Bool) : LimIs (fun k => impl_PairPut.j0 k x0 x1 x2 x22) (impl_PairPut.j0L x0 x1 x2 x22) := LimIs.of_mono (fun k r h => (impl_PairPut.mono_l k) x0 x1 x2 x22 r h)
noncomputable def impl_PairPut.fL (l0 : List (S29)) (a1 : ByteArray) (a2 : Int) : Option ((List (S29)) × Bool) := Lim (fun k => impl_PairPut.f k l0 a1 a2)
theorem impl_PairPut.fL_is (l0 : List (S29)) (a1 : ByteArray) (a2 : Int) : LimIs (fun k => impl_PairPut.f k l0 a1 a2) (impl_PairPut.fL l0 a1 a2) := LimIs.of_mono (fun k r h => impl_PairPut.mono l0 a1 a2 k r h)
theorem impl_PairPut.j0L_eq (x0 : List (S29)) (x1 : ByteArray) (x2 : Int) (x22 : Bool) : impl_PairPut.j0L x0 x1 x2 x22 = if x22 = true then (some (([] : List (S29)), false)) else ((impl_pairPlace.fL x0 x1).bind fun bt304 => (if bt304.2 = true then ((impl_Pair_137.f x0 bt304.1 1 (([(⟨x1, x2⟩ : S29)] : List (S29)))).bind fun t309 => (some (t309, true))) else (if (x0.length : Int) ≥ 48 then ((impl_Pair_96.f x0).bind fun t312 => (some (t312, false))) else ((impl_Pair_137.f x0 bt304.1 0 (([(⟨x1, x2⟩ : S29)] : List (S29)))).bind fun t318 => (some (t318, true)))))) := by
  refine LimIs.unique (impl_PairPut.j0L_is x0 x1 x2 x22) (LimIs.step (f := fun k => if x22 = true then (some (([] : List (S29)), false)) else ((impl_pairPlace.f k x0 x1).bind fun bt304 => (if bt304.2 = true then ((impl_Pair_137.f x0 bt304.1 1 (([(⟨x1, x2⟩ : S29)] : List (S29)))).bind fun t309 => (some (t309, true))) else (if (x0.length : Int) ≥ 48 then ((impl_Pair_96.f x0).bind fun t312 => (some (t312, false))) else ((impl_Pair_137.f x0 bt304.1 0 (([(⟨x1, x2⟩ : S29)] : List (S29)))).bind fun t318 => (some (t318, true))))))) (by simp only [impl_PairPut.j0]) (fun k => by simp only [impl_PairPut.j0]) ?_)
  repeat' first
    | (with_reducible exact LimIs.const _)
    | (with_reducible exact impl_pairPlace.fL_is _ _)
    | (with_reducible refine LimIs.ite ?_ ?_)
    | (with_reducible refine LimIs.bind ?_ (fun _ => ?_))
theorem impl_PairPut.fL_eq (l0 : List (S29)) (a1 : ByteArray) (a2 : Int) : impl_PairPut.fL l0 a1 a2 = (impl_PairsValid.fL l0).bind fun t301 => (if t301 = true then ((impl_KeyValid.fL a1).bind fun t302 => (if t302 = true then ((impl_valueValid.f a2).bind fun t303 => (impl_PairPut.j0L l0 a1 a2 (!t303))) else (impl_PairPut.j0L l0 a1 a2 true))) else (impl_PairPut.j0L l0 a1 a2 true)) := by
  refine LimIs.unique (impl_PairPut.fL_is l0 a1 a2) ?_
  unfold impl_PairPut.f
  repeat' first
    | (with_reducible exact LimIs.const _)
    | (with_reducible exact impl_KeyValid.fL_is _)
    | (with_reducible exact impl_PairPut.j0L_is _ _ _ _)
    | (with_reducible exact impl_PairsValid.fL_is _)
    | (with_reducible refine LimIs.ite ?_ ?_)
    | (with_reducible refine LimIs.bind ?_ (fun _ => ?_))
/-! ### impl_ApplyFeed -/
noncomputable def impl_ApplyFeed.j0L (x0 : List (S29)) (x1 : List (S75)) (x17 : Bool) : Option ((List (S29)) × Bool) := Lim (fun k => impl_ApplyFeed.j0 k x0 x1 x17)
theorem impl_ApplyFeed.j0L_is (x0 : List (S29)) (x1 : List (S75)) (x17 : Bool) : LimIs (fun k => impl_ApplyFeed.j0 k x0 x1 x17) (impl_ApplyFeed.j0L x0 x1 x17) := LimIs.of_mono (fun k r h => (impl_ApplyFeed.mono_l k).1 x0 x1 x17 r h)
noncomputable def impl_ApplyFeed.l0L (x6 : List (S29)) (x20 : List (S75)) (x21 : Int) (x22 : Int) : Option ((List (S29)) × Bool) := Lim (fun k => impl_ApplyFeed.l0 k x6 x20 x21 x22)
theorem impl_ApplyFeed.l0L_is (x6 : List (S29)) (x20 : List (S75)) (x21 : Int) (x22 : Int) : LimIs (fun k => impl_ApplyFeed.l0 k x6 x20 x21 x22) (impl_ApplyFeed.l0L x6 x20 x21 x22) := LimIs.of_mono (fun k r h => (impl_ApplyFeed.mono_l k).2 x6 x20 x21 x22 r h)
noncomputable def impl_ApplyFeed.fL (l0 : List (S29)) (l1 : List (S75)) : Option ((List (S29)) × Bool) := Lim (fun k => impl_ApplyFeed.f k l0 l1)
theorem impl_ApplyFeed.fL_is (l0 : List (S29)) (l1 : List (S75)) : LimIs (fun k => impl_ApplyFeed.f k l0 l1) (impl_ApplyFeed.fL l0 l1) := LimIs.of_mono (fun k r h => impl_ApplyFeed.mono l0 l1 k r h)
theorem impl_ApplyFeed.j0L_eq (x0 : List (S29)) (x1 : List (S75)) (x17 : Bool) : impl_ApplyFeed.j0L x0 x1 x17 = if x17 = true then (some (([] : List (S29)), false)) else ((impl_Pair_96.f x0).bind fun t323 => (impl_ApplyFeed.l0L t323 x1 (x1.length : Int) 0)) := by
  refine LimIs.unique (impl_ApplyFeed.j0L_is x0 x1 x17) (LimIs.step (f := fun k => if x17 = true then (some (([] : List (S29)), false)) else ((impl_Pair_96.f x0).bind fun t323 => (impl_ApplyFeed.l0 k t323 x1 (x1.length : Int) 0))) (by simp only [impl_ApplyFeed.j0]) (fun k => by simp only [impl_ApplyFeed.j0]) ?_)
  repeat' first
    | (with_reducible exact LimIs.const _)
    | (with_reducible exact impl_ApplyFeed.l0L_is _ _ _ _)
    | (with_reducible refine LimIs.ite ?_ ?_)
    | (with_reducible refine LimIs.bind ?_ (fun _ => ?_))
theorem impl_ApplyFeed.l0L_eq (x6 : List (S29)) (x20 : List (S75)) (x21 : Int) (x22 : Int) : impl_ApplyFeed.l0L x6 x20 x21 x22 = if x22 < x21 then (if 0 ≤ x22 then (if x22 < (x20.length : Int) then ((impl_PairGet.fL x6 ((rd_T75 x20 x22).f1)).bind fun t328 => (if t328 = ((rd_T75 x20 x22).f2) then (if ((rd_T75 x20 x22).f3) = (-1) then ((impl_PairDrop.fL x6 ((rd_T75 x20 x22).f1)).bind fun bt329 => (if bt329.2 = true then (impl_ApplyFeed.l0L bt329.1 x20 x21 (wrap64 (x22 + 1))) else (some (([] : List (S29)), false)))) else ((impl_PairPut.fL x6 ((rd_T75 x20 x22).f1) ((rd_T75 x20 x22).f3)).bind fun bt333 => (if bt333.2 = true then (impl_ApplyFeed.l0L bt333.1 x20 x21 (wrap64 (x22 + 1))) else (some (([] : List (S29)), false))))) else (some (([] : List (S29)), false)))) else (none)) else (none)) else (some (x6, true)) := by
  refine LimIs.unique (impl_ApplyFeed.l0L_is x6 x20 x21 x22) (LimIs.step (f := fun k => if x22 < x21 then (if 0 ≤ x22 then (if x22 < (x20.length : Int) then ((impl_PairGet.f k x6 ((rd_T75 x20 x22).f1)).bind fun t328 => (if t328 = ((rd_T75 x20 x22).f2) then (if ((rd_T75 x20 x22).f3) = (-1) then ((impl_PairDrop.f k x6 ((rd_T75 x20 x22).f1)).bind fun bt329 => (if bt329.2 = true then (impl_ApplyFeed.l0 k bt329.1 x20 x21 (wrap64 (x22 + 1))) else (some (([] : List (S29)), false)))) else ((impl_PairPut.f k x6 ((rd_T75 x20 x22).f1) ((rd_T75 x20 x22).f3)).bind fun bt333 => (if bt333.2 = true then (impl_ApplyFeed.l0 k bt333.1 x20 x21 (wrap64 (x22 + 1))) else (some (([] : List (S29)), false))))) else (some (([] : List (S29)), false)))) else (none)) else (none)) else (some (x6, true))) (by simp only [impl_ApplyFeed.l0]) (fun k => by simp only [impl_ApplyFeed.l0]) ?_)
  repeat' first
    | (with_reducible exact LimIs.const _)
    | (with_reducible exact impl_ApplyFeed.l0L_is _ _ _ _)
    | (with_reducible exact impl_PairDrop.fL_is _ _)
    | (with_reducible exact impl_PairGet.fL_is _ _)
    | (with_reducible exact impl_PairPut.fL_is _ _ _)
    | (with_reducible refine LimIs.ite ?_ ?_)
    | (with_reducible refine LimIs.bind ?_ (fun _ => ?_))
theorem impl_ApplyFeed.fL_eq (l0 : List (S29)) (l1 : List (S75)) : impl_ApplyFeed.fL l0 l1 = (impl_PairsValid.fL l0).bind fun t321 => (if t321 = true then ((impl_FeedValid.fL l1).bind fun t322 => (impl_ApplyFeed.j0L l0 l1 (!t322))) else (impl_ApplyFeed.j0L l0 l1 true)) := by
  refine LimIs.unique (impl_ApplyFeed.fL_is l0 l1) ?_
  unfold impl_ApplyFeed.f
  repeat' first
    | (with_reducible exact LimIs.const _)
    | (with_reducible exact impl_ApplyFeed.j0L_is _ _ _)
    | (with_reducible exact impl_FeedValid.fL_is _)
    | (with_reducible exact impl_PairsValid.fL_is _)
    | (with_reducible refine LimIs.ite ?_ ?_)
    | (with_reducible refine LimIs.bind ?_ (fun _ => ?_))
/-! ### laws_eqPairS -/
noncomputable def laws_eqPairS.l0L (x0 : List (S29)) (x1 : List (S29)) (x5 : Int) : Option (Bool) := Lim (fun k => laws_eqPairS.l0 k x0 x1 x5)
theorem laws_eqPairS.l0L_is (x0 : List (S29)) (x1 : List (S29)) (x5 : Int) : LimIs (fun k => laws_eqPairS.l0 k x0 x1 x5) (laws_eqPairS.l0L x0 x1 x5) := LimIs.of_mono (fun k r h => (laws_eqPairS.mono_l k) x0 x1 x5 r h)
noncomputable def laws_eqPairS.fL (l0 : List (S29)) (l1 : List (S29)) : Option (Bool) := Lim (fun k => laws_eqPairS.f k l0 l1)
theorem laws_eqPairS.fL_is (l0 : List (S29)) (l1 : List (S29)) : LimIs (fun k => laws_eqPairS.f k l0 l1) (laws_eqPairS.fL l0 l1) := LimIs.of_mono (fun k r h => laws_eqPairS.mono l0 l1 k r h)
theorem laws_eqPairS.l0L_eq (x0 : List (S29)) (x1 : List (S29)) (x5 : Int) : laws_eqPairS.l0L x0 x1 x5 = if x5 < (x0.length : Int) then (if 0 ≤ x5 then (if x5 < (x1.length : Int) then ((laws_eqPair.f ((rd_T29 x0 x5).f0) ((rd_T29 x0 x5).f1) ((rd_T29 x1 x5).f0) ((rd_T29 x1 x5).f1)).bind fun t341 => (if t341 = true then (laws_eqPairS.l0L x0 x1 (wrap64 (x5 + 1))) else (some false))) else (none)) else (none)) else (some true) := by
  refine LimIs.unique (laws_eqPairS.l0L_is x0 x1 x5) (LimIs.step (f := fun k => if x5 < (x0.length : Int) then (if 0 ≤ x5 then (if x5 < (x1.length : Int) then ((laws_eqPair.f ((rd_T29 x0 x5).f0) ((rd_T29 x0 x5).f1) ((rd_T29 x1 x5).f0) ((rd_T29 x1 x5).f1)).bind fun t341 => (if t341 = true then (laws_eqPairS.l0 k x0 x1 (wrap64 (x5 + 1))) else (some false))) else (none)) else (none)) else (some true)) (by simp only [laws_eqPairS.l0]) (fun k => by simp only [laws_eqPairS.l0]) ?_)
  repeat' first
    | (with_reducible exact LimIs.const _)
    | (with_reducible exact laws_eqPairS.l0L_is _ _ _)
    | (with_reducible refine LimIs.ite ?_ ?_)
    | (with_reducible refine LimIs.bind ?_ (fun _ => ?_))
theorem laws_eqPairS.fL_eq (l0 : List (S29)) (l1 : List (S29)) : laws_eqPairS.fL l0 l1 = if (l0.length : Int) = (l1.length : Int) then (laws_eqPairS.l0L l0 l1 0) else (some false) := by
  refine LimIs.unique (laws_eqPairS.fL_is l0 l1) ?_
  unfold laws_eqPairS.f
  repeat' first
    | (with_reducible exact LimIs.const _)
    | (with_reducible exact laws_eqPairS.l0L_is _ _ _)
    | (with_reducible refine LimIs.ite ?_ ?_)
    | (with_reducible refine LimIs.bind ?_ (fun _ => ?_))
/-! ### laws_eqChangeS -/
noncomputable def laws_eqChangeS.l0L (x0 : List (S75)) (x1 : List (S75)) (x5 : Int) : Option (Bool) := Lim (fun k => laws_eqChangeS.l0 k x0 x1 x5)
theorem laws_eqChangeS.l0L_is (x0 : List (S75)) (x1 : List (S75)) (x5 : Int) : LimIs (fun k => laws_eqChangeS.l0 k x0 x1 x5) (laws_eqChangeS.l0L x0 x1 x5) := LimIs.of_mono (fun k r h => (laws_eqChangeS.mono_l k) x0 x1 x5 r h)
noncomputable def laws_eqChangeS.fL (l0 : List (S75)) (l1 : List (S75)) : Option (Bool) := Lim (fun k => laws_eqChangeS.f k l0 l1)
theorem laws_eqChangeS.fL_is (l0 : List (S75)) (l1 : List (S75)) : LimIs (fun k => laws_eqChangeS.f k l0 l1) (laws_eqChangeS.fL l0 l1) := LimIs.of_mono (fun k r h => laws_eqChangeS.mono l0 l1 k r h)
theorem laws_eqChangeS.l0L_eq (x0 : List (S75)) (x1 : List (S75)) (x5 : Int) : laws_eqChangeS.l0L x0 x1 x5 = if x5 < (x0.length : Int) then (if 0 ≤ x5 then (if x5 < (x1.length : Int) then ((laws_eqChange.f ((rd_T75 x0 x5).f0) ((rd_T75 x0 x5).f1) ((rd_T75 x0 x5).f2) ((rd_T75 x0 x5).f3) ((rd_T75 x1 x5).f0) ((rd_T75 x1 x5).f1) ((rd_T75 x1 x5).f2) ((rd_T75 x1 x5).f3)).bind fun t346 => (if t346 = true then (laws_eqChangeS.l0L x0 x1 (wrap64 (x5 + 1))) else (some false))) else (none)) else (none)) else (some true) := by
  refine LimIs.unique (laws_eqChangeS.l0L_is x0 x1 x5) (LimIs.step (f := fun k => if x5 < (x0.length : Int) then (if 0 ≤ x5 then (if x5 < (x1.length : Int) then ((laws_eqChange.f ((rd_T75 x0 x5).f0) ((rd_T75 x0 x5).f1) ((rd_T75 x0 x5).f2) ((rd_T75 x0 x5).f3) ((rd_T75 x1 x5).f0) ((rd_T75 x1 x5).f1) ((rd_T75 x1 x5).f2) ((rd_T75 x1 x5).f3)).bind fun t346 => (if t346 = true then (laws_eqChangeS.l0 k x0 x1 (wrap64 (x5 + 1))) else (some false))) else (none)) else (none)) else (some true)) (by simp only [laws_eqChangeS.l0]) (fun k => by simp only [laws_eqChangeS.l0]) ?_)
  repeat' first
    | (with_reducible exact LimIs.const _)
    | (with_reducible exact laws_eqChangeS.l0L_is _ _ _)
    | (with_reducible refine LimIs.ite ?_ ?_)
    | (with_reducible refine LimIs.bind ?_ (fun _ => ?_))
theorem laws_eqChangeS.fL_eq (l0 : List (S75)) (l1 : List (S75)) : laws_eqChangeS.fL l0 l1 = if (l0.length : Int) = (l1.length : Int) then (laws_eqChangeS.l0L l0 l1 0) else (some false) := by
  refine LimIs.unique (laws_eqChangeS.fL_is l0 l1) ?_
  unfold laws_eqChangeS.f
  repeat' first
    | (with_reducible exact LimIs.const _)
    | (with_reducible exact laws_eqChangeS.l0L_is _ _ _)
    | (with_reducible refine LimIs.ite ?_ ?_)
    | (with_reducible refine LimIs.bind ?_ (fun _ => ?_))
/-! ### laws_markText -/
noncomputable def laws_markText.l0L (x0 : Int) (x3 : ByteArray) : Option (ByteArray) := Lim (fun k => laws_markText.l0 k x0 x3)
theorem laws_markText.l0L_is (x0 : Int) (x3 : ByteArray) : LimIs (fun k => laws_markText.l0 k x0 x3) (laws_markText.l0L x0 x3) := LimIs.of_mono (fun k r h => (laws_markText.mono_l k) x0 x3 r h)
noncomputable def laws_markText.fL (a0 : Int) : Option (ByteArray) := Lim (fun k => laws_markText.f k a0)
theorem laws_markText.fL_is (a0 : Int) : LimIs (fun k => laws_markText.f k a0) (laws_markText.fL a0) := LimIs.of_mono (fun k r h => laws_markText.mono a0 k r h)
theorem laws_markText.l0L_eq (x0 : Int) (x3 : ByteArray) : laws_markText.l0L x0 x3 = if x0 > 0 then ((some (([(wrap64 (48 + (Int.tmod x0 10))) % 256] : List Int) : List Int)).bind fun y347 => (if (strOfNums y347).size + x3.size ≤ 9223372036854775807 then (laws_markText.l0L (wrap64 (Int.tdiv x0 10)) ((strOfNums y347) ++ x3)) else (none))) else (if 1 + x3.size ≤ 9223372036854775807 then (some ((⟨#[109]⟩ : ByteArray) ++ x3)) else (none)) := by
  refine LimIs.unique (laws_markText.l0L_is x0 x3) (LimIs.step (f := fun k => if x0 > 0 then ((some (([(wrap64 (48 + (Int.tmod x0 10))) % 256] : List Int) : List Int)).bind fun y347 => (if (strOfNums y347).size + x3.size ≤ 9223372036854775807 then (laws_markText.l0 k (wrap64 (Int.tdiv x0 10)) ((strOfNums y347) ++ x3)) else (none))) else (if 1 + x3.size ≤ 9223372036854775807 then (some ((⟨#[109]⟩ : ByteArray) ++ x3)) else (none))) (by simp only [laws_markText.l0]) (fun k => by simp only [laws_markText.l0]) ?_)
  repeat' first
    | (with_reducible exact LimIs.const _)
    | (with_reducible exact laws_markText.l0L_is _ _)
    | (with_reducible refine LimIs.ite ?_ ?_)
    | (with_reducible refine LimIs.bind ?_ (fun _ => ?_))
theorem laws_markText.fL_eq (a0 : Int) : laws_markText.fL a0 = if a0 ≤ 0 then (some (⟨#[109, 48]⟩ : ByteArray)) else (laws_markText.l0L a0 (⟨#[]⟩ : ByteArray)) := by
  refine LimIs.unique (laws_markText.fL_is a0) ?_
  unfold laws_markText.f
  repeat' first
    | (with_reducible exact LimIs.const _)
    | (with_reducible exact laws_markText.l0L_is _ _)
    | (with_reducible refine LimIs.ite ?_ ?_)
    | (with_reducible refine LimIs.bind ?_ (fun _ => ?_))
/-! ### laws_markPairS -/
noncomputable def laws_markPairS.l0L (x0 : List (S29)) (x1 : Int) (x5 : Int) : Option (Int × (List (S29))) := Lim (fun k => laws_markPairS.l0 k x0 x1 x5)
theorem laws_markPairS.l0L_is (x0 : List (S29)) (x1 : Int) (x5 : Int) : LimIs (fun k => laws_markPairS.l0 k x0 x1 x5) (laws_markPairS.l0L x0 x1 x5) := LimIs.of_mono (fun k r h => (laws_markPairS.mono_l k) x0 x1 x5 r h)
noncomputable def laws_markPairS.fL (l0 : List (S29)) (a1 : Int) : Option (Int × (List (S29))) := Lim (fun k => laws_markPairS.f k l0 a1)
theorem laws_markPairS.fL_is (l0 : List (S29)) (a1 : Int) : LimIs (fun k => laws_markPairS.f k l0 a1) (laws_markPairS.fL l0 a1) := LimIs.of_mono (fun k r h => laws_markPairS.mono l0 a1 k r h)
theorem laws_markPairS.l0L_eq (x0 : List (S29)) (x1 : Int) (x5 : Int) : laws_markPairS.l0L x0 x1 x5 = if x5 < (x0.length : Int) then ((laws_markText.fL x1).bind fun t350 => (if 0 ≤ x5 then ((some (x0.set (x5 : Int).toNat (⟨t350, (rd_T29 x0 x5).f1⟩ : S29) : List (S29))).bind fun y351 => (laws_markPairS.l0L (y351.set (x5 : Int).toNat (⟨(rd_T29 y351 x5).f0, wrap64 (x1 + 1)⟩ : S29)) (wrap64 ((wrap64 (x1 + 1)) + 1)) (wrap64 (x5 + 1)))) else (none))) else (some (x1, x0)) := by
  refine LimIs.unique (laws_markPairS.l0L_is x0 x1 x5) (LimIs.step (f := fun k => if x5 < (x0.length : Int) then ((laws_markText.f k x1).bind fun t350 => (if 0 ≤ x5 then ((some (x0.set (x5 : Int).toNat (⟨t350, (rd_T29 x0 x5).f1⟩ : S29) : List (S29))).bind fun y351 => (laws_markPairS.l0 k (y351.set (x5 : Int).toNat (⟨(rd_T29 y351 x5).f0, wrap64 (x1 + 1)⟩ : S29)) (wrap64 ((wrap64 (x1 + 1)) + 1)) (wrap64 (x5 + 1)))) else (none))) else (some (x1, x0))) (by simp only [laws_markPairS.l0]) (fun k => by simp only [laws_markPairS.l0]) ?_)
  repeat' first
    | (with_reducible exact LimIs.const _)
    | (with_reducible exact laws_markPairS.l0L_is _ _ _)
    | (with_reducible exact laws_markText.fL_is _)
    | (with_reducible refine LimIs.ite ?_ ?_)
    | (with_reducible refine LimIs.bind ?_ (fun _ => ?_))
theorem laws_markPairS.fL_eq (l0 : List (S29)) (a1 : Int) : laws_markPairS.fL l0 a1 = laws_markPairS.l0L l0 a1 0 := by
  refine LimIs.unique (laws_markPairS.fL_is l0 a1) ?_
  unfold laws_markPairS.f
  repeat' first
    | (with_reducible exact LimIs.const _)
    | (with_reducible exact laws_markPairS.l0L_is _ _ _)
    | (with_reducible refine LimIs.ite ?_ ?_)
    | (with_reducible refine LimIs.bind ?_ (fun _ => ?_))
/-! ### laws_markChangeS -/
noncomputable def laws_markChangeS.l0L (x0 : List (S75)) (x1 : Int) (x5 : Int) : Option (Int × (List (S75))) := Lim (fun k => laws_markChangeS.l0 k x0 x1 x5)
theorem laws_markChangeS.l0L_is (x0 : List (S75)) (x1 : Int) (x5 : Int) : LimIs (fun k => laws_markChangeS.l0 k x0 x1 x5) (laws_markChangeS.l0L x0 x1 x5) := LimIs.of_mono (fun k r h => (laws_markChangeS.mono_l k) x0 x1 x5 r h)
noncomputable def laws_markChangeS.fL (l0 : List (S75)) (a1 : Int) : Option (Int × (List (S75))) := Lim (fun k => laws_markChangeS.f k l0 a1)
theorem laws_markChangeS.fL_is (l0 : List (S75)) (a1 : Int) : LimIs (fun k => laws_markChangeS.f k l0 a1) (laws_markChangeS.fL l0 a1) := LimIs.of_mono (fun k r h => laws_markChangeS.mono l0 a1 k r h)
theorem laws_markChangeS.l0L_eq (x0 : List (S75)) (x1 : Int) (x5 : Int) : laws_markChangeS.l0L x0 x1 x5 = if x5 < (x0.length : Int) then (if 0 ≤ x5 then ((some (x0.set (x5 : Int).toNat (⟨x1, (rd_T75 x0 x5).f1, (rd_T75 x0 x5).f2, (rd_T75 x0 x5).f3⟩ : S75) : List (S75))).bind fun y353 => ((laws_markText.fL (wrap64 (x1 + 1))).bind fun t354 => ((some (y353.set (x5 : Int).toNat (⟨(rd_T75 y353 x5).f0, t354, (rd_T75 y353 x5).f2, (rd_T75 y353 x5).f3⟩ : S75) : List (S75))).bind fun y355 => ((some (y355.set (x5 : Int).toNat (⟨(rd_T75 y355 x5).f0, (rd_T75 y355 x5).f1, wrap64 ((wrap64 (x1 + 1)) + 1), (rd_T75 y355 x5).f3⟩ : S75) : List (S75))).bind fun y356 => (laws_markChangeS.l0L (y356.set (x5 : Int).toNat (⟨(rd_T75 y356 x5).f0, (rd_T75 y356 x5).f1, (rd_T75 y356 x5).f2, wrap64 ((wrap64 ((wrap64 (x1 + 1)) + 1)) + 1)⟩ : S75)) (wrap64 ((wrap64 ((wrap64 ((wrap64 (x1 + 1)) + 1)) + 1)) + 1)) (wrap64 (x5 + 1))))))) else (none)) else (some (x1, x0)) := by
  refine LimIs.unique (laws_markChangeS.l0L_is x0 x1 x5) (LimIs.step (f := fun k => if x5 < (x0.length : Int) then (if 0 ≤ x5 then ((some (x0.set (x5 : Int).toNat (⟨x1, (rd_T75 x0 x5).f1, (rd_T75 x0 x5).f2, (rd_T75 x0 x5).f3⟩ : S75) : List (S75))).bind fun y353 => ((laws_markText.f k (wrap64 (x1 + 1))).bind fun t354 => ((some (y353.set (x5 : Int).toNat (⟨(rd_T75 y353 x5).f0, t354, (rd_T75 y353 x5).f2, (rd_T75 y353 x5).f3⟩ : S75) : List (S75))).bind fun y355 => ((some (y355.set (x5 : Int).toNat (⟨(rd_T75 y355 x5).f0, (rd_T75 y355 x5).f1, wrap64 ((wrap64 (x1 + 1)) + 1), (rd_T75 y355 x5).f3⟩ : S75) : List (S75))).bind fun y356 => (laws_markChangeS.l0 k (y356.set (x5 : Int).toNat (⟨(rd_T75 y356 x5).f0, (rd_T75 y356 x5).f1, (rd_T75 y356 x5).f2, wrap64 ((wrap64 ((wrap64 (x1 + 1)) + 1)) + 1)⟩ : S75)) (wrap64 ((wrap64 ((wrap64 ((wrap64 (x1 + 1)) + 1)) + 1)) + 1)) (wrap64 (x5 + 1))))))) else (none)) else (some (x1, x0))) (by simp only [laws_markChangeS.l0]) (fun k => by simp only [laws_markChangeS.l0]) ?_)
  repeat' first
    | (with_reducible exact LimIs.const _)
    | (with_reducible exact laws_markChangeS.l0L_is _ _ _)
    | (with_reducible exact laws_markText.fL_is _)
    | (with_reducible refine LimIs.ite ?_ ?_)
    | (with_reducible refine LimIs.bind ?_ (fun _ => ?_))
theorem laws_markChangeS.fL_eq (l0 : List (S75)) (a1 : Int) : laws_markChangeS.fL l0 a1 = laws_markChangeS.l0L l0 a1 0 := by
  refine LimIs.unique (laws_markChangeS.fL_is l0 a1) ?_
  unfold laws_markChangeS.f
  repeat' first
    | (with_reducible exact LimIs.const _)
    | (with_reducible exact laws_markChangeS.l0L_is _ _ _)
    | (with_reducible refine LimIs.ite ?_ ?_)
    | (with_reducible refine LimIs.bind ?_ (fun _ => ?_))
/-! ### laws_heldPairS -/
noncomputable def laws_heldPairS.l0L (x0 : List (S29)) (x1 : Int) (x5 : Int) : Option (Int) := Lim (fun k => laws_heldPairS.l0 k x0 x1 x5)
theorem laws_heldPairS.l0L_is (x0 : List (S29)) (x1 : Int) (x5 : Int) : LimIs (fun k => laws_heldPairS.l0 k x0 x1 x5) (laws_heldPairS.l0L x0 x1 x5) := LimIs.of_mono (fun k r h => (laws_heldPairS.mono_l k) x0 x1 x5 r h)
noncomputable def laws_heldPairS.fL (l0 : List (S29)) (a1 : Int) : Option (Int) := Lim (fun k => laws_heldPairS.f k l0 a1)
theorem laws_heldPairS.fL_is (l0 : List (S29)) (a1 : Int) : LimIs (fun k => laws_heldPairS.f k l0 a1) (laws_heldPairS.fL l0 a1) := LimIs.of_mono (fun k r h => laws_heldPairS.mono l0 a1 k r h)
theorem laws_heldPairS.l0L_eq (x0 : List (S29)) (x1 : Int) (x5 : Int) : laws_heldPairS.l0L x0 x1 x5 = if x5 < (x0.length : Int) then (if 0 ≤ x5 then ((laws_markText.fL x1).bind fun t359 => (if ((rd_T29 x0 x5).f0).toList = t359.toList then (if ((rd_T29 x0 x5).f1) = (wrap64 (x1 + 1)) then (laws_heldPairS.l0L x0 (wrap64 ((wrap64 (x1 + 1)) + 1)) (wrap64 (x5 + 1))) else (some (-1))) else (some (-1)))) else (none)) else (some x1) := by
  refine LimIs.unique (laws_heldPairS.l0L_is x0 x1 x5) (LimIs.step (f := fun k => if x5 < (x0.length : Int) then (if 0 ≤ x5 then ((laws_markText.f k x1).bind fun t359 => (if ((rd_T29 x0 x5).f0).toList = t359.toList then (if ((rd_T29 x0 x5).f1) = (wrap64 (x1 + 1)) then (laws_heldPairS.l0 k x0 (wrap64 ((wrap64 (x1 + 1)) + 1)) (wrap64 (x5 + 1))) else (some (-1))) else (some (-1)))) else (none)) else (some x1)) (by simp only [laws_heldPairS.l0]) (fun k => by simp only [laws_heldPairS.l0]) ?_)
  repeat' first
    | (with_reducible exact LimIs.const _)
    | (with_reducible exact laws_heldPairS.l0L_is _ _ _)
    | (with_reducible exact laws_markText.fL_is _)
    | (with_reducible refine LimIs.ite ?_ ?_)
    | (with_reducible refine LimIs.bind ?_ (fun _ => ?_))
theorem laws_heldPairS.fL_eq (l0 : List (S29)) (a1 : Int) : laws_heldPairS.fL l0 a1 = laws_heldPairS.l0L l0 a1 0 := by
  refine LimIs.unique (laws_heldPairS.fL_is l0 a1) ?_
  unfold laws_heldPairS.f
  repeat' first
    | (with_reducible exact LimIs.const _)
    | (with_reducible exact laws_heldPairS.l0L_is _ _ _)
    | (with_reducible refine LimIs.ite ?_ ?_)
    | (with_reducible refine LimIs.bind ?_ (fun _ => ?_))
/-! ### laws_FnExactApplyFeed -/
noncomputable def laws_FnExactApplyFeed.j0L (x0 : List (S104)) (x1 : List (S106)) (x6 : List (S29)) (x7 : Bool) (x8 : List (S29)) (x9 : List (S75)) (x10 : List (S29)) (x11 : Bool) (x53 : Bool) : Option (Bool) := Lim (fun k => laws_FnExactApplyFeed.j0 k x0 x1 x6 x7 x8 x9 x10 x11 x53)
theorem laws_FnExactApplyFeed.j0L_is (x0 : List (S104)) (x1 : List (S106)) (x6 : List (S29)) (x7 : Bool) (x8 : List (S29)) (x9 : List (S75)) (x10 : List (S29)) (x11 : Bool) (x53 : Bool) : LimIs (fun k => laws_FnExactApplyFeed.j0 k x0 x1 x6 x7 x8 x9 x10 x11 x53) (laws_FnExactApplyFeed.j0L x0 x1 x6 x7 x8 x9 x10 x11 x53) := LimIs.of_mono (fun k r h => (laws_FnExactApplyFeed.mono_l k).1 x0 x1 x6 x7 x8 x9 x10 x11 x53 r h)
noncomputable def laws_FnExactApplyFeed.j1L (x0 : List (S104)) (x1 : List (S106)) (x6 : List (S29)) (x7 : Bool) (x10 : List (S29)) (x82 : Bool) : Option (Bool) := Lim (fun k => laws_FnExactApplyFeed.j1 k x0 x1 x6 x7 x10 x82)
theorem laws_FnExactApplyFeed.j1L_is (x0 : List (S104)) (x1 : List (S106)) (x6 : List (S29)) (x7 : Bool) (x10 : List (S29)) (x82 : Bool) : LimIs (fun k => laws_FnExactApplyFeed.j1 k x0 x1 x6 x7 x10 x82) (laws_FnExactApplyFeed.j1L x0 x1 x6 x7 x10 x82) := LimIs.of_mono (fun k r h => (laws_FnExactApplyFeed.mono_l k).2.1 x0 x1 x6 x7 x10 x82 r h)
noncomputable def laws_FnExactApplyFeed.j2L (x10 : List (S29)) (x13 : Int) (x110 : Bool) : Option (Bool) := Lim (fun k => laws_FnExactApplyFeed.j2 k x10 x13 x110)
theorem laws_FnExactApplyFeed.j2L_is (x10 : List (S29)) (x13 : Int) (x110 : Bool) : LimIs (fun k => laws_FnExactApplyFeed.j2 k x10 x13 x110) (laws_FnExactApplyFeed.j2L x10 x13 x110) := LimIs.of_mono (fun k r h => (laws_FnExactApplyFeed.mono_l k).2.2 x10 x13 x110 r h)
noncomputable def laws_FnExactApplyFeed.fL (l0 : List (S104)) (l1 : List (S106)) : Option (Bool) := Lim (fun k => laws_FnExactApplyFeed.f k l0 l1)
theorem laws_FnExactApplyFeed.fL_is (l0 : List (S104)) (l1 : List (S106)) : LimIs (fun k => laws_FnExactApplyFeed.f k l0 l1) (laws_FnExactApplyFeed.fL l0 l1) := LimIs.of_mono (fun k r h => laws_FnExactApplyFeed.mono l0 l1 k r h)
theorem laws_FnExactApplyFeed.j0L_eq (x0 : List (S104)) (x1 : List (S106)) (x6 : List (S29)) (x7 : Bool) (x8 : List (S29)) (x9 : List (S75)) (x10 : List (S29)) (x11 : Bool) (x53 : Bool) : laws_FnExactApplyFeed.j0L x0 x1 x6 x7 x8 x9 x10 x11 x53 = if x53 = true then (some false) else ((laws_toPairS.fL x0).bind fun t384 => ((laws_eqPairS.fL x8 t384).bind fun t387 => (if t387 = true then ((laws_toChangeS.fL x1).bind fun t388 => ((laws_eqChangeS.fL x9 t388).bind fun t391 => (if t391 = true then ((laws_markPairS.fL x8 1).bind fun bt392 => ((laws_markChangeS.fL x9 bt392.1).bind fun bt394 => (if bt394.1 < 0 then (laws_FnExactApplyFeed.j1L x0 x1 x6 x7 x10 true) else ((laws_eqPairS.fL x10 x6).bind fun t396 => (if t396 = true then (laws_FnExactApplyFeed.j1L x0 x1 x6 x7 x10 (x11 != x7)) else (laws_FnExactApplyFeed.j1L x0 x1 x6 x7 x10 true)))))) else (some false)))) else (some false)))) := by
  refine LimIs.unique (laws_FnExactApplyFeed.j0L_is x0 x1 x6 x7 x8 x9 x10 x11 x53) (LimIs.step (f := fun k => if x53 = true then (some false) else ((laws_toPairS.f k x0).bind fun t384 => ((laws_eqPairS.f k x8 t384).bind fun t387 => (if t387 = true then ((laws_toChangeS.f k x1).bind fun t388 => ((laws_eqChangeS.f k x9 t388).bind fun t391 => (if t391 = true then ((laws_markPairS.f k x8 1).bind fun bt392 => ((laws_markChangeS.f k x9 bt392.1).bind fun bt394 => (if bt394.1 < 0 then (laws_FnExactApplyFeed.j1 k x0 x1 x6 x7 x10 true) else ((laws_eqPairS.f k x10 x6).bind fun t396 => (if t396 = true then (laws_FnExactApplyFeed.j1 k x0 x1 x6 x7 x10 (x11 != x7)) else (laws_FnExactApplyFeed.j1 k x0 x1 x6 x7 x10 true)))))) else (some false)))) else (some false))))) (by simp only [laws_FnExactApplyFeed.j0]) (fun k => by simp only [laws_FnExactApplyFeed.j0]) ?_)
  repeat' first
    | (with_reducible exact LimIs.const _)
    | (with_reducible exact laws_FnExactApplyFeed.j1L_is _ _ _ _ _ _)
    | (with_reducible exact laws_eqChangeS.fL_is _ _)
    | (with_reducible exact laws_eqPairS.fL_is _ _)
    | (with_reducible exact laws_markChangeS.fL_is _ _)
    | (with_reducible exact laws_markPairS.fL_is _ _)
    | (with_reducible exact laws_toChangeS.fL_is _)
    | (with_reducible exact laws_toPairS.fL_is _)
    | (with_reducible refine LimIs.ite ?_ ?_)
    | (with_reducible refine LimIs.bind ?_ (fun _ => ?_))
theorem laws_FnExactApplyFeed.j1L_eq (x0 : List (S104)) (x1 : List (S106)) (x6 : List (S29)) (x7 : Bool) (x10 : List (S29)) (x82 : Bool) : laws_FnExactApplyFeed.j1L x0 x1 x6 x7 x10 x82 = if x82 = true then (some false) else ((laws_markPairS.fL x10 1).bind fun bt397 => ((laws_heldPairS.fL bt397.2 1).bind fun t399 => (if t399 < 0 then (some false) else (if t399 = bt397.1 then ((laws_toPairS.fL x0).bind fun t400 => ((laws_toChangeS.fL x1).bind fun t403 => ((impl_ApplyFeed.fL t400 t403).bind fun bt406 => ((laws_eqPairS.fL bt406.1 x6).bind fun t410 => (if t410 = true then (laws_FnExactApplyFeed.j2L bt397.2 bt397.1 (bt406.2 != x7)) else (laws_FnExactApplyFeed.j2L bt397.2 bt397.1 true)))))) else (some false))))) := by
  refine LimIs.unique (laws_FnExactApplyFeed.j1L_is x0 x1 x6 x7 x10 x82) (LimIs.step (f := fun k => if x82 = true then (some false) else ((laws_markPairS.f k x10 1).bind fun bt397 => ((laws_heldPairS.f k bt397.2 1).bind fun t399 => (if t399 < 0 then (some false) else (if t399 = bt397.1 then ((laws_toPairS.f k x0).bind fun t400 => ((laws_toChangeS.f k x1).bind fun t403 => ((impl_ApplyFeed.f k t400 t403).bind fun bt406 => ((laws_eqPairS.f k bt406.1 x6).bind fun t410 => (if t410 = true then (laws_FnExactApplyFeed.j2 k bt397.2 bt397.1 (bt406.2 != x7)) else (laws_FnExactApplyFeed.j2 k bt397.2 bt397.1 true)))))) else (some false)))))) (by simp only [laws_FnExactApplyFeed.j1]) (fun k => by simp only [laws_FnExactApplyFeed.j1]) ?_)
  repeat' first
    | (with_reducible exact LimIs.const _)
    | (with_reducible exact impl_ApplyFeed.fL_is _ _)
    | (with_reducible exact laws_FnExactApplyFeed.j2L_is _ _ _)
    | (with_reducible exact laws_eqPairS.fL_is _ _)
    | (with_reducible exact laws_heldPairS.fL_is _ _)
    | (with_reducible exact laws_markPairS.fL_is _ _)
    | (with_reducible exact laws_toChangeS.fL_is _)
    | (with_reducible exact laws_toPairS.fL_is _)
    | (with_reducible refine LimIs.ite ?_ ?_)
    | (with_reducible refine LimIs.bind ?_ (fun _ => ?_))
theorem laws_FnExactApplyFeed.j2L_eq (x10 : List (S29)) (x13 : Int) (x110 : Bool) : laws_FnExactApplyFeed.j2L x10 x13 x110 = if x110 = true then (some false) else ((laws_heldPairS.fL x10 1).bind fun t411 => (if t411 < 0 then (some false) else (if t411 = x13 then (some true) else (some false)))) := by
  refine LimIs.unique (laws_FnExactApplyFeed.j2L_is x10 x13 x110) (LimIs.step (f := fun k => if x110 = true then (some false) else ((laws_heldPairS.f k x10 1).bind fun t411 => (if t411 < 0 then (some false) else (if t411 = x13 then (some true) else (some false))))) (by simp only [laws_FnExactApplyFeed.j2]) (fun k => by simp only [laws_FnExactApplyFeed.j2]) ?_)
  repeat' first
    | (with_reducible exact LimIs.const _)
    | (with_reducible exact laws_heldPairS.fL_is _ _)
    | (with_reducible refine LimIs.ite ?_ ?_)
    | (with_reducible refine LimIs.bind ?_ (fun _ => ?_))
theorem laws_FnExactApplyFeed.fL_eq (l0 : List (S104)) (l1 : List (S106)) : laws_FnExactApplyFeed.fL l0 l1 = (laws_szPairS.fL l0 1048576).bind fun t361 => (if t361 < 0 then (some true) else ((laws_szChangeS.fL l1 t361).bind fun t362 => (if t362 < 0 then (some true) else ((laws_toPairS.fL l0).bind fun t363 => ((laws_toChangeS.fL l1).bind fun t366 => ((spec_ApplyFeed.fL t363 t366).bind fun bt369 => ((laws_toPairS.fL l0).bind fun t373 => ((laws_toChangeS.fL l1).bind fun t376 => ((impl_ApplyFeed.fL t373 t376).bind fun bt379 => ((laws_eqPairS.fL bt379.1 bt369.1).bind fun t383 => (if t383 = true then (laws_FnExactApplyFeed.j0L l0 l1 bt369.1 bt369.2 t373 t376 bt379.1 bt379.2 (bt379.2 != bt369.2)) else (laws_FnExactApplyFeed.j0L l0 l1 bt369.1 bt369.2 t373 t376 bt379.1 bt379.2 true)))))))))))) := by
  refine LimIs.unique (laws_FnExactApplyFeed.fL_is l0 l1) ?_
  unfold laws_FnExactApplyFeed.f
  repeat' first
    | (with_reducible exact LimIs.const _)
    | (with_reducible exact impl_ApplyFeed.fL_is _ _)
    | (with_reducible exact laws_FnExactApplyFeed.j0L_is _ _ _ _ _ _ _ _ _)
    | (with_reducible exact laws_eqPairS.fL_is _ _)
    | (with_reducible exact laws_szChangeS.fL_is _ _)
    | (with_reducible exact laws_szPairS.fL_is _ _)
    | (with_reducible exact laws_toChangeS.fL_is _)
    | (with_reducible exact laws_toPairS.fL_is _)
    | (with_reducible exact spec_ApplyFeed.fL_is _ _)
    | (with_reducible refine LimIs.ite ?_ ?_)
    | (with_reducible refine LimIs.bind ?_ (fun _ => ?_))
end Go.Proofs.Ytfeeifefmenlmaa.PFnExactApplyFeed
