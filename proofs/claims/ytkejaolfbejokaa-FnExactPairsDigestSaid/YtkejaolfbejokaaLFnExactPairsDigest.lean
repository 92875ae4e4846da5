/- The limits of the printed functions, and their equations. Written by lim.py out of the print. No condition. -/
import Derived.Test.YtkejaolfbejokaaOFnExactPairsDigest
import Derived.Test.YtkejaolfbejokaaLim
namespace Go.Proofs.Ytkejaolfbejokaa.PFnExactPairsDigest
open Go.RowKit Go.Proofs.YtkejaolfbejokaaW.PrintWords Go.Proofs.YtkejaolfbejokaaW.PrintLast Go.Proofs.YtkejaolfbejokaaW.PrintMore Go.Proofs.Ytkejaolfbejokaa.Lim
set_option linter.unusedVariables false

/-! ### laws_szPairS -/
noncomputable def laws_szPairS.l0L (x0 : List (S103)) (x1 : Int) (x5 : Int) : Option (Int) := Lim (fun k => laws_szPairS.l0 k x0 x1 x5)
theorem laws_szPairS.l0L_is (x0 : List (S103)) (x1 : Int) (x5 : Int) : LimIs (fun k => laws_szPairS.l0 k x0 x1 x5) (laws_szPairS.l0L x0 x1 x5) := LimIs.of_mono (fun k r h => (laws_szPairS.mono_l k) x0 x1 x5 r h)
noncomputable def laws_szPairS.fL (l0 : List (S103)) (a1 : Int) : Option (Int) := Lim (fun k => laws_szPairS.f k l0 a1)
theorem laws_szPairS.fL_is (l0 : List (S103)) (a1 : Int) : LimIs (fun k => laws_szPairS.f k l0 a1) (laws_szPairS.fL l0 a1) := LimIs.of_mono (fun k r h => laws_szPairS.mono l0 a1 k r h)
theorem laws_szPairS.l0L_eq (x0 : List (S103)) (x1 : Int) (x5 : Int) : laws_szPairS.l0L x0 x1 x5 = if x5 < (x0.length : Int) then (if 0 ≤ x5 then ((laws_szPair.f ((rd_T103 x0 x5).f0) ((rd_T103 x0 x5).f1) x1).bind fun t103 => (if t103 < 0 then (some (-1)) else (laws_szPairS.l0L x0 t103 (wrap64 (x5 + 1))))) else (none)) else (some x1) := by
  refine LimIs.unique (laws_szPairS.l0L_is x0 x1 x5) (LimIs.step (f := fun k => if x5 < (x0.length : Int) then (if 0 ≤ x5 then ((laws_szPair.f ((rd_T103 x0 x5).f0) ((rd_T103 x0 x5).f1) x1).bind fun t103 => (if t103 < 0 then (some (-1)) else (laws_szPairS.l0 k x0 t103 (wrap64 (x5 + 1))))) else (none)) else (some x1)) (by simp only [laws_szPairS.l0]) (fun k => by simp only [laws_szPairS.l0]) ?_)
  repeat' first
    | (with_reducible exact LimIs.const _)
    | (with_reducible exact laws_szPairS.l0L_is _ _ _)
    | (with_reducible refine LimIs.ite ?_ ?_)
    | (with_reducible refine LimIs.bind ?_ (fun _ => ?_))
theorem laws_szPairS.fL_eq (l0 : List (S103)) (a1 : Int) : laws_szPairS.fL l0 a1 = if (wrap64 (a1 - (l0.length : Int))) < 0 then (some (-1)) else (laws_szPairS.l0L l0 (wrap64 (a1 - (l0.length : Int))) 0) := by
  refine LimIs.unique (laws_szPairS.fL_is l0 a1) ?_
  unfold laws_szPairS.f
  repeat' first
    | (with_reducible exact LimIs.const _)
    | (with_reducible exact laws_szPairS.l0L_is _ _ _)
    | (with_reducible refine LimIs.ite ?_ ?_)
    | (with_reducible refine LimIs.bind ?_ (fun _ => ?_))
/-! ### spec_KeyValid -/
noncomputable def spec_KeyValid.l0L (x0 : ByteArray) (x3 : Int) : Option (Bool) := Lim (fun k => spec_KeyValid.l0 k x0 x3)
theorem spec_KeyValid.l0L_is (x0 : ByteArray) (x3 : Int) : LimIs (fun k => spec_KeyValid.l0 k x0 x3) (spec_KeyValid.l0L x0 x3) := LimIs.of_mono (fun k r h => (spec_KeyValid.mono_l k) x0 x3 r h)
noncomputable def spec_KeyValid.fL (a0 : ByteArray) : Option (Bool) := Lim (fun k => spec_KeyValid.f k a0)
theorem spec_KeyValid.fL_is (a0 : ByteArray) : LimIs (fun k => spec_KeyValid.f k a0) (spec_KeyValid.fL a0) := LimIs.of_mono (fun k r h => spec_KeyValid.mono a0 k r h)
theorem spec_KeyValid.l0L_eq (x0 : ByteArray) (x3 : Int) : spec_KeyValid.l0L x0 x3 = if x3 < (x0.size : Int) then (if 0 ≤ x3 then (if (bt x0 x3) < 97 then (some false) else (if (bt x0 x3) > 122 then (some false) else (spec_KeyValid.l0L x0 (wrap64 (x3 + 1))))) else (none)) else (some true) := by
  refine LimIs.unique (spec_KeyValid.l0L_is x0 x3) (LimIs.step (f := fun k => if x3 < (x0.size : Int) then (if 0 ≤ x3 then (if (bt x0 x3) < 97 then (some false) else (if (bt x0 x3) > 122 then (some false) else (spec_KeyValid.l0 k x0 (wrap64 (x3 + 1))))) else (none)) else (some true)) (by simp only [spec_KeyValid.l0]) (fun k => by simp only [spec_KeyValid.l0]) ?_)
  repeat' first
    | (with_reducible exact LimIs.const _)
    | (with_reducible exact spec_KeyValid.l0L_is _ _)
    | (with_reducible refine LimIs.ite ?_ ?_)
    | (with_reducible refine LimIs.bind ?_ (fun _ => ?_))
theorem spec_KeyValid.fL_eq (a0 : ByteArray) : spec_KeyValid.fL a0 = (spec_l1In.f (a0.size : Int) 1 4).bind fun t104 => (if t104 = true then (spec_KeyValid.l0L a0 0) else (some false)) := by
  refine LimIs.unique (spec_KeyValid.fL_is a0) ?_
  unfold spec_KeyValid.f
  repeat' first
    | (with_reducible exact LimIs.const _)
    | (with_reducible exact spec_KeyValid.l0L_is _ _)
    | (with_reducible refine LimIs.ite ?_ ?_)
    | (with_reducible refine LimIs.bind ?_ (fun _ => ?_))
/-! ### spec_KeyRank -/
noncomputable def spec_KeyRank.l0L (x0 : ByteArray) (x3 : Int) (x4 : Int) : Option (Int) := Lim (fun k => spec_KeyRank.l0 k x0 x3 x4)
theorem spec_KeyRank.l0L_is (x0 : ByteArray) (x3 : Int) (x4 : Int) : LimIs (fun k => spec_KeyRank.l0 k x0 x3 x4) (spec_KeyRank.l0L x0 x3 x4) := LimIs.of_mono (fun k r h => (spec_KeyRank.mono_l k) x0 x3 x4 r h)
noncomputable def spec_KeyRank.fL (a0 : ByteArray) : Option (Int) := Lim (fun k => spec_KeyRank.f k a0)
theorem spec_KeyRank.fL_is (a0 : ByteArray) : LimIs (fun k => spec_KeyRank.f k a0) (spec_KeyRank.fL a0) := LimIs.of_mono (fun k r h => spec_KeyRank.mono a0 k r h)
theorem spec_KeyRank.l0L_eq (x0 : ByteArray) (x3 : Int) (x4 : Int) : spec_KeyRank.l0L x0 x3 x4 = if x4 < (x0.size : Int) then (if 0 ≤ x4 then ((spec_l1Weight.f x4).bind fun t106 => (spec_KeyRank.l0L x0 (wrap64 ((wrap64 (x3 + 1)) + (wrap64 ((((bt x0 x4) - 97) % 256) * t106)))) (wrap64 (x4 + 1)))) else (none)) else (some x3) := by
  refine LimIs.unique (spec_KeyRank.l0L_is x0 x3 x4) (LimIs.step (f := fun k => if x4 < (x0.size : Int) then (if 0 ≤ x4 then ((spec_l1Weight.f x4).bind fun t106 => (spec_KeyRank.l0 k x0 (wrap64 ((wrap64 (x3 + 1)) + (wrap64 ((((bt x0 x4) - 97) % 256) * t106)))) (wrap64 (x4 + 1)))) else (none)) else (some x3)) (by simp only [spec_KeyRank.l0]) (fun k => by simp only [spec_KeyRank.l0]) ?_)
  repeat' first
    | (with_reducible exact LimIs.const _)
    | (with_reducible exact spec_KeyRank.l0L_is _ _ _)
    | (with_reducible refine LimIs.ite ?_ ?_)
    | (with_reducible refine LimIs.bind ?_ (fun _ => ?_))
theorem spec_KeyRank.fL_eq (a0 : ByteArray) : spec_KeyRank.fL a0 = (spec_KeyValid.fL a0).bind fun t105 => (if t105 = true then (spec_KeyRank.l0L a0 (-1) 0) else (some (-1))) := by
  refine LimIs.unique (spec_KeyRank.fL_is a0) ?_
  unfold spec_KeyRank.f
  repeat' first
    | (with_reducible exact LimIs.const _)
    | (with_reducible exact spec_KeyRank.l0L_is _ _ _)
    | (with_reducible exact spec_KeyValid.fL_is _)
    | (with_reducible refine LimIs.ite ?_ ?_)
    | (with_reducible refine LimIs.bind ?_ (fun _ => ?_))
/-! ### spec_PairDigest -/
noncomputable def spec_PairDigest.fL (a0_0 : ByteArray) (a0_1 : Int) : Option (Int) := Lim (fun k => spec_PairDigest.f k a0_0 a0_1)
theorem spec_PairDigest.fL_is (a0_0 : ByteArray) (a0_1 : Int) : LimIs (fun k => spec_PairDigest.f k a0_0 a0_1) (spec_PairDigest.fL a0_0 a0_1) := LimIs.of_mono (fun k r h => spec_PairDigest.mono a0_0 a0_1 k r h)
theorem spec_PairDigest.fL_eq (a0_0 : ByteArray) (a0_1 : Int) : spec_PairDigest.fL a0_0 a0_1 = (spec_KeyValid.fL a0_0).bind fun t108 => (if t108 = true then ((spec_l1In.f a0_1 0 999).bind fun t109 => (if t109 = true then ((spec_KeyRank.fL a0_0).bind fun t110 => (some (Int.tmod (wrap64 ((wrap64 ((wrap64 (1009 * t110)) + (wrap64 (7 * a0_1)))) + 3)) 99991))) else (some (-1)))) else (some (-1))) := by
  refine LimIs.unique (spec_PairDigest.fL_is a0_0 a0_1) ?_
  unfold spec_PairDigest.f
  repeat' first
    | (with_reducible exact LimIs.const _)
    | (with_reducible exact spec_KeyRank.fL_is _)
    | (with_reducible exact spec_KeyValid.fL_is _)
    | (with_reducible refine LimIs.ite ?_ ?_)
    | (with_reducible refine LimIs.bind ?_ (fun _ => ?_))
/-! ### spec_PairsValid -/
noncomputable def spec_PairsValid.l0L (x0 : List (S24)) (x3 : Int) : Option (Bool) := Lim (fun k => spec_PairsValid.l0 k x0 x3)
theorem spec_PairsValid.l0L_is (x0 : List (S24)) (x3 : Int) : LimIs (fun k => spec_PairsValid.l0 k x0 x3) (spec_PairsValid.l0L x0 x3) := LimIs.of_mono (fun k r h => (spec_PairsValid.mono_l k) x0 x3 r h)
noncomputable def spec_PairsValid.fL (l0 : List (S24)) : Option (Bool) := Lim (fun k => spec_PairsValid.f k l0)
theorem spec_PairsValid.fL_is (l0 : List (S24)) : LimIs (fun k => spec_PairsValid.f k l0) (spec_PairsValid.fL l0) := LimIs.of_mono (fun k r h => spec_PairsValid.mono l0 k r h)
theorem spec_PairsValid.l0L_eq (x0 : List (S24)) (x3 : Int) : spec_PairsValid.l0L x0 x3 = if x3 < (x0.length : Int) then (if 0 ≤ x3 then ((spec_KeyValid.fL ((rd_T24 x0 x3).f0)).bind fun t112 => (if t112 = true then ((spec_l1In.f ((rd_T24 x0 x3).f1) 0 999).bind fun t114 => (if t114 = true then (if x3 > 0 then (if 0 ≤ (wrap64 (x3 - 1)) then (if (wrap64 (x3 - 1)) < (x0.length : Int) then (if ((Op.bytesLess (((rd_T24 x0 (wrap64 (x3 - 1))).f0).toList) (((rd_T24 x0 x3).f0).toList)) = true) then (spec_PairsValid.l0L x0 (wrap64 (x3 + 1))) else (some false)) else (none)) else (none)) else (spec_PairsValid.l0L x0 (wrap64 (x3 + 1)))) else (some false))) else (some false))) else (none)) else (some true) := by
  refine LimIs.unique (spec_PairsValid.l0L_is x0 x3) (LimIs.step (f := fun k => if x3 < (x0.length : Int) then (if 0 ≤ x3 then ((spec_KeyValid.f k ((rd_T24 x0 x3).f0)).bind fun t112 => (if t112 = true then ((spec_l1In.f ((rd_T24 x0 x3).f1) 0 999).bind fun t114 => (if t114 = true then (if x3 > 0 then (if 0 ≤ (wrap64 (x3 - 1)) then (if (wrap64 (x3 - 1)) < (x0.length : Int) then (if ((Op.bytesLess (((rd_T24 x0 (wrap64 (x3 - 1))).f0).toList) (((rd_T24 x0 x3).f0).toList)) = true) then (spec_PairsValid.l0 k x0 (wrap64 (x3 + 1))) else (some false)) else (none)) else (none)) else (spec_PairsValid.l0 k x0 (wrap64 (x3 + 1)))) else (some false))) else (some false))) else (none)) else (some true)) (by simp only [spec_PairsValid.l0]) (fun k => by simp only [spec_PairsValid.l0]) ?_)
  repeat' first
    | (with_reducible exact LimIs.const _)
    | (with_reducible exact spec_KeyValid.fL_is _)
    | (with_reducible exact spec_PairsValid.l0L_is _ _)
    | (with_reducible refine LimIs.ite ?_ ?_)
    | (with_reducible refine LimIs.bind ?_ (fun _ => ?_))
theorem spec_PairsValid.fL_eq (l0 : List (S24)) : spec_PairsValid.fL l0 = if (l0.length : Int) > 48 then (some false) else (spec_PairsValid.l0L l0 0) := by
  refine LimIs.unique (spec_PairsValid.fL_is l0) ?_
  unfold spec_PairsValid.f
  repeat' first
    | (with_reducible exact LimIs.const _)
    | (with_reducible exact spec_PairsValid.l0L_is _ _)
    | (with_reducible refine LimIs.ite ?_ ?_)
    | (with_reducible refine LimIs.bind ?_ (fun _ => ?_))
/-! ### spec_PairsDigest -/
noncomputable def spec_PairsDigest.l0L (x0 : List (S24)) (x3 : Int) (x4 : Int) : Option (Int) := Lim (fun k => spec_PairsDigest.l0 k x0 x3 x4)
theorem spec_PairsDigest.l0L_is (x0 : List (S24)) (x3 : Int) (x4 : Int) : LimIs (fun k => spec_PairsDigest.l0 k x0 x3 x4) (spec_PairsDigest.l0L x0 x3 x4) := LimIs.of_mono (fun k r h => (spec_PairsDigest.mono_l k) x0 x3 x4 r h)
noncomputable def spec_PairsDigest.fL (l0 : List (S24)) : Option (Int) := Lim (fun k => spec_PairsDigest.f k l0)
theorem spec_PairsDigest.fL_is (l0 : List (S24)) : LimIs (fun k => spec_PairsDigest.f k l0) (spec_PairsDigest.fL l0) := LimIs.of_mono (fun k r h => spec_PairsDigest.mono l0 k r h)
theorem spec_PairsDigest.l0L_eq (x0 : List (S24)) (x3 : Int) (x4 : Int) : spec_PairsDigest.l0L x0 x3 x4 = if x4 < (x0.length : Int) then (if 0 ≤ x4 then ((spec_PairDigest.fL ((rd_T24 x0 x4).f0) ((rd_T24 x0 x4).f1)).bind fun t119 => (spec_PairsDigest.l0L x0 (Int.tmod (wrap64 (x3 + t119)) 99991) (wrap64 (x4 + 1)))) else (none)) else (some x3) := by
  refine LimIs.unique (spec_PairsDigest.l0L_is x0 x3 x4) (LimIs.step (f := fun k => if x4 < (x0.length : Int) then (if 0 ≤ x4 then ((spec_PairDigest.f k ((rd_T24 x0 x4).f0) ((rd_T24 x0 x4).f1)).bind fun t119 => (spec_PairsDigest.l0 k x0 (Int.tmod (wrap64 (x3 + t119)) 99991) (wrap64 (x4 + 1)))) else (none)) else (some x3)) (by simp only [spec_PairsDigest.l0]) (fun k => by simp only [spec_PairsDigest.l0]) ?_)
  repeat' first
    | (with_reducible exact LimIs.const _)
    | (with_reducible exact spec_PairDigest.fL_is _ _)
    | (with_reducible exact spec_PairsDigest.l0L_is _ _ _)
    | (with_reducible refine LimIs.ite ?_ ?_)
    | (with_reducible refine LimIs.bind ?_ (fun _ => ?_))
theorem spec_PairsDigest.fL_eq (l0 : List (S24)) : spec_PairsDigest.fL l0 = (spec_PairsValid.fL l0).bind fun t117 => (if t117 = true then (spec_PairsDigest.l0L l0 0 0) else (some (-1))) := by
  refine LimIs.unique (spec_PairsDigest.fL_is l0) ?_
  unfold spec_PairsDigest.f
  repeat' first
    | (with_reducible exact LimIs.const _)
    | (with_reducible exact spec_PairsDigest.l0L_is _ _ _)
    | (with_reducible exact spec_PairsValid.fL_is _)
    | (with_reducible refine LimIs.ite ?_ ?_)
    | (with_reducible refine LimIs.bind ?_ (fun _ => ?_))
/-! ### laws_toPairS -/
noncomputable def laws_toPairS.l0L (x0 : List (S103)) (x3 : List (S24)) (x4 : Int) : Option ((List (S24))) := Lim (fun k => laws_toPairS.l0 k x0 x3 x4)
theorem laws_toPairS.l0L_is (x0 : List (S103)) (x3 : List (S24)) (x4 : Int) : LimIs (fun k => laws_toPairS.l0 k x0 x3 x4) (laws_toPairS.l0L x0 x3 x4) := LimIs.of_mono (fun k r h => (laws_toPairS.mono_l k) x0 x3 x4 r h)
noncomputable def laws_toPairS.fL (l0 : List (S103)) : Option ((List (S24))) := Lim (fun k => laws_toPairS.f k l0)
theorem laws_toPairS.fL_is (l0 : List (S103)) : LimIs (fun k => laws_toPairS.f k l0) (laws_toPairS.fL l0) := LimIs.of_mono (fun k r h => laws_toPairS.mono l0 k r h)
theorem laws_toPairS.l0L_eq (x0 : List (S103)) (x3 : List (S24)) (x4 : Int) : laws_toPairS.l0L x0 x3 x4 = if x4 < (x0.length : Int) then (if 0 ≤ x4 then ((laws_toPair.f ((rd_T103 x0 x4).f0) ((rd_T103 x0 x4).f1)).bind fun bt127 => (if x4 < (x3.length : Int) then (laws_toPairS.l0L x0 (x3.set (x4 : Int).toNat (⟨bt127.1, bt127.2⟩ : S24)) (wrap64 (x4 + 1))) else (none))) else (none)) else (some x3) := by
  refine LimIs.unique (laws_toPairS.l0L_is x0 x3 x4) (LimIs.step (f := fun k => if x4 < (x0.length : Int) then (if 0 ≤ x4 then ((laws_toPair.f ((rd_T103 x0 x4).f0) ((rd_T103 x0 x4).f1)).bind fun bt127 => (if x4 < (x3.length : Int) then (laws_toPairS.l0 k x0 (x3.set (x4 : Int).toNat (⟨bt127.1, bt127.2⟩ : S24)) (wrap64 (x4 + 1))) else (none))) else (none)) else (some x3)) (by simp only [laws_toPairS.l0]) (fun k => by simp only [laws_toPairS.l0]) ?_)
  repeat' first
    | (with_reducible exact LimIs.const _)
    | (with_reducible exact laws_toPairS.l0L_is _ _ _)
    | (with_reducible refine LimIs.ite ?_ ?_)
    | (with_reducible refine LimIs.bind ?_ (fun _ => ?_))
theorem laws_toPairS.fL_eq (l0 : List (S103)) : laws_toPairS.fL l0 = if 0 ≤ (l0.length : Int) then (if ((l0.length : Int) : Int).toNat ≤ 11728124029610 then (laws_toPairS.l0L l0 (List.replicate ((l0.length : Int) : Int).toNat z24) 0) else (none)) else (none) := by
  refine LimIs.unique (laws_toPairS.fL_is l0) ?_
  unfold laws_toPairS.f
  repeat' first
    | (with_reducible exact LimIs.const _)
    | (with_reducible exact laws_toPairS.l0L_is _ _ _)
    | (with_reducible refine LimIs.ite ?_ ?_)
    | (with_reducible refine LimIs.bind ?_ (fun _ => ?_))
/-! ### impl_lettersOnly -/
noncomputable def impl_lettersOnly.fL (a0 : ByteArray) : Option (Bool) := Lim (fun k => impl_lettersOnly.f k a0)
theorem impl_lettersOnly.fL_is (a0 : ByteArray) : LimIs (fun k => impl_lettersOnly.f k a0) (impl_lettersOnly.fL a0) := LimIs.of_mono (fun k r h => impl_lettersOnly.mono a0 k r h)
theorem impl_lettersOnly.fL_eq (a0 : ByteArray) : impl_lettersOnly.fL a0 = if a0.toList = ([] : List UInt8) then (some true) else (if 0 < (a0.size : Int) then (if (bt a0 0) ≥ 97 then (if (bt a0 0) ≤ 122 then (if 1 ≤ (a0.size : Int) then ((impl_lettersOnly.fL (a0.extract 1 a0.size)).bind fun t130 => (some t130)) else (none)) else (some false)) else (some false)) else (none)) := by
  refine LimIs.unique (impl_lettersOnly.fL_is a0) (LimIs.step (f := fun k => if a0.toList = ([] : List UInt8) then (some true) else (if 0 < (a0.size : Int) then (if (bt a0 0) ≥ 97 then (if (bt a0 0) ≤ 122 then (if 1 ≤ (a0.size : Int) then ((impl_lettersOnly.f k (a0.extract 1 a0.size)).bind fun t130 => (some t130)) else (none)) else (some false)) else (some false)) else (none))) (by simp only [impl_lettersOnly.f]) (fun k => by simp only [impl_lettersOnly.f]) ?_)
  repeat' first
    | (with_reducible exact LimIs.const _)
    | (with_reducible exact impl_lettersOnly.fL_is _)
    | (with_reducible refine LimIs.ite ?_ ?_)
    | (with_reducible refine LimIs.bind ?_ (fun _ => ?_))
/-! ### impl_KeyValid -/
noncomputable def impl_KeyValid.fL (a0 : ByteArray) : Option (Bool) := Lim (fun k => impl_KeyValid.f k a0)
theorem impl_KeyValid.fL_is (a0 : ByteArray) : LimIs (fun k => impl_KeyValid.f k a0) (impl_KeyValid.fL a0) := LimIs.of_mono (fun k r h => impl_KeyValid.mono a0 k r h)
theorem impl_KeyValid.fL_eq (a0 : ByteArray) : impl_KeyValid.fL a0 = if (a0.size : Int) < 1 then (some false) else (if (a0.size : Int) > 4 then (some false) else ((impl_lettersOnly.fL a0).bind fun t131 => (some t131))) := by
  refine LimIs.unique (impl_KeyValid.fL_is a0) ?_
  unfold impl_KeyValid.f
  repeat' first
    | (with_reducible exact LimIs.const _)
    | (with_reducible exact impl_lettersOnly.fL_is _)
    | (with_reducible refine LimIs.ite ?_ ?_)
    | (with_reducible refine LimIs.bind ?_ (fun _ => ?_))
/-! ### impl_keysFrom -/
noncomputable def impl_keysFrom.fL (a0 : Int) : Option (Int) := Lim (fun k => impl_keysFrom.f k a0)
theorem impl_keysFrom.fL_is (a0 : Int) : LimIs (fun k => impl_keysFrom.f k a0) (impl_keysFrom.fL a0) := LimIs.of_mono (fun k r h => impl_keysFrom.mono a0 k r h)
theorem impl_keysFrom.fL_eq (a0 : Int) : impl_keysFrom.fL a0 = if a0 ≥ 4 then (some 1) else ((impl_keysFrom.fL (wrap64 (a0 + 1))).bind fun t132 => (some (wrap64 (1 + (wrap64 (26 * t132)))))) := by
  refine LimIs.unique (impl_keysFrom.fL_is a0) (LimIs.step (f := fun k => if a0 ≥ 4 then (some 1) else ((impl_keysFrom.f k (wrap64 (a0 + 1))).bind fun t132 => (some (wrap64 (1 + (wrap64 (26 * t132))))))) (by simp only [impl_keysFrom.f]) (fun k => by simp only [impl_keysFrom.f]) ?_)
  repeat' first
    | (with_reducible exact LimIs.const _)
    | (with_reducible exact impl_keysFrom.fL_is _)
    | (with_reducible refine LimIs.ite ?_ ?_)
    | (with_reducible refine LimIs.bind ?_ (fun _ => ?_))
/-! ### impl_rankBelow -/
noncomputable def impl_rankBelow.fL (a0 : ByteArray) (a1 : Int) : Option (Int) := Lim (fun k => impl_rankBelow.f k a0 a1)
theorem impl_rankBelow.fL_is (a0 : ByteArray) (a1 : Int) : LimIs (fun k => impl_rankBelow.f k a0 a1) (impl_rankBelow.fL a0 a1) := LimIs.of_mono (fun k r h => impl_rankBelow.mono a0 a1 k r h)
theorem impl_rankBelow.fL_eq (a0 : ByteArray) (a1 : Int) : impl_rankBelow.fL a0 a1 = if a0.toList = ([] : List UInt8) then (some 0) else (if 0 < (a0.size : Int) then ((impl_keysFrom.fL a1).bind fun t133 => (if 1 ≤ (a0.size : Int) then ((impl_rankBelow.fL (a0.extract 1 a0.size) (wrap64 (a1 + 1))).bind fun t134 => (some (wrap64 ((wrap64 (1 + (wrap64 ((((bt a0 0) - 97) % 256) * t133)))) + t134)))) else (none))) else (none)) := by
  refine LimIs.unique (impl_rankBelow.fL_is a0 a1) (LimIs.step (f := fun k => if a0.toList = ([] : List UInt8) then (some 0) else (if 0 < (a0.size : Int) then ((impl_keysFrom.f k a1).bind fun t133 => (if 1 ≤ (a0.size : Int) then ((impl_rankBelow.f k (a0.extract 1 a0.size) (wrap64 (a1 + 1))).bind fun t134 => (some (wrap64 ((wrap64 (1 + (wrap64 ((((bt a0 0) - 97) % 256) * t133)))) + t134)))) else (none))) else (none))) (by simp only [impl_rankBelow.f]) (fun k => by simp only [impl_rankBelow.f]) ?_)
  repeat' first
    | (with_reducible exact LimIs.const _)
    | (with_reducible exact impl_keysFrom.fL_is _)
    | (with_reducible exact impl_rankBelow.fL_is _ _)
    | (with_reducible refine LimIs.ite ?_ ?_)
    | (with_reducible refine LimIs.bind ?_ (fun _ => ?_))
/-! ### impl_KeyRank -/
noncomputable def impl_KeyRank.fL (a0 : ByteArray) : Option (Int) := Lim (fun k => impl_KeyRank.f k a0)
theorem impl_KeyRank.fL_is (a0 : ByteArray) : LimIs (fun k => impl_KeyRank.f k a0) (impl_KeyRank.fL a0) := LimIs.of_mono (fun k r h => impl_KeyRank.mono a0 k r h)
theorem impl_KeyRank.fL_eq (a0 : ByteArray) : impl_KeyRank.fL a0 = (impl_KeyValid.fL a0).bind fun t135 => (if t135 = true then ((impl_rankBelow.fL a0 1).bind fun t136 => (some (wrap64 (t136 - 1)))) else (some (-1))) := by
  refine LimIs.unique (impl_KeyRank.fL_is a0) ?_
  unfold impl_KeyRank.f
  repeat' first
    | (with_reducible exact LimIs.const _)
    | (with_reducible exact impl_KeyValid.fL_is _)
    | (with_reducible exact impl_rankBelow.fL_is _ _)
    | (with_reducible refine LimIs.ite ?_ ?_)
    | (with_reducible refine LimIs.bind ?_ (fun _ => ?_))
/-! ### impl_PairDigest -/
noncomputable def impl_PairDigest.fL (a0_0 : ByteArray) (a0_1 : Int) : Option (Int) := Lim (fun k => impl_PairDigest.f k a0_0 a0_1)
theorem impl_PairDigest.fL_is (a0_0 : ByteArray) (a0_1 : Int) : LimIs (fun k => impl_PairDigest.f k a0_0 a0_1) (impl_PairDigest.fL a0_0 a0_1) := LimIs.of_mono (fun k r h => impl_PairDigest.mono a0_0 a0_1 k r h)
theorem impl_PairDigest.fL_eq (a0_0 : ByteArray) (a0_1 : Int) : impl_PairDigest.fL a0_0 a0_1 = (impl_KeyValid.fL a0_0).bind fun t138 => (if t138 = true then ((impl_valueValid.f a0_1).bind fun t139 => (if t139 = true then ((impl_KeyRank.fL a0_0).bind fun t140 => (some (Int.tmod (wrap64 ((wrap64 ((wrap64 (1009 * t140)) + (wrap64 (7 * a0_1)))) + 3)) 99991))) else (some (-1)))) else (some (-1))) := by
  refine LimIs.unique (impl_PairDigest.fL_is a0_0 a0_1) ?_
  unfold impl_PairDigest.f
  repeat' first
    | (with_reducible exact LimIs.const _)
    | (with_reducible exact impl_KeyRank.fL_is _)
    | (with_reducible exact impl_KeyValid.fL_is _)
    | (with_reducible refine LimIs.ite ?_ ?_)
    | (with_reducible refine LimIs.bind ?_ (fun _ => ?_))
/-! ### impl_PairsValid -/
noncomputable def impl_PairsValid.l0L (x0 : List (S24)) (x8 : List (S24)) (x9 : Int) (x10 : Int) : Option (Bool) := Lim (fun k => impl_PairsValid.l0 k x0 x8 x9 x10)
theorem impl_PairsValid.l0L_is (x0 : List (S24)) (x8 : List (S24)) (x9 : Int) (x10 : Int) : LimIs (fun k => impl_PairsValid.l0 k x0 x8 x9 x10) (impl_PairsValid.l0L x0 x8 x9 x10) := LimIs.of_mono (fun k r h => (impl_PairsValid.mono_l k).1 x0 x8 x9 x10 r h)
noncomputable def impl_PairsValid.j1L (x0 : List (S24)) (x3 : Int) (x8 : List (S24)) (x9 : Int) (x10 : Int) (x24 : Bool) (x143000 : ByteArray) (x143001 : Int) : Option (Bool) := Lim (fun k => impl_PairsValid.j1 k x0 x3 x8 x9 x10 x24 x143000 x143001)
theorem impl_PairsValid.j1L_is (x0 : List (S24)) (x3 : Int) (x8 : List (S24)) (x9 : Int) (x10 : Int) (x24 : Bool) (x143000 : ByteArray) (x143001 : Int) : LimIs (fun k => impl_PairsValid.j1 k x0 x3 x8 x9 x10 x24 x143000 x143001) (impl_PairsValid.j1L x0 x3 x8 x9 x10 x24 x143000 x143001) := LimIs.of_mono (fun k r h => (impl_PairsValid.mono_l k).2 x0 x3 x8 x9 x10 x24 x143000 x143001 r h)
noncomputable def impl_PairsValid.fL (l0 : List (S24)) : Option (Bool) := Lim (fun k => impl_PairsValid.f k l0)
theorem impl_PairsValid.fL_is (l0 : List (S24)) : LimIs (fun k => impl_PairsValid.f k l0) (impl_PairsValid.fL l0) := LimIs.of_mono (fun k r h => impl_PairsValid.mono l0 k r h)
theorem impl_PairsValid.l0L_eq (x0 : List (S24)) (x8 : List (S24)) (x9 : Int) (x10 : Int) : impl_PairsValid.l0L x0 x8 x9 x10 = if x10 < x9 then (if 0 ≤ x10 then (if x10 < (x8.length : Int) then ((impl_KeyValid.fL ((rd_T24 x8 x10).f0)).bind fun t143 => (if t143 = true then ((impl_valueValid.f ((rd_T24 x8 x10).f1)).bind fun t144 => (impl_PairsValid.j1L x0 x10 x8 x9 x10 (!t144) ((rd_T24 x8 x10).f0) ((rd_T24 x8 x10).f1))) else (impl_PairsValid.j1L x0 x10 x8 x9 x10 true ((rd_T24 x8 x10).f0) ((rd_T24 x8 x10).f1)))) else (none)) else (none)) else (some true) := by
  refine LimIs.unique (impl_PairsValid.l0L_is x0 x8 x9 x10) (LimIs.step (f := fun k => if x10 < x9 then (if 0 ≤ x10 then (if x10 < (x8.length : Int) then ((impl_KeyValid.f k ((rd_T24 x8 x10).f0)).bind fun t143 => (if t143 = true then ((impl_valueValid.f ((rd_T24 x8 x10).f1)).bind fun t144 => (impl_PairsValid.j1 k x0 x10 x8 x9 x10 (!t144) ((rd_T24 x8 x10).f0) ((rd_T24 x8 x10).f1))) else (impl_PairsValid.j1 k x0 x10 x8 x9 x10 true ((rd_T24 x8 x10).f0) ((rd_T24 x8 x10).f1)))) else (none)) else (none)) else (some true)) (by simp only [impl_PairsValid.l0]) (fun k => by simp only [impl_PairsValid.l0]) ?_)
  repeat' first
    | (with_reducible exact LimIs.const _)
    | (with_reducible exact impl_KeyValid.fL_is _)
    | (with_reducible exact impl_PairsValid.j1L_is _ _ _ _ _ _ _ _)
    | (with_reducible refine LimIs.ite ?_ ?_)
    | (with_reducible refine LimIs.bind ?_ (fun _ => ?_))
theorem impl_PairsValid.j1L_eq (x0 : List (S24)) (x3 : Int) (x8 : List (S24)) (x9 : Int) (x10 : Int) (x24 : Bool) (x143000 : ByteArray) (x143001 : Int) : impl_PairsValid.j1L x0 x3 x8 x9 x10 x24 x143000 x143001 = if x24 = true then (some false) else (if x3 > 0 then (if 0 ≤ (wrap64 (x3 - 1)) then (if (wrap64 (x3 - 1)) < (x0.length : Int) then (if ((Op.bytesLess (((rd_T24 x0 (wrap64 (x3 - 1))).f0).toList) x143000.toList) = true) then (impl_PairsValid.l0L x0 x8 x9 (wrap64 (x10 + 1))) else (some false)) else (none)) else (none)) else (impl_PairsValid.l0L x0 x8 x9 (wrap64 (x10 + 1)))) := by
  refine LimIs.unique (impl_PairsValid.j1L_is x0 x3 x8 x9 x10 x24 x143000 x143001) (LimIs.step (f := fun k => if x24 = true then (some false) else (if x3 > 0 then (if 0 ≤ (wrap64 (x3 - 1)) then (if (wrap64 (x3 - 1)) < (x0.length : Int) then (if ((Op.bytesLess (((rd_T24 x0 (wrap64 (x3 - 1))).f0).toList) x143000.toList) = true) then (impl_PairsValid.l0 k x0 x8 x9 (wrap64 (x10 + 1))) else (some false)) else (none)) else (none)) else (impl_PairsValid.l0 k x0 x8 x9 (wrap64 (x10 + 1))))) (by simp only [impl_PairsValid.j1]) (fun k => by simp only [impl_PairsValid.j1]) ?_)
  repeat' first
    | (with_reducible exact LimIs.const _)
    | (with_reducible exact impl_PairsValid.l0L_is _ _ _ _)
    | (with_reducible refine LimIs.ite ?_ ?_)
    | (with_reducible refine LimIs.bind ?_ (fun _ => ?_))
theorem impl_PairsValid.fL_eq (l0 : List (S24)) : impl_PairsValid.fL l0 = if (l0.length : Int) > 48 then (some false) else (impl_PairsValid.l0L l0 l0 (l0.length : Int) 0) := by
  refine LimIs.unique (impl_PairsValid.fL_is l0) ?_
  unfold impl_PairsValid.f
  repeat' first
    | (with_reducible exact LimIs.const _)
    | (with_reducible exact impl_PairsValid.l0L_is _ _ _ _)
    | (with_reducible refine LimIs.ite ?_ ?_)
    | (with_reducible refine LimIs.bind ?_ (fun _ => ?_))
/-! ### impl_PairsDigest -/
noncomputable def impl_PairsDigest.l0L (x3 : Int) (x9 : List (S24)) (x10 : Int) (x11 : Int) : Option (Int) := Lim (fun k => impl_PairsDigest.l0 k x3 x9 x10 x11)
theorem impl_PairsDigest.l0L_is (x3 : Int) (x9 : List (S24)) (x10 : Int) (x11 : Int) : LimIs (fun k => impl_PairsDigest.l0 k x3 x9 x10 x11) (impl_PairsDigest.l0L x3 x9 x10 x11) := LimIs.of_mono (fun k r h => (impl_PairsDigest.mono_l k) x3 x9 x10 x11 r h)
noncomputable def impl_PairsDigest.fL (l0 : List (S24)) : Option (Int) := Lim (fun k => impl_PairsDigest.f k l0)
theorem impl_PairsDigest.fL_is (l0 : List (S24)) : LimIs (fun k => impl_PairsDigest.f k l0) (impl_PairsDigest.fL l0) := LimIs.of_mono (fun k r h => impl_PairsDigest.mono l0 k r h)
theorem impl_PairsDigest.l0L_eq (x3 : Int) (x9 : List (S24)) (x10 : Int) (x11 : Int) : impl_PairsDigest.l0L x3 x9 x10 x11 = if x11 < x10 then (if 0 ≤ x11 then (if x11 < (x9.length : Int) then ((impl_PairDigest.fL ((rd_T24 x9 x11).f0) ((rd_T24 x9 x11).f1)).bind fun t149 => (impl_PairsDigest.l0L (wrap64 (x3 + t149)) x9 x10 (wrap64 (x11 + 1)))) else (none)) else (none)) else (some (Int.tmod x3 99991)) := by
  refine LimIs.unique (impl_PairsDigest.l0L_is x3 x9 x10 x11) (LimIs.step (f := fun k => if x11 < x10 then (if 0 ≤ x11 then (if x11 < (x9.length : Int) then ((impl_PairDigest.f k ((rd_T24 x9 x11).f0) ((rd_T24 x9 x11).f1)).bind fun t149 => (impl_PairsDigest.l0 k (wrap64 (x3 + t149)) x9 x10 (wrap64 (x11 + 1)))) else (none)) else (none)) else (some (Int.tmod x3 99991))) (by simp only [impl_PairsDigest.l0]) (fun k => by simp only [impl_PairsDigest.l0]) ?_)
  repeat' first
    | (with_reducible exact LimIs.const _)
    | (with_reducible exact impl_PairDigest.fL_is _ _)
    | (with_reducible exact impl_PairsDigest.l0L_is _ _ _ _)
    | (with_reducible refine LimIs.ite ?_ ?_)
    | (with_reducible refine LimIs.bind ?_ (fun _ => ?_))
theorem impl_PairsDigest.fL_eq (l0 : List (S24)) : impl_PairsDigest.fL l0 = (impl_PairsValid.fL l0).bind fun t146 => (if t146 = true then (impl_PairsDigest.l0L 0 l0 (l0.length : Int) 0) else (some (-1))) := by
  refine LimIs.unique (impl_PairsDigest.fL_is l0) ?_
  unfold impl_PairsDigest.f
  repeat' first
    | (with_reducible exact LimIs.const _)
    | (with_reducible exact impl_PairsDigest.l0L_is _ _ _ _)
    | (with_reducible exact impl_PairsValid.fL_is _)
    | (with_reducible refine LimIs.ite ?_ ?_)
    | (with_reducible refine LimIs.bind ?_ (fun _ => ?_))
/-! ### laws_eqPairS -/
noncomputable def laws_eqPairS.l0L (x0 : List (S24)) (x1 : List (S24)) (x5 : Int) : Option (Bool) := Lim (fun k => laws_eqPairS.l0 k x0 x1 x5)
theorem laws_eqPairS.l0L_is (x0 : List (S24)) (x1 : List (S24)) (x5 : Int) : LimIs (fun k => laws_eqPairS.l0 k x0 x1 x5) (laws_eqPairS.l0L x0 x1 x5) := LimIs.of_mono (fun k r h => (laws_eqPairS.mono_l k) x0 x1 x5 r h)
noncomputable def laws_eqPairS.fL (l0 : List (S24)) (l1 : List (S24)) : Option (Bool) := Lim (fun k => laws_eqPairS.f k l0 l1)
theorem laws_eqPairS.fL_is (l0 : List (S24)) (l1 : List (S24)) : LimIs (fun k => laws_eqPairS.f k l0 l1) (laws_eqPairS.fL l0 l1) := LimIs.of_mono (fun k r h => laws_eqPairS.mono l0 l1 k r h)
theorem laws_eqPairS.l0L_eq (x0 : List (S24)) (x1 : List (S24)) (x5 : Int) : laws_eqPairS.l0L x0 x1 x5 = if x5 < (x0.length : Int) then (if 0 ≤ x5 then (if x5 < (x1.length : Int) then ((laws_eqPair.f ((rd_T24 x0 x5).f0) ((rd_T24 x0 x5).f1) ((rd_T24 x1 x5).f0) ((rd_T24 x1 x5).f1)).bind fun t154 => (if t154 = true then (laws_eqPairS.l0L x0 x1 (wrap64 (x5 + 1))) else (some false))) else (none)) else (none)) else (some true) := by
  refine LimIs.unique (laws_eqPairS.l0L_is x0 x1 x5) (LimIs.step (f := fun k => if x5 < (x0.length : Int) then (if 0 ≤ x5 then (if x5 < (x1.length : Int) then ((laws_eqPair.f ((rd_T24 x0 x5).f0) ((rd_T24 x0 x5).f1) ((rd_T24 x1 x5).f0) ((rd_T24 x1 x5).f1)).bind fun t154 => (if t154 = true then (laws_eqPairS.l0 k x0 x1 (wrap64 (x5 + 1))) else (some false))) else (none)) else (none)) else (some true)) (by simp only [laws_eqPairS.l0]) (fun k => by simp only [laws_eqPairS.l0]) ?_)
  repeat' first
    | (with_reducible exact LimIs.const _)
    | (with_reducible exact laws_eqPairS.l0L_is _ _ _)
    | (with_reducible refine LimIs.ite ?_ ?_)
    | (with_reducible refine LimIs.bind ?_ (fun _ => ?_))
theorem laws_eqPairS.fL_eq (l0 : List (S24)) (l1 : List (S24)) : laws_eqPairS.fL l0 l1 = if (l0.length : Int) = (l1.length : Int) then (laws_eqPairS.l0L l0 l1 0) else (some false) := by
  refine LimIs.unique (laws_eqPairS.fL_is l0 l1) ?_
  unfold laws_eqPairS.f
  repeat' first
    | (with_reducible exact LimIs.const _)
    | (with_reducible exact laws_eqPairS.l0L_is _ _ _)
    | (with_reducible refine LimIs.ite ?_ ?_)
    | (with_reducible refine LimIs.bind ?_ (fun _ => ?_))
/-! ### laws_FnExactPairsDigest -/
noncomputable def laws_FnExactPairsDigest.fL (l0 : List (S103)) : Option (Bool) := Lim (fun k => laws_FnExactPairsDigest.f k l0)
theorem laws_FnExactPairsDigest.fL_is (l0 : List (S103)) : LimIs (fun k => laws_FnExactPairsDigest.f k l0) (laws_FnExactPairsDigest.fL l0) := LimIs.of_mono (fun k r h => laws_FnExactPairsDigest.mono l0 k r h)
theorem laws_FnExactPairsDigest.fL_eq (l0 : List (S103)) : laws_FnExactPairsDigest.fL l0 = (laws_szPairS.fL l0 1048576).bind fun t155 => (if t155 < 0 then (some true) else ((laws_toPairS.fL l0).bind fun t156 => ((spec_PairsDigest.fL t156).bind fun t159 => ((laws_toPairS.fL l0).bind fun t160 => ((impl_PairsDigest.fL t160).bind fun t163 => (if t163 = t159 then ((laws_toPairS.fL l0).bind fun t164 => ((laws_eqPairS.fL t160 t164).bind fun t167 => (if t167 = true then (some true) else (some false)))) else (some false))))))) := by
  refine LimIs.unique (laws_FnExactPairsDigest.fL_is l0) ?_
  unfold laws_FnExactPairsDigest.f
  repeat' first
    | (with_reducible exact LimIs.const _)
    | (with_reducible exact impl_PairsDigest.fL_is _)
    | (with_reducible exact laws_eqPairS.fL_is _ _)
    | (with_reducible exact laws_szPairS.fL_is _ _)
    | (with_reducible exact laws_toPairS.fL_is _)
    | (with_reducible exact spec_PairsDigest.fL_is _)
    | (with_reducible refine LimIs.ite ?_ ?_)
    | (with_reducible refine LimIs.bind ?_ (fun _ => ?_))
end Go.Proofs.Ytkejaolfbejokaa.PFnExactPairsDigest
