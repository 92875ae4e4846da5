/- The limits of the printed functions, and their equations. Written by lim.py out of the print. No condition. -/
import Derived.Test.YtagknifdfpjlbaaDoorPFnRoutesTextx9
import Derived.Test.YtagknifdfpjlbaaDoorLim
namespace Go.Proofs.YtagknifdfpjlbaaDoor.PFnRoutesText
open Go.RowKit Go.Proofs.YtagknifdfpjlbaaDoorW.PrintWords Go.Proofs.YtagknifdfpjlbaaDoorW.PrintLast Go.Proofs.YtagknifdfpjlbaaDoorW.PrintMore Go.Proofs.YtagknifdfpjlbaaDoor.Lim
set_option linter.unusedVariables false

/-! ### impl_lettersOnly -/
section
variable (a0 : ByteArray)
noncomputable def impl_lettersOnly.fL : Option (Bool) := Lim (impl_lettersOnly.f · a0)
theorem impl_lettersOnly.fL_is : LimIs (impl_lettersOnly.f · a0) (impl_lettersOnly.fL a0) := lM (fun k => impl_lettersOnly.mono a0 k)
end
theorem impl_lettersOnly.fL_eq (a0 : ByteArray) : impl_lettersOnly.fL a0 = if a0.toList = ([] : List UInt8) then (some true) else (if 0 < (a0.size : Int) then (if (bt a0 0) ≥ 97 then (if (bt a0 0) ≤ 122 then (if 1 ≤ (a0.size : Int) then ((impl_lettersOnly.fL (a0.extract 1 a0.size)).bind fun t101 => (some t101)) else (none)) else (some false)) else (some false)) else (none)) := by
  refine lU (impl_lettersOnly.fL_is a0) (LimIs.step1 (by simp only [impl_lettersOnly.f]) ?_)
  simp only [impl_lettersOnly.f]
  repeat' with_reducible first | exact lK _ | exact impl_lettersOnly.fL_is .. | apply lI | apply lB | intro _
/-! ### impl_KeyValid -/
section
variable (a0 : ByteArray)
noncomputable def impl_KeyValid.fL : Option (Bool) := Lim (impl_KeyValid.f · a0)
theorem impl_KeyValid.fL_is : LimIs (impl_KeyValid.f · a0) (impl_KeyValid.fL a0) := lM (fun k => impl_KeyValid.mono a0 k)
end
theorem impl_KeyValid.fL_eq (a0 : ByteArray) : impl_KeyValid.fL a0 = if (a0.size : Int) < 1 then (some false) else (if (a0.size : Int) > 4 then (some false) else ((impl_lettersOnly.fL a0).bind fun t102 => (some t102))) := by
  refine lU (impl_KeyValid.fL_is a0) ?_
  unfold impl_KeyValid.f
  repeat' with_reducible first | exact lK _ | exact impl_lettersOnly.fL_is .. | apply lI | apply lB | intro _
/-! ### impl_keysFrom -/
section
variable (a0 : Int)
noncomputable def impl_keysFrom.fL : Option (Int) := Lim (impl_keysFrom.f · a0)
theorem impl_keysFrom.fL_is : LimIs (impl_keysFrom.f · a0) (impl_keysFrom.fL a0) := lM (fun k => impl_keysFrom.mono a0 k)
end
theorem impl_keysFrom.fL_eq (a0 : Int) : impl_keysFrom.fL a0 = if a0 ≥ 4 then (some 1) else ((impl_keysFrom.fL (wrap64 (a0 + 1))).bind fun t103 => (some (wrap64 (1 + (wrap64 (26 * t103)))))) := by
  refine lU (impl_keysFrom.fL_is a0) (LimIs.step1 (by simp only [impl_keysFrom.f]) ?_)
  simp only [impl_keysFrom.f]
  repeat' with_reducible first | exact lK _ | exact impl_keysFrom.fL_is .. | apply lI | apply lB | intro _
/-! ### impl_rankBelow -/
section
variable (a0 : ByteArray) (a1 : Int)
noncomputable def impl_rankBelow.fL : Option (Int) := Lim (impl_rankBelow.f · a0 a1)
theorem impl_rankBelow.fL_is : LimIs (impl_rankBelow.f · a0 a1) (impl_rankBelow.fL a0 a1) := lM (fun k => impl_rankBelow.mono a0 a1 k)
end
theorem impl_rankBelow.fL_eq (a0 : ByteArray) (a1 : Int) : impl_rankBelow.fL a0 a1 = if a0.toList = ([] : List UInt8) then (some 0) else (if 0 < (a0.size : Int) then ((impl_keysFrom.fL a1).bind fun t104 => (if 1 ≤ (a0.size : Int) then ((impl_rankBelow.fL (a0.extract 1 a0.size) (wrap64 (a1 + 1))).bind fun t105 => (some (wrap64 ((wrap64 (1 + (wrap64 ((((bt a0 0) - 97) % 256) * t104)))) + t105)))) else (none))) else (none)) := by
  refine lU (impl_rankBelow.fL_is a0 a1) (LimIs.step1 (by simp only [impl_rankBelow.f]) ?_)
  simp only [impl_rankBelow.f]
  repeat' with_reducible first | exact lK _ | exact impl_keysFrom.fL_is .. | exact impl_rankBelow.fL_is .. | apply lI | apply lB | intro _
/-! ### impl_KeyRank -/
section
variable (a0 : ByteArray)
noncomputable def impl_KeyRank.fL : Option (Int) := Lim (impl_KeyRank.f · a0)
theorem impl_KeyRank.fL_is : LimIs (impl_KeyRank.f · a0) (impl_KeyRank.fL a0) := lM (fun k => impl_KeyRank.mono a0 k)
end
theorem impl_KeyRank.fL_eq (a0 : ByteArray) : impl_KeyRank.fL a0 = (impl_KeyValid.fL a0).bind fun t106 => (if t106 = true then ((impl_rankBelow.fL a0 1).bind fun t107 => (some (wrap64 (t107 - 1)))) else (some (-1))) := by
  refine lU (impl_KeyRank.fL_is a0) ?_
  unfold impl_KeyRank.f
  repeat' with_reducible first | exact lK _ | exact impl_KeyValid.fL_is .. | exact impl_rankBelow.fL_is .. | apply lI | apply lB | intro _
/-! ### laws_alive -/
section
noncomputable def laws_alive.fL : Option (Bool) := Lim (laws_alive.f ·)
theorem laws_alive.fL_is : LimIs (laws_alive.f ·) (laws_alive.fL) := lM (fun k => laws_alive.mono k)
end
theorem laws_alive.fL_eq : laws_alive.fL = (impl_KeyRank.fL (⟨#[97, 97]⟩ : ByteArray)).bind fun t108 => (if t108 = 1 then ((impl_KeyRank.fL (⟨#[]⟩ : ByteArray)).bind fun t109 => (some (t109 == (-1)))) else (some false)) := by
  refine lU (laws_alive.fL_is) ?_
  unfold laws_alive.f
  repeat' with_reducible first | exact lK _ | exact impl_KeyRank.fL_is .. | apply lI | apply lB | intro _
/-! ### impl_IntervalValid -/
section
variable (a0_0 a0_1 : ByteArray)
noncomputable def impl_IntervalValid.fL : Option (Bool) := Lim (impl_IntervalValid.f · a0_0 a0_1)
theorem impl_IntervalValid.fL_is : LimIs (impl_IntervalValid.f · a0_0 a0_1) (impl_IntervalValid.fL a0_0 a0_1) := lM (fun k => impl_IntervalValid.mono a0_0 a0_1 k)
end
theorem impl_IntervalValid.fL_eq (a0_0 a0_1 : ByteArray) : impl_IntervalValid.fL a0_0 a0_1 = if a0_0.toList = ([] : List UInt8) then (if a0_1.toList = ([] : List UInt8) then (some true) else ((impl_KeyValid.fL a0_1).bind fun t112 => (if t112 = true then ((impl_lowestKey.f a0_0 a0_1).bind fun t113 => (some (Op.bytesLess t113.toList a0_1.toList))) else (some false)))) else ((impl_KeyValid.fL a0_0).bind fun t114 => (if t114 = true then (if a0_1.toList = ([] : List UInt8) then (some true) else ((impl_KeyValid.fL a0_1).bind fun t115 => (if t115 = true then ((impl_lowestKey.f a0_0 a0_1).bind fun t116 => (some (Op.bytesLess t116.toList a0_1.toList))) else (some false)))) else (some false))) := by
  refine lU (impl_IntervalValid.fL_is a0_0 a0_1) ?_
  unfold impl_IntervalValid.f
  repeat' with_reducible first | exact lK _ | exact impl_KeyValid.fL_is .. | apply lI | apply lB | intro _
/-! ### impl_IntervalJoin -/
section
variable (a0_0 a0_1 a1_0 a1_1 : ByteArray)
noncomputable def impl_IntervalJoin.fL : Option (ByteArray × ByteArray × Bool) := Lim (impl_IntervalJoin.f · a0_0 a0_1 a1_0 a1_1)
theorem impl_IntervalJoin.fL_is : LimIs (impl_IntervalJoin.f · a0_0 a0_1 a1_0 a1_1) (impl_IntervalJoin.fL a0_0 a0_1 a1_0 a1_1) := lM (fun k => impl_IntervalJoin.mono a0_0 a0_1 a1_0 a1_1 k)
end
theorem impl_IntervalJoin.fL_eq (a0_0 a0_1 a1_0 a1_1 : ByteArray) : impl_IntervalJoin.fL a0_0 a0_1 a1_0 a1_1 = (impl_IntervalValid.fL a0_0 a0_1).bind fun t120 => (if t120 = true then ((impl_IntervalValid.fL a1_0 a1_1).bind fun t121 => (if t121 = true then (if a0_1.toList = ([] : List UInt8) then (some ((⟨#[]⟩ : ByteArray), (⟨#[]⟩ : ByteArray), false)) else (if a0_1.toList = a1_0.toList then (some (a0_0, a1_1, true)) else (some ((⟨#[]⟩ : ByteArray), (⟨#[]⟩ : ByteArray), false)))) else (some ((⟨#[]⟩ : ByteArray), (⟨#[]⟩ : ByteArray), false)))) else (some ((⟨#[]⟩ : ByteArray), (⟨#[]⟩ : ByteArray), false))) := by
  refine lU (impl_IntervalJoin.fL_is a0_0 a0_1 a1_0 a1_1) ?_
  unfold impl_IntervalJoin.f
  repeat' with_reducible first | exact lK _ | exact impl_IntervalValid.fL_is .. | apply lI | apply lB | intro _
/-! ### impl_PartitionValid -/
section
variable (a : List (S58)) (b : Bool)
noncomputable def impl_PartitionValid.j0L : Option (Bool) := Lim (impl_PartitionValid.j0 · a b)
theorem impl_PartitionValid.j0L_is : LimIs (impl_PartitionValid.j0 · a b) (impl_PartitionValid.j0L a b) := lM (fun k => (impl_PartitionValid.mono_l k).1 a b)
end
section
variable (a b : List (S58)) (c d : Int)
noncomputable def impl_PartitionValid.l0L : Option (Bool) := Lim (impl_PartitionValid.l0 · a b c d)
theorem impl_PartitionValid.l0L_is : LimIs (impl_PartitionValid.l0 · a b c d) (impl_PartitionValid.l0L a b c d) := lM (fun k => (impl_PartitionValid.mono_l k).2 a b c d)
end
section
variable (l0 : List (S58))
noncomputable def impl_PartitionValid.fL : Option (Bool) := Lim (impl_PartitionValid.f · l0)
theorem impl_PartitionValid.fL_is : LimIs (impl_PartitionValid.f · l0) (impl_PartitionValid.fL l0) := lM (fun k => impl_PartitionValid.mono l0 k)
end
theorem impl_PartitionValid.j0L_eq (a : List (S58)) (b : Bool) : impl_PartitionValid.j0L a b = if b = true then (some false) else (impl_PartitionValid.l0L a a (a.length : Int) 0) := by
  refine lU (impl_PartitionValid.j0L_is a b) (LimIs.step1 (by simp only [impl_PartitionValid.j0]) ?_)
  simp only [impl_PartitionValid.j0]
  repeat' with_reducible first | exact lK _ | exact impl_PartitionValid.l0L_is .. | apply lI | apply lB | intro _
theorem impl_PartitionValid.l0L_eq (a b : List (S58)) (c d : Int) : impl_PartitionValid.l0L a b c d = if d < c then (if 0 ≤ d then (if d < (b.length : Int) then ((impl_IntervalValid.fL ((rd_T58 b d).f0) ((rd_T58 b d).f1)).bind fun t126 => (if t126 = true then (if d > 0 then (if 0 ≤ (wrap64 (d - 1)) then (if (wrap64 (d - 1)) < (a.length : Int) then ((impl_IntervalJoin.fL ((rd_T58 a (wrap64 (d - 1))).f0) ((rd_T58 a (wrap64 (d - 1))).f1) ((rd_T58 b d).f0) ((rd_T58 b d).f1)).bind fun bt128 => (if bt128.2.2 = true then (impl_PartitionValid.l0L a b c (wrap64 (d + 1))) else (some false))) else (none)) else (none)) else (impl_PartitionValid.l0L a b c (wrap64 (d + 1)))) else (some false))) else (none)) else (none)) else (some true) := by
  refine lU (impl_PartitionValid.l0L_is a b c d) (LimIs.step1 (by simp only [impl_PartitionValid.l0]) ?_)
  simp only [impl_PartitionValid.l0]
  repeat' with_reducible first | exact lK _ | exact impl_IntervalJoin.fL_is .. | exact impl_IntervalValid.fL_is .. | exact impl_PartitionValid.l0L_is .. | apply lI | apply lB | intro _
theorem impl_PartitionValid.fL_eq (l0 : List (S58)) : impl_PartitionValid.fL l0 = if (l0.length : Int) < 1 then (impl_PartitionValid.j0L l0 true) else (if (l0.length : Int) > 6 then (impl_PartitionValid.j0L l0 true) else (if 0 < (l0.length : Int) then (if ((rd_T58 l0 0).f0).toList = ([] : List UInt8) then (if 0 ≤ (wrap64 ((l0.length : Int) - 1)) then (if (wrap64 ((l0.length : Int) - 1)) < (l0.length : Int) then (impl_PartitionValid.j0L l0 (((rd_T58 l0 (wrap64 ((l0.length : Int) - 1))).f1).toList != ([] : List UInt8))) else (none)) else (none)) else (impl_PartitionValid.j0L l0 true)) else (none))) := by
  refine lU (impl_PartitionValid.fL_is l0) ?_
  unfold impl_PartitionValid.f
  repeat' with_reducible first | exact lK _ | exact impl_PartitionValid.j0L_is .. | apply lI | apply lB | intro _
/-! ### impl_spansOf -/
section
variable (a : List (S58)) (b : List (S60)) (c d : Int)
noncomputable def impl_spansOf.l0L : Option ((List (S58))) := Lim (impl_spansOf.l0 · a b c d)
theorem impl_spansOf.l0L_is : LimIs (impl_spansOf.l0 · a b c d) (impl_spansOf.l0L a b c d) := lM (fun k => (impl_spansOf.mono_l k) a b c d)
end
section
variable (l0 : List (S60))
noncomputable def impl_spansOf.fL : Option ((List (S58))) := Lim (impl_spansOf.f · l0)
theorem impl_spansOf.fL_is : LimIs (impl_spansOf.f · l0) (impl_spansOf.fL l0) := lM (fun k => impl_spansOf.mono l0 k)
end
theorem impl_spansOf.l0L_eq (a : List (S58)) (b : List (S60)) (c d : Int) : impl_spansOf.l0L a b c d = if d < c then (if 0 ≤ d then (if d < (b.length : Int) then (if a.length < 4398046511104 then (impl_spansOf.l0L (a ++ [(⟨(rd_T60 b d).f1.f0, (rd_T60 b d).f1.f1⟩ : S58)]) b c (wrap64 (d + 1))) else (none)) else (none)) else (none)) else (some a) := by
  refine lU (impl_spansOf.l0L_is a b c d) (LimIs.step1 (by simp only [impl_spansOf.l0]) ?_)
  simp only [impl_spansOf.l0]
  repeat' with_reducible first | exact lK _ | exact impl_spansOf.l0L_is .. | apply lI | apply lB | intro _
theorem impl_spansOf.fL_eq (l0 : List (S60)) : impl_spansOf.fL l0 = impl_spansOf.l0L ([] : List (S58)) l0 (l0.length : Int) 0 := by
  refine lU (impl_spansOf.fL_is l0) ?_
  unfold impl_spansOf.f
  repeat' with_reducible first | exact lK _ | exact impl_spansOf.l0L_is .. | apply lI | apply lB | intro _
/-! ### impl_routePlace -/
section
variable (a : Int) (b : List (S60)) (c d : Int)
noncomputable def impl_routePlace.l0L : Option (Int) := Lim (impl_routePlace.l0 · a b c d)
theorem impl_routePlace.l0L_is : LimIs (impl_routePlace.l0 · a b c d) (impl_routePlace.l0L a b c d) := lM (fun k => (impl_routePlace.mono_l k) a b c d)
end
section
variable (l0 : List (S60)) (a1 : Int)
noncomputable def impl_routePlace.fL : Option (Int) := Lim (impl_routePlace.f · l0 a1)
theorem impl_routePlace.fL_is : LimIs (impl_routePlace.f · l0 a1) (impl_routePlace.fL l0 a1) := lM (fun k => impl_routePlace.mono l0 a1 k)
end
theorem impl_routePlace.l0L_eq (a : Int) (b : List (S60)) (c d : Int) : impl_routePlace.l0L a b c d = if d < c then (if 0 ≤ d then (if d < (b.length : Int) then (if ((rd_T60 b d).f0) = a then (some d) else (impl_routePlace.l0L a b c (wrap64 (d + 1)))) else (none)) else (none)) else (some (-1)) := by
  refine lU (impl_routePlace.l0L_is a b c d) (LimIs.step1 (by simp only [impl_routePlace.l0]) ?_)
  simp only [impl_routePlace.l0]
  repeat' with_reducible first | exact lK _ | exact impl_routePlace.l0L_is .. | apply lI | apply lB | intro _
theorem impl_routePlace.fL_eq (l0 : List (S60)) (a1 : Int) : impl_routePlace.fL l0 a1 = impl_routePlace.l0L a1 l0 (l0.length : Int) 0 := by
  refine lU (impl_routePlace.fL_is l0 a1) ?_
  unfold impl_routePlace.f
  repeat' with_reducible first | exact lK _ | exact impl_routePlace.l0L_is .. | apply lI | apply lB | intro _
/-! ### impl_numbersDiffer -/
section
variable (a b : List (S60)) (c d : Int)
noncomputable def impl_numbersDiffer.l0L : Option (Bool) := Lim (impl_numbersDiffer.l0 · a b c d)
theorem impl_numbersDiffer.l0L_is : LimIs (impl_numbersDiffer.l0 · a b c d) (impl_numbersDiffer.l0L a b c d) := lM (fun k => (impl_numbersDiffer.mono_l k) a b c d)
end
section
variable (l0 : List (S60))
noncomputable def impl_numbersDiffer.fL : Option (Bool) := Lim (impl_numbersDiffer.f · l0)
theorem impl_numbersDiffer.fL_is : LimIs (impl_numbersDiffer.f · l0) (impl_numbersDiffer.fL l0) := lM (fun k => impl_numbersDiffer.mono l0 k)
end
theorem impl_numbersDiffer.l0L_eq (a b : List (S60)) (c d : Int) : impl_numbersDiffer.l0L a b c d = if d < c then (if 0 ≤ d then (if d < (b.length : Int) then ((impl_shardNumber.f ((rd_T60 b d).f0)).bind fun t141 => (if t141 = true then (if d ≤ (a.length : Int) then ((impl_routePlace.fL (a.take (d : Int).toNat) ((rd_T60 b d).f0)).bind fun t146 => (if t146 ≥ 0 then (some false) else (impl_numbersDiffer.l0L a b c (wrap64 (d + 1))))) else (none)) else (some false))) else (none)) else (none)) else (some true) := by
  refine lU (impl_numbersDiffer.l0L_is a b c d) (LimIs.step1 (by simp only [impl_numbersDiffer.l0]) ?_)
  simp only [impl_numbersDiffer.l0]
  repeat' with_reducible first | exact lK _ | exact impl_numbersDiffer.l0L_is .. | exact impl_routePlace.fL_is .. | apply lI | apply lB | intro _
theorem impl_numbersDiffer.fL_eq (l0 : List (S60)) : impl_numbersDiffer.fL l0 = impl_numbersDiffer.l0L l0 l0 (l0.length : Int) 0 := by
  refine lU (impl_numbersDiffer.fL_is l0) ?_
  unfold impl_numbersDiffer.f
  repeat' with_reducible first | exact lK _ | exact impl_numbersDiffer.l0L_is .. | apply lI | apply lB | intro _
/-! ### impl_RoutesValid -/
section
variable (l0 : List (S60))
noncomputable def impl_RoutesValid.fL : Option (Bool) := Lim (impl_RoutesValid.f · l0)
theorem impl_RoutesValid.fL_is : LimIs (impl_RoutesValid.f · l0) (impl_RoutesValid.fL l0) := lM (fun k => impl_RoutesValid.mono l0 k)
end
theorem impl_RoutesValid.fL_eq (l0 : List (S60)) : impl_RoutesValid.fL l0 = if (l0.length : Int) ≤ 6 then ((impl_spansOf.fL l0).bind fun t147 => ((impl_PartitionValid.fL t147).bind fun t150 => (if t150 = true then ((impl_numbersDiffer.fL l0).bind fun t151 => (some t151)) else (some false)))) else (some false) := by
  refine lU (impl_RoutesValid.fL_is l0) ?_
  unfold impl_RoutesValid.f
  repeat' with_reducible first | exact lK _ | exact impl_PartitionValid.fL_is .. | exact impl_numbersDiffer.fL_is .. | exact impl_spansOf.fL_is .. | apply lI | apply lB | intro _
/-! ### impl_RoutesText -/
section
variable (a : List ByteArray) (b : List (S60)) (c d : Int)
noncomputable def impl_RoutesText.l0L : Option (ByteArray) := Lim (impl_RoutesText.l0 · a b c d)
theorem impl_RoutesText.l0L_is : LimIs (impl_RoutesText.l0 · a b c d) (impl_RoutesText.l0L a b c d) := lM (fun k => (impl_RoutesText.mono_l k) a b c d)
end
section
variable (l0 : List (S60))
noncomputable def impl_RoutesText.fL : Option (ByteArray) := Lim (impl_RoutesText.f · l0)
theorem impl_RoutesText.fL_is : LimIs (impl_RoutesText.f · l0) (impl_RoutesText.fL l0) := lM (fun k => impl_RoutesText.mono l0 k)
end
theorem impl_RoutesText.l0L_eq (a : List ByteArray) (b : List (S60)) (c d : Int) : impl_RoutesText.l0L a b c d = if d < c then (if 0 ≤ d then (if d < (b.length : Int) then ((strconv_Itoa.f ((rd_T60 b d).f0)).bind fun t155 => (if t155.size + 1 ≤ 9223372036854775807 then (if (t155 ++ (⟨#[58]⟩ : ByteArray)).size + ((rd_T60 b d).f1.f0).size ≤ 9223372036854775807 then (if ((t155 ++ (⟨#[58]⟩ : ByteArray)) ++ ((rd_T60 b d).f1.f0)).size + 1 ≤ 9223372036854775807 then (if (((t155 ++ (⟨#[58]⟩ : ByteArray)) ++ ((rd_T60 b d).f1.f0)) ++ (⟨#[45]⟩ : ByteArray)).size + ((rd_T60 b d).f1.f1).size ≤ 9223372036854775807 then (if a.length < 8796093022208 then (impl_RoutesText.l0L (a ++ [(((t155 ++ (⟨#[58]⟩ : ByteArray)) ++ ((rd_T60 b d).f1.f0)) ++ (⟨#[45]⟩ : ByteArray)) ++ ((rd_T60 b d).f1.f1)]) b c (wrap64 (d + 1))) else (none)) else (none)) else (none)) else (none)) else (none))) else (none)) else (none)) else ((strings_Join.f a (⟨#[32]⟩ : ByteArray)).bind fun t159 => (some t159)) := by
  refine lU (impl_RoutesText.l0L_is a b c d) (LimIs.step1 (by simp only [impl_RoutesText.l0]) ?_)
  simp only [impl_RoutesText.l0]
  repeat' with_reducible first | exact lK _ | exact impl_RoutesText.l0L_is .. | apply lI | apply lB | intro _
theorem impl_RoutesText.fL_eq (l0 : List (S60)) : impl_RoutesText.fL l0 = (impl_RoutesValid.fL l0).bind fun t152 => (if t152 = true then (impl_RoutesText.l0L ([] : List ByteArray) l0 (l0.length : Int) 0) else (some (⟨#[]⟩ : ByteArray))) := by
  refine lU (impl_RoutesText.fL_is l0) ?_
  unfold impl_RoutesText.f
  repeat' with_reducible first | exact lK _ | exact impl_RoutesText.l0L_is .. | exact impl_RoutesValid.fL_is .. | apply lI | apply lB | intro _
/-! ### impl_ReadRoutes -/
section
variable (a : ByteArray) (b : List (S60)) (c : List ByteArray) (d e : Int)
noncomputable def impl_ReadRoutes.l0L : Option ((List (S60)) × Bool) := Lim (impl_ReadRoutes.l0 · a b c d e)
theorem impl_ReadRoutes.l0L_is : LimIs (impl_ReadRoutes.l0 · a b c d e) (impl_ReadRoutes.l0L a b c d e) := lM (fun k => (impl_ReadRoutes.mono_l k) a b c d e)
end
section
variable (a0 : ByteArray)
noncomputable def impl_ReadRoutes.fL : Option ((List (S60)) × Bool) := Lim (impl_ReadRoutes.f · a0)
theorem impl_ReadRoutes.fL_is : LimIs (impl_ReadRoutes.f · a0) (impl_ReadRoutes.fL a0) := lM (fun k => impl_ReadRoutes.mono a0 k)
end
theorem impl_ReadRoutes.l0L_eq (a : ByteArray) (b : List (S60)) (c : List ByteArray) (d e : Int) : impl_ReadRoutes.l0L a b c d e = if e < d then (if 0 ≤ e then (if e < (c.length : Int) then ((strings_Cut.f (rdOf ByteArray.empty c e) (⟨#[58]⟩ : ByteArray)).bind fun bt167 => ((strings_Cut.f bt167.2.1 (⟨#[45]⟩ : ByteArray)).bind fun bt170 => ((impl_numberOf.f bt167.1).bind fun t173 => (if b.length < 3518437208883 then (impl_ReadRoutes.l0L a (b ++ [(⟨t173, (⟨bt170.1, bt170.2.1⟩ : S58)⟩ : S60)]) c d (wrap64 (e + 1))) else (none))))) else (none)) else (none)) else ((impl_RoutesValid.fL b).bind fun t177 => (if t177 = true then ((impl_RoutesText.fL b).bind fun t178 => (if t178.toList = a.toList then (some (b, true)) else (some (([] : List (S60)), false)))) else (some (([] : List (S60)), false)))) := by
  refine lU (impl_ReadRoutes.l0L_is a b c d e) (LimIs.step1 (by simp only [impl_ReadRoutes.l0]) ?_)
  simp only [impl_ReadRoutes.l0]
  repeat' with_reducible first | exact lK _ | exact impl_ReadRoutes.l0L_is .. | exact impl_RoutesText.fL_is .. | exact impl_RoutesValid.fL_is .. | apply lI | apply lB | intro _
theorem impl_ReadRoutes.fL_eq (a0 : ByteArray) : impl_ReadRoutes.fL a0 = (strings_Split.f a0 (⟨#[32]⟩ : ByteArray)).bind fun t163 => (if (t163.length : Int) > 6 then (some (([] : List (S60)), false)) else (impl_ReadRoutes.l0L a0 ([] : List (S60)) t163 (t163.length : Int) 0)) := by
  refine lU (impl_ReadRoutes.fL_is a0) ?_
  unfold impl_ReadRoutes.f
  repeat' with_reducible first | exact lK _ | exact impl_ReadRoutes.l0L_is .. | apply lI | apply lB | intro _
/-! ### spec_l20Rd_pick -/
section
variable (a : Int) (b : Bool) (c : List Int) (d : Int)
noncomputable def spec_l20Rd_pick.j0L : Option (Int × Int) := Lim (spec_l20Rd_pick.j0 · a b c d)
theorem spec_l20Rd_pick.j0L_is : LimIs (spec_l20Rd_pick.j0 · a b c d) (spec_l20Rd_pick.j0L a b c d) := lM (fun k => (spec_l20Rd_pick.mono_l k) a b c d)
end
section
variable (s0_0 : List Int) (s0_1 a1 : Int)
noncomputable def spec_l20Rd_pick.fL : Option (Int × Int) := Lim (spec_l20Rd_pick.f · s0_0 s0_1 a1)
theorem spec_l20Rd_pick.fL_is : LimIs (spec_l20Rd_pick.f · s0_0 s0_1 a1) (spec_l20Rd_pick.fL s0_0 s0_1 a1) := lM (fun k => spec_l20Rd_pick.mono s0_0 s0_1 a1 k)
end
theorem spec_l20Rd_pick.j0L_eq (a : Int) (b : Bool) (c : List Int) (d : Int) : spec_l20Rd_pick.j0L a b c d = if b = true then (some (0, d)) else (if (wrap64 (d - 1)) < (c.length : Int) then (if 0 ≤ (wrap64 (d - 1)) then (if a = 0 then (none) else (some (Int.tmod (wrap64 (rd c (wrap64 (d - 1)))) a, d))) else (none)) else (if (c.length : Int) = 0 then (none) else (if 0 ≤ (Int.tmod (wrap64 (d - 1)) (c.length : Int)) then (if (Int.tmod (wrap64 (d - 1)) (c.length : Int)) < (c.length : Int) then (if 0 ≤ (Int.tmod (wrap64 ((wrap64 ((wrap64 (d - 1)) * 7)) + 3)) (c.length : Int)) then (if (Int.tmod (wrap64 ((wrap64 ((wrap64 (d - 1)) * 7)) + 3)) (c.length : Int)) < (c.length : Int) then (if a = 0 then (none) else (some (Int.tmod (Go.bits .xor .i64 (wrap64 ((wrap64 ((wrap64 ((wrap64 ((wrap64 (rd c (Int.tmod (wrap64 (d - 1)) (c.length : Int)))) * 131)) + (wrap64 ((wrap64 (rd c (Int.tmod (wrap64 ((wrap64 ((wrap64 (d - 1)) * 7)) + 3)) (c.length : Int)))) * 1117)))) + (wrap64 ((wrap64 (d - 1)) * 29)))) + (wrap64 ((wrap64 (Int.tdiv (wrap64 (d - 1)) (c.length : Int))) * 53)))) (wrap64 (Int.tdiv (wrap64 ((wrap64 ((wrap64 ((wrap64 ((wrap64 (rd c (Int.tmod (wrap64 (d - 1)) (c.length : Int)))) * 131)) + (wrap64 ((wrap64 (rd c (Int.tmod (wrap64 ((wrap64 ((wrap64 (d - 1)) * 7)) + 3)) (c.length : Int)))) * 1117)))) + (wrap64 ((wrap64 (d - 1)) * 29)))) + (wrap64 ((wrap64 (Int.tdiv (wrap64 (d - 1)) (c.length : Int))) * 53)))) 64))) a, d))) else (none)) else (none)) else (none)) else (none)))) := by
  refine lU (spec_l20Rd_pick.j0L_is a b c d) (LimIs.step1 (by simp only [spec_l20Rd_pick.j0]) ?_)
  simp only [spec_l20Rd_pick.j0]
  repeat' with_reducible first | exact lK _ | apply lI | apply lB | intro _
theorem spec_l20Rd_pick.fL_eq (s0_0 : List Int) (s0_1 a1 : Int) : spec_l20Rd_pick.fL s0_0 s0_1 a1 = if a1 < 1 then (spec_l20Rd_pick.j0L a1 true s0_0 (wrap64 (s0_1 + 1))) else (spec_l20Rd_pick.j0L a1 ((s0_0.length : Int) == 0) s0_0 (wrap64 (s0_1 + 1))) := by
  refine lU (spec_l20Rd_pick.fL_is s0_0 s0_1 a1) ?_
  unfold spec_l20Rd_pick.f
  repeat' with_reducible first | exact lK _ | exact spec_l20Rd_pick.j0L_is .. | apply lI | apply lB | intro _
/-! ### spec_l20Rd_odd -/
section
variable (s0_0 : List Int) (s0_1 a1 : Int)
noncomputable def spec_l20Rd_odd.fL : Option (Bool × Int) := Lim (spec_l20Rd_odd.f · s0_0 s0_1 a1)
theorem spec_l20Rd_odd.fL_is : LimIs (spec_l20Rd_odd.f · s0_0 s0_1 a1) (spec_l20Rd_odd.fL s0_0 s0_1 a1) := lM (fun k => spec_l20Rd_odd.mono s0_0 s0_1 a1 k)
end
theorem spec_l20Rd_odd.fL_eq (s0_0 : List Int) (s0_1 a1 : Int) : spec_l20Rd_odd.fL s0_0 s0_1 a1 = if a1 > 0 then ((spec_l20Rd_pick.fL s0_0 s0_1 a1).bind fun bt188 => (some ((bt188.1 == (wrap64 (a1 - 1))), bt188.2))) else (some (false, s0_1)) := by
  refine lU (spec_l20Rd_odd.fL_is s0_0 s0_1 a1) ?_
  unfold spec_l20Rd_odd.f
  repeat' with_reducible first | exact lK _ | exact spec_l20Rd_pick.fL_is .. | apply lI | apply lB | intro _
/-! ### spec_KeyValid -/
section
variable (a : ByteArray) (b : Int)
noncomputable def spec_KeyValid.l0L : Option (Bool) := Lim (spec_KeyValid.l0 · a b)
theorem spec_KeyValid.l0L_is : LimIs (spec_KeyValid.l0 · a b) (spec_KeyValid.l0L a b) := lM (fun k => (spec_KeyValid.mono_l k) a b)
end
section
variable (a0 : ByteArray)
noncomputable def spec_KeyValid.fL : Option (Bool) := Lim (spec_KeyValid.f · a0)
theorem spec_KeyValid.fL_is : LimIs (spec_KeyValid.f · a0) (spec_KeyValid.fL a0) := lM (fun k => spec_KeyValid.mono a0 k)
end
theorem spec_KeyValid.l0L_eq (a : ByteArray) (b : Int) : spec_KeyValid.l0L a b = if b < (a.size : Int) then (if 0 ≤ b then (if (bt a b) < 97 then (some false) else (if (bt a b) > 122 then (some false) else (spec_KeyValid.l0L a (wrap64 (b + 1))))) else (none)) else (some true) := by
  refine lU (spec_KeyValid.l0L_is a b) (LimIs.step1 (by simp only [spec_KeyValid.l0]) ?_)
  simp only [spec_KeyValid.l0]
  repeat' with_reducible first | exact lK _ | exact spec_KeyValid.l0L_is .. | apply lI | apply lB | intro _
theorem spec_KeyValid.fL_eq (a0 : ByteArray) : spec_KeyValid.fL a0 = (spec_l1In.f (a0.size : Int) 1 4).bind fun t190 => (if t190 = true then (spec_KeyValid.l0L a0 0) else (some false)) := by
  refine lU (spec_KeyValid.fL_is a0) ?_
  unfold spec_KeyValid.f
  repeat' with_reducible first | exact lK _ | exact spec_KeyValid.l0L_is .. | apply lI | apply lB | intro _
/-! ### spec_IntervalValid -/
section
variable (a0_0 a0_1 : ByteArray)
noncomputable def spec_IntervalValid.fL : Option (Bool) := Lim (spec_IntervalValid.f · a0_0 a0_1)
theorem spec_IntervalValid.fL_is : LimIs (spec_IntervalValid.f · a0_0 a0_1) (spec_IntervalValid.fL a0_0 a0_1) := lM (fun k => spec_IntervalValid.mono a0_0 a0_1 k)
end
theorem spec_IntervalValid.fL_eq (a0_0 a0_1 : ByteArray) : spec_IntervalValid.fL a0_0 a0_1 = if a0_0.toList = ([] : List UInt8) then (if a0_1.toList = ([] : List UInt8) then (some true) else ((spec_KeyValid.fL a0_1).bind fun t192 => (if t192 = true then (if (Op.bytesLess a0_0.toList a0_1.toList) = true then (some (a0_1.toList != ([97] : List UInt8))) else (some false)) else (some false)))) else ((spec_KeyValid.fL a0_0).bind fun t193 => (if t193 = true then (if a0_1.toList = ([] : List UInt8) then (some true) else ((spec_KeyValid.fL a0_1).bind fun t194 => (if t194 = true then (if (Op.bytesLess a0_0.toList a0_1.toList) = true then (some true) else (some false)) else (some false)))) else (some false))) := by
  refine lU (spec_IntervalValid.fL_is a0_0 a0_1) ?_
  unfold spec_IntervalValid.f
  repeat' with_reducible first | exact lK _ | exact spec_KeyValid.fL_is .. | apply lI | apply lB | intro _
/-! ### spec_IntervalJoin -/
section
variable (a0_0 a0_1 a1_0 a1_1 : ByteArray)
noncomputable def spec_IntervalJoin.fL : Option (ByteArray × ByteArray × Bool) := Lim (spec_IntervalJoin.f · a0_0 a0_1 a1_0 a1_1)
theorem spec_IntervalJoin.fL_is : LimIs (spec_IntervalJoin.f · a0_0 a0_1 a1_0 a1_1) (spec_IntervalJoin.fL a0_0 a0_1 a1_0 a1_1) := lM (fun k => spec_IntervalJoin.mono a0_0 a0_1 a1_0 a1_1 k)
end
theorem spec_IntervalJoin.fL_eq (a0_0 a0_1 a1_0 a1_1 : ByteArray) : spec_IntervalJoin.fL a0_0 a0_1 a1_0 a1_1 = (spec_IntervalValid.fL a0_0 a0_1).bind fun t198 => (if t198 = true then ((spec_IntervalValid.fL a1_0 a1_1).bind fun t199 => (if t199 = true then (if a0_1.toList = ([] : List UInt8) then (some ((⟨#[]⟩ : ByteArray), (⟨#[]⟩ : ByteArray), false)) else (if a0_1.toList = a1_0.toList then (some (a0_0, a1_1, true)) else (some ((⟨#[]⟩ : ByteArray), (⟨#[]⟩ : ByteArray), false)))) else (some ((⟨#[]⟩ : ByteArray), (⟨#[]⟩ : ByteArray), false)))) else (some ((⟨#[]⟩ : ByteArray), (⟨#[]⟩ : ByteArray), false))) := by
  refine lU (spec_IntervalJoin.fL_is a0_0 a0_1 a1_0 a1_1) ?_
  unfold spec_IntervalJoin.f
  repeat' with_reducible first | exact lK _ | exact spec_IntervalValid.fL_is .. | apply lI | apply lB | intro _
/-! ### spec_PartitionValid -/
section
variable (a : List (S58)) (b : Bool)
noncomputable def spec_PartitionValid.j0L : Option (Bool) := Lim (spec_PartitionValid.j0 · a b)
theorem spec_PartitionValid.j0L_is : LimIs (spec_PartitionValid.j0 · a b) (spec_PartitionValid.j0L a b) := lM (fun k => (spec_PartitionValid.mono_l k).1 a b)
end
section
variable (a : List (S58)) (b : Int)
noncomputable def spec_PartitionValid.l0L : Option (Bool) := Lim (spec_PartitionValid.l0 · a b)
theorem spec_PartitionValid.l0L_is : LimIs (spec_PartitionValid.l0 · a b) (spec_PartitionValid.l0L a b) := lM (fun k => (spec_PartitionValid.mono_l k).2 a b)
end
section
variable (l0 : List (S58))
noncomputable def spec_PartitionValid.fL : Option (Bool) := Lim (spec_PartitionValid.f · l0)
theorem spec_PartitionValid.fL_is : LimIs (spec_PartitionValid.f · l0) (spec_PartitionValid.fL l0) := lM (fun k => spec_PartitionValid.mono l0 k)
end
theorem spec_PartitionValid.j0L_eq (a : List (S58)) (b : Bool) : spec_PartitionValid.j0L a b = if b = true then (some false) else (spec_PartitionValid.l0L a 1) := by
  refine lU (spec_PartitionValid.j0L_is a b) (LimIs.step1 (by simp only [spec_PartitionValid.j0]) ?_)
  simp only [spec_PartitionValid.j0]
  repeat' with_reducible first | exact lK _ | exact spec_PartitionValid.l0L_is .. | apply lI | apply lB | intro _
theorem spec_PartitionValid.l0L_eq (a : List (S58)) (b : Int) : spec_PartitionValid.l0L a b = if b < (a.length : Int) then (if 0 ≤ (wrap64 (b - 1)) then (if (wrap64 (b - 1)) < (a.length : Int) then (if 0 ≤ b then ((spec_IntervalJoin.fL ((rd_T58 a (wrap64 (b - 1))).f0) ((rd_T58 a (wrap64 (b - 1))).f1) ((rd_T58 a b).f0) ((rd_T58 a b).f1)).bind fun bt207 => (if bt207.2.2 = true then (spec_PartitionValid.l0L a (wrap64 (b + 1))) else (some false))) else (none)) else (none)) else (none)) else (some true) := by
  refine lU (spec_PartitionValid.l0L_is a b) (LimIs.step1 (by simp only [spec_PartitionValid.l0]) ?_)
  simp only [spec_PartitionValid.l0]
  repeat' with_reducible first | exact lK _ | exact spec_IntervalJoin.fL_is .. | exact spec_PartitionValid.l0L_is .. | apply lI | apply lB | intro _
theorem spec_PartitionValid.fL_eq (l0 : List (S58)) : spec_PartitionValid.fL l0 = (spec_l1In.f (l0.length : Int) 1 6).bind fun t200 => (if t200 = true then (if 0 < (l0.length : Int) then ((spec_IntervalValid.fL ((rd_T58 l0 0).f0) ((rd_T58 l0 0).f1)).bind fun t202 => (if t202 = true then (if ((rd_T58 l0 0).f0).toList = ([] : List UInt8) then (if 0 ≤ (wrap64 ((l0.length : Int) - 1)) then (if (wrap64 ((l0.length : Int) - 1)) < (l0.length : Int) then (spec_PartitionValid.j0L l0 (((rd_T58 l0 (wrap64 ((l0.length : Int) - 1))).f1).toList != ([] : List UInt8))) else (none)) else (none)) else (spec_PartitionValid.j0L l0 true)) else (spec_PartitionValid.j0L l0 true))) else (none)) else (spec_PartitionValid.j0L l0 true)) := by
  refine lU (spec_PartitionValid.fL_is l0) ?_
  unfold spec_PartitionValid.f
  repeat' with_reducible first | exact lK _ | exact spec_IntervalValid.fL_is .. | exact spec_PartitionValid.j0L_is .. | apply lI | apply lB | intro _
/-! ### spec_PartitionOf -/
section
variable (a : List ByteArray) (b : List (S58)) (c : Int)
noncomputable def spec_PartitionOf.l0L : Option ((List (S58)) × Bool) := Lim (spec_PartitionOf.l0 · a b c)
theorem spec_PartitionOf.l0L_is : LimIs (spec_PartitionOf.l0 · a b c) (spec_PartitionOf.l0L a b c) := lM (fun k => (spec_PartitionOf.mono_l k) a b c)
end
section
variable (l0 : List ByteArray)
noncomputable def spec_PartitionOf.fL : Option ((List (S58)) × Bool) := Lim (spec_PartitionOf.f · l0)
theorem spec_PartitionOf.fL_is : LimIs (spec_PartitionOf.f · l0) (spec_PartitionOf.fL l0) := lM (fun k => spec_PartitionOf.mono l0 k)
end
theorem spec_PartitionOf.l0L_eq (a : List ByteArray) (b : List (S58)) (c : Int) : spec_PartitionOf.l0L a b c = if c < (a.length : Int) then (if (b.length : Int) ≤ 6 then (if 0 ≤ c then (if 0 ≤ (wrap64 ((b.length : Int) - 1)) then (if (wrap64 ((b.length : Int) - 1)) < (b.length : Int) then ((some (b.set ((wrap64 ((b.length : Int) - 1)) : Int).toNat (⟨(rd_T58 b (wrap64 ((b.length : Int) - 1))).f0, rdOf ByteArray.empty a c⟩ : S58) : List (S58))).bind fun y215 => (if y215.length < 4398046511104 then (spec_PartitionOf.l0L a (y215 ++ [(⟨rdOf ByteArray.empty a c, (⟨#[]⟩ : ByteArray)⟩ : S58)]) (wrap64 (c + 1))) else (none))) else (none)) else (none)) else (none)) else ((spec_PartitionValid.fL b).bind fun t220 => (if t220 = true then (some (b, true)) else (some ((([] : List (S58))), false))))) else ((spec_PartitionValid.fL b).bind fun t224 => (if t224 = true then (some (b, true)) else (some ((([] : List (S58))), false)))) := by
  refine lU (spec_PartitionOf.l0L_is a b c) (LimIs.step1 (by simp only [spec_PartitionOf.l0]) ?_)
  simp only [spec_PartitionOf.l0]
  repeat' with_reducible first | exact lK _ | exact spec_PartitionOf.l0L_is .. | exact spec_PartitionValid.fL_is .. | apply lI | apply lB | intro _
theorem spec_PartitionOf.fL_eq (l0 : List ByteArray) : spec_PartitionOf.fL l0 = spec_PartitionOf.l0L l0 (([(⟨(⟨#[]⟩ : ByteArray), (⟨#[]⟩ : ByteArray)⟩ : S58)] : List (S58))) 0 := by
  refine lU (spec_PartitionOf.fL_is l0) ?_
  unfold spec_PartitionOf.f
  repeat' with_reducible first | exact lK _ | exact spec_PartitionOf.l0L_is .. | apply lI | apply lB | intro _
/-! ### spec_KeyAt -/
section
variable (a : Int) (b : ByteArray) (c : Int)
noncomputable def spec_KeyAt.l0L : Option (ByteArray) := Lim (spec_KeyAt.l0 · a b c)
theorem spec_KeyAt.l0L_is : LimIs (spec_KeyAt.l0 · a b c) (spec_KeyAt.l0L a b c) := lM (fun k => (spec_KeyAt.mono_l k) a b c)
end
section
variable (a0 : Int)
noncomputable def spec_KeyAt.fL : Option (ByteArray) := Lim (spec_KeyAt.f · a0)
theorem spec_KeyAt.fL_is : LimIs (spec_KeyAt.f · a0) (spec_KeyAt.fL a0) := lM (fun k => spec_KeyAt.mono a0 k)
end
theorem spec_KeyAt.l0L_eq (a : Int) (b : ByteArray) (c : Int) : spec_KeyAt.l0L a b c = if c < 4 then ((spec_l1Weight.f c).bind fun t229 => (if t229 = 0 then (none) else ((some (([(wrap64 (97 + (wrap64 (Int.tdiv a t229)))) % 256] : List Int) : List Int)).bind fun y230 => (if b.size + (strOfNums y230).size ≤ 9223372036854775807 then ((spec_l1Weight.f c).bind fun t233 => (if t233 = 0 then (none) else (if (Int.tmod a t233) = 0 then (some (b ++ (strOfNums y230))) else (spec_KeyAt.l0L (wrap64 ((Int.tmod a t233) - 1)) (b ++ (strOfNums y230)) (wrap64 (c + 1)))))) else (none))))) else (some b) := by
  refine lU (spec_KeyAt.l0L_is a b c) (LimIs.step1 (by simp only [spec_KeyAt.l0]) ?_)
  simp only [spec_KeyAt.l0]
  repeat' with_reducible first | exact lK _ | exact spec_KeyAt.l0L_is .. | apply lI | apply lB | intro _
theorem spec_KeyAt.fL_eq (a0 : Int) : spec_KeyAt.fL a0 = (spec_l1In.f a0 0 475253).bind fun t228 => (if t228 = true then (spec_KeyAt.l0L a0 (⟨#[]⟩ : ByteArray) 0) else (some (⟨#[]⟩ : ByteArray))) := by
  refine lU (spec_KeyAt.fL_is a0) ?_
  unfold spec_KeyAt.f
  repeat' with_reducible first | exact lK _ | exact spec_KeyAt.l0L_is .. | apply lI | apply lB | intro _
/-! ### spec_l20Bounds -/
section
variable (a : Int) (b : List ByteArray) (c d : Int) (e : List Int) (g : Int)
noncomputable def spec_l20Bounds.l0L : Option (List ByteArray × Int) := Lim (spec_l20Bounds.l0 · a b c d e g)
theorem spec_l20Bounds.l0L_is : LimIs (spec_l20Bounds.l0 · a b c d e g) (spec_l20Bounds.l0L a b c d e g) := lM (fun k => (spec_l20Bounds.mono_l k) a b c d e g)
end
section
variable (s0_0 : List Int) (s0_1 a1 : Int)
noncomputable def spec_l20Bounds.fL : Option (List ByteArray × Int) := Lim (spec_l20Bounds.f · s0_0 s0_1 a1)
theorem spec_l20Bounds.fL_is : LimIs (spec_l20Bounds.f · s0_0 s0_1 a1) (spec_l20Bounds.fL s0_0 s0_1 a1) := lM (fun k => spec_l20Bounds.mono s0_0 s0_1 a1 k)
end
theorem spec_l20Bounds.l0L_eq (a : Int) (b : List ByteArray) (c d : Int) (e : List Int) (g : Int) : spec_l20Bounds.l0L a b c d e g = if d > 0 then ((spec_KeyAt.fL c).bind fun t241 => (if b.length < 8796093022208 then ((spec_l20Rd_pick.fL e g 256).bind fun bt245 => ((spec_l20Rd_pick.fL e bt245.2 256).bind fun bt247 => (spec_l20Bounds.l0L a (b ++ [t241]) (wrap64 ((wrap64 (c + 1)) + (wrap64 (bt245.1 * bt247.1)))) (wrap64 (d - 1)) e bt247.2))) else (none))) else ((spec_l20Rd_odd.fL e g a).bind fun bt249 => (if bt249.1 = true then ((some (([(⟨#[97]⟩ : ByteArray), (⟨#[]⟩ : ByteArray), (⟨#[65]⟩ : ByteArray), (⟨#[98]⟩ : ByteArray)] : List ByteArray) : List ByteArray)).bind fun y251 => ((spec_l20Rd_pick.fL e bt249.2 4).bind fun bt254 => (if 0 ≤ bt254.1 then (if bt254.1 < (y251.length : Int) then ((some (([rdOf ByteArray.empty y251 bt254.1, (⟨#[98, 98]⟩ : ByteArray)] : List ByteArray) : List ByteArray)).bind fun y257 => (if b.length + y257.length < 8796093022208 then (some ((b ++ y257), bt254.2)) else (none))) else (none)) else (none)))) else (some (b, bt249.2)))) := by
  refine lU (spec_l20Bounds.l0L_is a b c d e g) (LimIs.step1 (by simp only [spec_l20Bounds.l0]) ?_)
  simp only [spec_l20Bounds.l0]
  repeat' with_reducible first | exact lK _ | exact spec_KeyAt.fL_is .. | exact spec_l20Bounds.l0L_is .. | exact spec_l20Rd_odd.fL_is .. | exact spec_l20Rd_pick.fL_is .. | apply lI | apply lB | intro _
theorem spec_l20Bounds.fL_eq (s0_0 : List Int) (s0_1 a1 : Int) : spec_l20Bounds.fL s0_0 s0_1 a1 = (spec_l20Rd_pick.fL s0_0 s0_1 200).bind fun bt237 => ((spec_l20Rd_pick.fL s0_0 bt237.2 6).bind fun bt239 => (spec_l20Bounds.l0L a1 (([] : List ByteArray)) (wrap64 (1 + bt237.1)) bt239.1 s0_0 bt239.2)) := by
  refine lU (spec_l20Bounds.fL_is s0_0 s0_1 a1) ?_
  unfold spec_l20Bounds.f
  repeat' with_reducible first | exact lK _ | exact spec_l20Bounds.l0L_is .. | exact spec_l20Rd_pick.fL_is .. | apply lI | apply lB | intro _
/-! ### spec_l20Parts -/
section
variable (s0_0 : List Int) (s0_1 a1 : Int)
noncomputable def spec_l20Parts.fL : Option ((List (S58)) × Int) := Lim (spec_l20Parts.f · s0_0 s0_1 a1)
theorem spec_l20Parts.fL_is : LimIs (spec_l20Parts.f · s0_0 s0_1 a1) (spec_l20Parts.fL s0_0 s0_1 a1) := lM (fun k => spec_l20Parts.mono s0_0 s0_1 a1 k)
end
theorem spec_l20Parts.fL_eq (s0_0 : List Int) (s0_1 a1 : Int) : spec_l20Parts.fL s0_0 s0_1 a1 = (spec_l20Bounds.fL s0_0 s0_1 0).bind fun bt263 => ((spec_PartitionOf.fL bt263.1).bind fun bt267 => ((spec_l20Rd_odd.fL s0_0 bt263.2 a1).bind fun bt271 => (if bt271.1 = true then ((spec_l20Rd_pick.fL s0_0 bt271.2 5).bind fun bt273 => (if bt273.1 = 0 then (if 1 ≤ (bt267.1.length : Int) then (some ((bt267.1.drop (1 : Int).toNat), bt273.2)) else (none)) else (if bt273.1 = 1 then (if bt267.1.length < 4398046511104 then (some ((bt267.1 ++ [(⟨(⟨#[122, 122]⟩ : ByteArray), (⟨#[]⟩ : ByteArray)⟩ : S58)]), bt273.2)) else (none)) else (if bt273.1 = 2 then (if 0 ≤ (wrap64 ((bt267.1.length : Int) - 1)) then (if (wrap64 ((bt267.1.length : Int) - 1)) < (bt267.1.length : Int) then (some ((bt267.1.set ((wrap64 ((bt267.1.length : Int) - 1)) : Int).toNat (⟨(rd_T58 bt267.1 (wrap64 ((bt267.1.length : Int) - 1))).f0, (⟨#[122, 122, 122, 122]⟩ : ByteArray)⟩ : S58)), bt273.2)) else (none)) else (none)) else (if bt273.1 = 3 then (if 0 < (bt267.1.length : Int) then (some ((bt267.1.set (0 : Int).toNat (⟨(⟨#[97]⟩ : ByteArray), (rd_T58 bt267.1 0).f1⟩ : S58)), bt273.2)) else (none)) else (if bt267.1.length + bt267.1.length < 4398046511104 then (some ((bt267.1 ++ bt267.1), bt273.2)) else (none))))))) else (some (bt267.1, bt271.2))))) := by
  refine lU (spec_l20Parts.fL_is s0_0 s0_1 a1) ?_
  unfold spec_l20Parts.f
  repeat' with_reducible first | exact lK _ | exact spec_PartitionOf.fL_is .. | exact spec_l20Bounds.fL_is .. | exact spec_l20Rd_odd.fL_is .. | exact spec_l20Rd_pick.fL_is .. | apply lI | apply lB | intro _
/-! ### spec_l20Routes -/
section
variable (a : Int) (b : List (S60)) (c : List (S58)) (d e g : Int) (i : List Int) (j : Int)
noncomputable def spec_l20Routes.l0L : Option ((List (S60)) × Int) := Lim (spec_l20Routes.l0 · a b c d e g i j)
theorem spec_l20Routes.l0L_is : LimIs (spec_l20Routes.l0 · a b c d e g i j) (spec_l20Routes.l0L a b c d e g i j) := lM (fun k => (spec_l20Routes.mono_l k) a b c d e g i j)
end
section
variable (s0_0 : List Int) (s0_1 a1 : Int)
noncomputable def spec_l20Routes.fL : Option ((List (S60)) × Int) := Lim (spec_l20Routes.f · s0_0 s0_1 a1)
theorem spec_l20Routes.fL_is : LimIs (spec_l20Routes.f · s0_0 s0_1 a1) (spec_l20Routes.fL s0_0 s0_1 a1) := lM (fun k => spec_l20Routes.mono s0_0 s0_1 a1 k)
end
theorem spec_l20Routes.l0L_eq (a : Int) (b : List (S60)) (c : List (S58)) (d e g : Int) (i : List Int) (j : Int) : spec_l20Routes.l0L a b c d e g i j = if g < (c.length : Int) then (if 0 ≤ g then (if b.length < 3518437208883 then (spec_l20Routes.l0L a (b ++ [(⟨d, (⟨(rd_T58 c g).f0, (rd_T58 c g).f1⟩ : S58)⟩ : S60)]) c (Int.tmod (wrap64 (d + e)) 8) e (wrap64 (g + 1)) i j) else (none)) else (none)) else ((spec_l20Rd_odd.fL i j a).bind fun bt305 => (if bt305.1 = true then ((spec_l20Rd_pick.fL i bt305.2 4).bind fun bt307 => (if bt307.1 = 0 then (if 1 ≤ (b.length : Int) then (some ((b.drop (1 : Int).toNat), bt307.2)) else (none)) else (if bt307.1 = 1 then ((some (([(-1), 8] : List Int) : List Int)).bind fun y312 => ((spec_l20Rd_pick.fL i bt307.2 2).bind fun bt315 => (if 0 ≤ bt315.1 then (if bt315.1 < (y312.length : Int) then (if 0 < (b.length : Int) then (some ((b.set (0 : Int).toNat (⟨rd y312 bt315.1, (⟨(rd_T60 b 0).f1.f0, (rd_T60 b 0).f1.f1⟩ : S58)⟩ : S60)), bt315.2)) else (none)) else (none)) else (none)))) else (if bt307.1 = 2 then (if 0 ≤ (wrap64 ((b.length : Int) - 1)) then (if (wrap64 ((b.length : Int) - 1)) < (b.length : Int) then (if 0 < (b.length : Int) then (some ((b.set (0 : Int).toNat (⟨(rd_T60 b (wrap64 ((b.length : Int) - 1))).f0, (⟨(rd_T60 b 0).f1.f0, (rd_T60 b 0).f1.f1⟩ : S58)⟩ : S60)), bt307.2)) else (none)) else (none)) else (none)) else (if 0 ≤ (wrap64 ((b.length : Int) - 1)) then (if (wrap64 ((b.length : Int) - 1)) < (b.length : Int) then (some ((b.set ((wrap64 ((b.length : Int) - 1)) : Int).toNat (⟨(rd_T60 b (wrap64 ((b.length : Int) - 1))).f0, (⟨(rd_T60 b (wrap64 ((b.length : Int) - 1))).f1.f0, (⟨#[122, 122, 122, 122]⟩ : ByteArray)⟩ : S58)⟩ : S60)), bt307.2)) else (none)) else (none)))))) else (some (b, bt305.2)))) := by
  refine lU (spec_l20Routes.l0L_is a b c d e g i j) (LimIs.step1 (by simp only [spec_l20Routes.l0]) ?_)
  simp only [spec_l20Routes.l0]
  repeat' with_reducible first | exact lK _ | exact spec_l20Rd_odd.fL_is .. | exact spec_l20Rd_pick.fL_is .. | exact spec_l20Routes.l0L_is .. | apply lI | apply lB | intro _
theorem spec_l20Routes.fL_eq (s0_0 : List Int) (s0_1 a1 : Int) : spec_l20Routes.fL s0_0 s0_1 a1 = (spec_l20Parts.fL s0_0 s0_1 0).bind fun bt289 => ((spec_l20Rd_pick.fL s0_0 bt289.2 8).bind fun bt293 => ((some (([1, 3, 5, 7] : List Int) : List Int)).bind fun y295 => ((spec_l20Rd_pick.fL s0_0 bt293.2 4).bind fun bt298 => (if 0 ≤ bt298.1 then (if bt298.1 < (y295.length : Int) then (spec_l20Routes.l0L a1 (([] : List (S60))) bt289.1 bt293.1 (rd y295 bt298.1) 0 s0_0 bt298.2) else (none)) else (none))))) := by
  refine lU (spec_l20Routes.fL_is s0_0 s0_1 a1) ?_
  unfold spec_l20Routes.f
  repeat' with_reducible first | exact lK _ | exact spec_l20Parts.fL_is .. | exact spec_l20Rd_pick.fL_is .. | exact spec_l20Routes.l0L_is .. | apply lI | apply lB | intro _
/-! ### spec_DrawRoutesText -/
section
variable (l0 : List Int)
noncomputable def spec_DrawRoutesText.fL : Option ((List (S60))) := Lim (spec_DrawRoutesText.f · l0)
theorem spec_DrawRoutesText.fL_is : LimIs (spec_DrawRoutesText.f · l0) (spec_DrawRoutesText.fL l0) := lM (fun k => spec_DrawRoutesText.mono l0 k)
end
theorem spec_DrawRoutesText.fL_eq (l0 : List Int) : spec_DrawRoutesText.fL l0 = (spec_l20Open.f l0).bind fun bt322 => ((spec_l20Routes.fL bt322.1 bt322.2 6).bind fun bt325 => (some bt325.1)) := by
  refine lU (spec_DrawRoutesText.fL_is l0) ?_
  unfold spec_DrawRoutesText.f
  repeat' with_reducible first | exact lK _ | exact spec_l20Routes.fL_is .. | apply lI | apply lB | intro _
/-! ### spec_l7Text -/
section
variable (a : Int) (b : ByteArray)
noncomputable def spec_l7Text.l0L : Option (ByteArray) := Lim (spec_l7Text.l0 · a b)
theorem spec_l7Text.l0L_is : LimIs (spec_l7Text.l0 · a b) (spec_l7Text.l0L a b) := lM (fun k => (spec_l7Text.mono_l k) a b)
end
section
variable (a0 : Int)
noncomputable def spec_l7Text.fL : Option (ByteArray) := Lim (spec_l7Text.f · a0)
theorem spec_l7Text.fL_is : LimIs (spec_l7Text.f · a0) (spec_l7Text.fL a0) := lM (fun k => spec_l7Text.mono a0 k)
end
theorem spec_l7Text.l0L_eq (a : Int) (b : ByteArray) : spec_l7Text.l0L a b = if a > 9 then ((some (([(wrap64 (48 + (Int.tmod (wrap64 (Int.tdiv a 10)) 10))) % 256] : List Int) : List Int)).bind fun y332 => (if (strOfNums y332).size + b.size ≤ 9223372036854775807 then (spec_l7Text.l0L (wrap64 (Int.tdiv a 10)) ((strOfNums y332) ++ b)) else (none))) else (some b) := by
  refine lU (spec_l7Text.l0L_is a b) (LimIs.step1 (by simp only [spec_l7Text.l0]) ?_)
  simp only [spec_l7Text.l0]
  repeat' with_reducible first | exact lK _ | exact spec_l7Text.l0L_is .. | apply lI | apply lB | intro _
theorem spec_l7Text.fL_eq (a0 : Int) : spec_l7Text.fL a0 = if a0 < 0 then (some (⟨#[45, 49]⟩ : ByteArray)) else (spec_l7Text.l0L a0 (strOfNums (([(wrap64 (48 + (Int.tmod a0 10))) % 256] : List Int)))) := by
  refine lU (spec_l7Text.fL_is a0) ?_
  unfold spec_l7Text.f
  repeat' with_reducible first | exact lK _ | exact spec_l7Text.l0L_is .. | apply lI | apply lB | intro _
/-! ### spec_RoutesValid -/
section
variable (a : List (S60)) (b : List (S58)) (c : Int)
noncomputable def spec_RoutesValid.l0L : Option (Bool) := Lim (spec_RoutesValid.l0 · a b c)
theorem spec_RoutesValid.l0L_is : LimIs (spec_RoutesValid.l0 · a b c) (spec_RoutesValid.l0L a b c) := lM (fun k => (spec_RoutesValid.mono_l k).1 a b c)
end
section
variable (a : List (S60)) (b : List (S58)) (c : Int) (d : Bool)
noncomputable def spec_RoutesValid.j1L : Option (Bool) := Lim (spec_RoutesValid.j1 · a b c d)
theorem spec_RoutesValid.j1L_is : LimIs (spec_RoutesValid.j1 · a b c d) (spec_RoutesValid.j1L a b c d) := lM (fun k => (spec_RoutesValid.mono_l k).2.1 a b c d)
end
section
variable (a : List (S60)) (b : List (S58)) (c d : Int)
noncomputable def spec_RoutesValid.l1L : Option (Bool) := Lim (spec_RoutesValid.l1 · a b c d)
theorem spec_RoutesValid.l1L_is : LimIs (spec_RoutesValid.l1 · a b c d) (spec_RoutesValid.l1L a b c d) := lM (fun k => (spec_RoutesValid.mono_l k).2.2 a b c d)
end
section
variable (l0 : List (S60))
noncomputable def spec_RoutesValid.fL : Option (Bool) := Lim (spec_RoutesValid.f · l0)
theorem spec_RoutesValid.fL_is : LimIs (spec_RoutesValid.f · l0) (spec_RoutesValid.fL l0) := lM (fun k => spec_RoutesValid.mono l0 k)
end
theorem spec_RoutesValid.l0L_eq (a : List (S60)) (b : List (S58)) (c : Int) : spec_RoutesValid.l0L a b c = if c < (a.length : Int) then (if c ≥ 6 then (spec_RoutesValid.j1L a b c true) else (if 0 ≤ c then ((spec_l1In.f ((rd_T60 a c).f0) 0 7).bind fun t340 => (spec_RoutesValid.j1L a b c (!t340))) else (none))) else ((spec_PartitionValid.fL b).bind fun t338 => (some t338)) := by
  refine lU (spec_RoutesValid.l0L_is a b c) (LimIs.step1 (by simp only [spec_RoutesValid.l0]) ?_)
  simp only [spec_RoutesValid.l0]
  repeat' with_reducible first | exact lK _ | exact spec_PartitionValid.fL_is .. | exact spec_RoutesValid.j1L_is .. | apply lI | apply lB | intro _
theorem spec_RoutesValid.j1L_eq (a : List (S60)) (b : List (S58)) (c : Int) (d : Bool) : spec_RoutesValid.j1L a b c d = if d = true then (some false) else (spec_RoutesValid.l1L a b c 0) := by
  refine lU (spec_RoutesValid.j1L_is a b c d) (LimIs.step1 (by simp only [spec_RoutesValid.j1]) ?_)
  simp only [spec_RoutesValid.j1]
  repeat' with_reducible first | exact lK _ | exact spec_RoutesValid.l1L_is .. | apply lI | apply lB | intro _
theorem spec_RoutesValid.l1L_eq (a : List (S60)) (b : List (S58)) (c d : Int) : spec_RoutesValid.l1L a b c d = if d < c then (if 0 ≤ d then (if d < (a.length : Int) then (if 0 ≤ c then (if c < (a.length : Int) then (if ((rd_T60 a d).f0) = ((rd_T60 a c).f0) then (some false) else (spec_RoutesValid.l1L a b c (wrap64 (d + 1)))) else (none)) else (none)) else (none)) else (none)) else (if 0 ≤ c then (if c < (a.length : Int) then (if b.length < 4398046511104 then (spec_RoutesValid.l0L a (b ++ [(⟨(rd_T60 a c).f1.f0, (rd_T60 a c).f1.f1⟩ : S58)]) (wrap64 (c + 1))) else (none)) else (none)) else (none)) := by
  refine lU (spec_RoutesValid.l1L_is a b c d) (LimIs.step1 (by simp only [spec_RoutesValid.l1]) ?_)
  simp only [spec_RoutesValid.l1]
  repeat' with_reducible first | exact lK _ | exact spec_RoutesValid.l0L_is .. | exact spec_RoutesValid.l1L_is .. | apply lI | apply lB | intro _
theorem spec_RoutesValid.fL_eq (l0 : List (S60)) : spec_RoutesValid.fL l0 = spec_RoutesValid.l0L l0 (([] : List (S58))) 0 := by
  refine lU (spec_RoutesValid.fL_is l0) ?_
  unfold spec_RoutesValid.f
  repeat' with_reducible first | exact lK _ | exact spec_RoutesValid.l0L_is .. | apply lI | apply lB | intro _
/-! ### spec_RoutesText -/
section
variable (a : List (S60)) (b : ByteArray) (c : Int)
noncomputable def spec_RoutesText.l0L : Option (ByteArray) := Lim (spec_RoutesText.l0 · a b c)
theorem spec_RoutesText.l0L_is : LimIs (spec_RoutesText.l0 · a b c) (spec_RoutesText.l0L a b c) := lM (fun k => (spec_RoutesText.mono_l k).1 a b c)
end
section
variable (a : List (S60)) (b : ByteArray) (c : Int) (d : Bool)
noncomputable def spec_RoutesText.j1L : Option (ByteArray) := Lim (spec_RoutesText.j1 · a b c d)
theorem spec_RoutesText.j1L_is : LimIs (spec_RoutesText.j1 · a b c d) (spec_RoutesText.j1L a b c d) := lM (fun k => (spec_RoutesText.mono_l k).2 a b c d)
end
section
variable (l0 : List (S60))
noncomputable def spec_RoutesText.fL : Option (ByteArray) := Lim (spec_RoutesText.f · l0)
theorem spec_RoutesText.fL_is : LimIs (spec_RoutesText.f · l0) (spec_RoutesText.fL l0) := lM (fun k => spec_RoutesText.mono l0 k)
end
theorem spec_RoutesText.l0L_eq (a : List (S60)) (b : ByteArray) (c : Int) : spec_RoutesText.l0L a b c = if c < (a.length : Int) then ((spec_RoutesValid.fL a).bind fun t347 => (spec_RoutesText.j1L a b c t347)) else (spec_RoutesText.j1L a b c false) := by
  refine lU (spec_RoutesText.l0L_is a b c) (LimIs.step1 (by simp only [spec_RoutesText.l0]) ?_)
  simp only [spec_RoutesText.l0]
  repeat' with_reducible first | exact lK _ | exact spec_RoutesText.j1L_is .. | exact spec_RoutesValid.fL_is .. | apply lI | apply lB | intro _
theorem spec_RoutesText.j1L_eq (a : List (S60)) (b : ByteArray) (c : Int) (d : Bool) : spec_RoutesText.j1L a b c d = if d = true then (if c > 0 then (if b.size + 1 ≤ 9223372036854775807 then (if 0 ≤ c then (if c < (a.length : Int) then ((spec_l7Text.fL ((rd_T60 a c).f0)).bind fun t349 => (if (b ++ (⟨#[32]⟩ : ByteArray)).size + t349.size ≤ 9223372036854775807 then (if ((b ++ (⟨#[32]⟩ : ByteArray)) ++ t349).size + 1 ≤ 9223372036854775807 then (if (((b ++ (⟨#[32]⟩ : ByteArray)) ++ t349) ++ (⟨#[58]⟩ : ByteArray)).size + ((rd_T60 a c).f1.f0).size ≤ 9223372036854775807 then (if ((((b ++ (⟨#[32]⟩ : ByteArray)) ++ t349) ++ (⟨#[58]⟩ : ByteArray)) ++ ((rd_T60 a c).f1.f0)).size + 1 ≤ 9223372036854775807 then (if (((((b ++ (⟨#[32]⟩ : ByteArray)) ++ t349) ++ (⟨#[58]⟩ : ByteArray)) ++ ((rd_T60 a c).f1.f0)) ++ (⟨#[45]⟩ : ByteArray)).size + ((rd_T60 a c).f1.f1).size ≤ 9223372036854775807 then (spec_RoutesText.l0L a ((((((b ++ (⟨#[32]⟩ : ByteArray)) ++ t349) ++ (⟨#[58]⟩ : ByteArray)) ++ ((rd_T60 a c).f1.f0)) ++ (⟨#[45]⟩ : ByteArray)) ++ ((rd_T60 a c).f1.f1)) (wrap64 (c + 1))) else (none)) else (none)) else (none)) else (none)) else (none))) else (none)) else (none)) else (none)) else (if 0 ≤ c then (if c < (a.length : Int) then ((spec_l7Text.fL ((rd_T60 a c).f0)).bind fun t353 => (if b.size + t353.size ≤ 9223372036854775807 then (if (b ++ t353).size + 1 ≤ 9223372036854775807 then (if ((b ++ t353) ++ (⟨#[58]⟩ : ByteArray)).size + ((rd_T60 a c).f1.f0).size ≤ 9223372036854775807 then (if (((b ++ t353) ++ (⟨#[58]⟩ : ByteArray)) ++ ((rd_T60 a c).f1.f0)).size + 1 ≤ 9223372036854775807 then (if ((((b ++ t353) ++ (⟨#[58]⟩ : ByteArray)) ++ ((rd_T60 a c).f1.f0)) ++ (⟨#[45]⟩ : ByteArray)).size + ((rd_T60 a c).f1.f1).size ≤ 9223372036854775807 then (spec_RoutesText.l0L a (((((b ++ t353) ++ (⟨#[58]⟩ : ByteArray)) ++ ((rd_T60 a c).f1.f0)) ++ (⟨#[45]⟩ : ByteArray)) ++ ((rd_T60 a c).f1.f1)) (wrap64 (c + 1))) else (none)) else (none)) else (none)) else (none)) else (none))) else (none)) else (none))) else (some b) := by
  refine lU (spec_RoutesText.j1L_is a b c d) (LimIs.step1 (by simp only [spec_RoutesText.j1]) ?_)
  simp only [spec_RoutesText.j1]
  repeat' with_reducible first | exact lK _ | exact spec_RoutesText.l0L_is .. | exact spec_l7Text.fL_is .. | apply lI | apply lB | intro _
theorem spec_RoutesText.fL_eq (l0 : List (S60)) : spec_RoutesText.fL l0 = spec_RoutesText.l0L l0 (⟨#[]⟩ : ByteArray) 0 := by
  refine lU (spec_RoutesText.fL_is l0) ?_
  unfold spec_RoutesText.f
  repeat' with_reducible first | exact lK _ | exact spec_RoutesText.l0L_is .. | apply lI | apply lB | intro _
/-! ### laws_sameRoutes -/
section
variable (a b : List (S60)) (c : Int)
noncomputable def laws_sameRoutes.l0L : Option (Bool) := Lim (laws_sameRoutes.l0 · a b c)
theorem laws_sameRoutes.l0L_is : LimIs (laws_sameRoutes.l0 · a b c) (laws_sameRoutes.l0L a b c) := lM (fun k => (laws_sameRoutes.mono_l k) a b c)
end
section
variable (l0 l1 : List (S60))
noncomputable def laws_sameRoutes.fL : Option (Bool) := Lim (laws_sameRoutes.f · l0 l1)
theorem laws_sameRoutes.fL_is : LimIs (laws_sameRoutes.f · l0 l1) (laws_sameRoutes.fL l0 l1) := lM (fun k => laws_sameRoutes.mono l0 l1 k)
end
theorem laws_sameRoutes.l0L_eq (a b : List (S60)) (c : Int) : laws_sameRoutes.l0L a b c = if c < (a.length : Int) then (if 0 ≤ c then (if c < (b.length : Int) then (if (!(((rd_T60 a c).f0) == ((rd_T60 b c).f0)) || ((!((((rd_T60 a c).f1.f0).toList) == (((rd_T60 b c).f1.f0).toList)) || (!((((rd_T60 a c).f1.f1).toList) == (((rd_T60 b c).f1.f1).toList)))))) = true then (some false) else (laws_sameRoutes.l0L a b (wrap64 (c + 1)))) else (none)) else (none)) else (some true) := by
  refine lU (laws_sameRoutes.l0L_is a b c) (LimIs.step1 (by simp only [laws_sameRoutes.l0]) ?_)
  simp only [laws_sameRoutes.l0]
  repeat' with_reducible first | exact lK _ | exact laws_sameRoutes.l0L_is .. | apply lI | apply lB | intro _
theorem laws_sameRoutes.fL_eq (l0 l1 : List (S60)) : laws_sameRoutes.fL l0 l1 = if (l0.length : Int) = (l1.length : Int) then (laws_sameRoutes.l0L l0 l1 0) else (some false) := by
  refine lU (laws_sameRoutes.fL_is l0 l1) ?_
  unfold laws_sameRoutes.f
  repeat' with_reducible first | exact lK _ | exact laws_sameRoutes.l0L_is .. | apply lI | apply lB | intro _
/-! ### laws_FnRoutesText -/
section
variable (l0 : List Int)
noncomputable def laws_FnRoutesText.fL : Option (Bool) := Lim (laws_FnRoutesText.f · l0)
theorem laws_FnRoutesText.fL_is : LimIs (laws_FnRoutesText.f · l0) (laws_FnRoutesText.fL l0) := lM (fun k => laws_FnRoutesText.mono l0 k)
end
theorem laws_FnRoutesText.fL_eq (l0 : List Int) : laws_FnRoutesText.fL l0 = if (l0.length : Int) > 1048576 then (some true) else ((spec_DrawRoutesText.fL l0).bind fun t358 => ((impl_RoutesText.fL t358).bind fun t361 => ((spec_RoutesText.fL t358).bind fun t362 => (if t361.toList = t362.toList then (if t361.toList = ([] : List UInt8) then ((impl_RoutesValid.fL t358).bind fun t363 => (if t363 = true then (some false) else ((laws_alive.fL).bind fun t364 => (some t364)))) else ((impl_ReadRoutes.fL t361).bind fun bt365 => (if bt365.2 = true then ((laws_sameRoutes.fL bt365.1 t358).bind fun t369 => (some t369)) else (some false)))) else (some false))))) := by
  refine lU (laws_FnRoutesText.fL_is l0) ?_
  unfold laws_FnRoutesText.f
  repeat' with_reducible first | exact lK _ | exact impl_ReadRoutes.fL_is .. | exact impl_RoutesText.fL_is .. | exact impl_RoutesValid.fL_is .. | exact laws_alive.fL_is .. | exact laws_sameRoutes.fL_is .. | exact spec_DrawRoutesText.fL_is .. | exact spec_RoutesText.fL_is .. | apply lI | apply lB | intro _
end Go.Proofs.YtagknifdfpjlbaaDoor.PFnRoutesText
