/- The limits of the printed functions, and their equations. Written by lim.py out of the print. No condition. -/
import Derived.Test.YtagknifdfpjlbaaDoorPFnReadRoutesx11
import Derived.Test.YtagknifdfpjlbaaDoorLim
namespace Go.Proofs.YtagknifdfpjlbaaDoor.PFnReadRoutes
open Go.RowKit Go.Proofs.YtagknifdfpjlbaaDoorW.PrintWords Go.Proofs.YtagknifdfpjlbaaDoorW.PrintLast Go.Proofs.YtagknifdfpjlbaaDoorW.PrintMore Go.Proofs.YtagknifdfpjlbaaDoor.Lim
set_option linter.unusedVariables false

/-! ### impl_lettersOnly -/
section
variable (a0 : ByteArray)
noncomputable def impl_lettersOnly.fL : Option (Bool) := Lim (impl_lettersOnly.f · a0)
theorem impl_lettersOnly.fL_is : LimIs (impl_lettersOnly.f · a0) (impl_lettersOnly.fL a0) := lM (fun k => impl_lettersOnly.mono a0 k)
end
theorem impl_lettersOnly.fL_eq (a0 : ByteArray) : impl_lettersOnly.fL a0 = if a0.toList = ([] : List UInt8) then (some true) else (if 0 < (a0.size : Int) then (if (bt a0 0) ≥ 97 then (if (bt a0 0) ≤ 122 then (if 1 ≤ (a0.size : Int) then ((impl_lettersOnly.fL (a0.extract 1 a0.size)).bind fun t101 => (some t101)) else (none)) else (some false)) else (some false)) else (none)) := by
  refine lU (impl_lettersOnly.fL_is a0) (LimIs.step1 (by simp only [impl_lettersOnly.f]) ?_)
  simp only [impl_lettersOnly.f]
  repeat' with_reducible first | exact lK _ | exact impl_lettersOnly.fL_is .. | apply lI | apply lB | intro _
/-! ### impl_KeyValid -/
section
variable (a0 : ByteArray)
noncomputable def impl_KeyValid.fL : Option (Bool) := Lim (impl_KeyValid.f · a0)
theorem impl_KeyValid.fL_is : LimIs (impl_KeyValid.f · a0) (impl_KeyValid.fL a0) := lM (fun k => impl_KeyValid.mono a0 k)
end
theorem impl_KeyValid.fL_eq (a0 : ByteArray) : impl_KeyValid.fL a0 = if (a0.size : Int) < 1 then (some false) else (if (a0.size : Int) > 4 then (some false) else ((impl_lettersOnly.fL a0).bind fun t102 => (some t102))) := by
  refine lU (impl_KeyValid.fL_is a0) ?_
  unfold impl_KeyValid.f
  repeat' with_reducible first | exact lK _ | exact impl_lettersOnly.fL_is .. | apply lI | apply lB | intro _
/-! ### impl_keysFrom -/
section
variable (a0 : Int)
noncomputable def impl_keysFrom.fL : Option (Int) := Lim (impl_keysFrom.f · a0)
theorem impl_keysFrom.fL_is : LimIs (impl_keysFrom.f · a0) (impl_keysFrom.fL a0) := lM (fun k => impl_keysFrom.mono a0 k)
end
theorem impl_keysFrom.fL_eq (a0 : Int) : impl_keysFrom.fL a0 = if a0 ≥ 4 then (some 1) else ((impl_keysFrom.fL (wrap64 (a0 + 1))).bind fun t103 => (some (wrap64 (1 + (wrap64 (26 * t103)))))) := by
  refine lU (impl_keysFrom.fL_is a0) (LimIs.step1 (by simp only [impl_keysFrom.f]) ?_)
  simp only [impl_keysFrom.f]
  repeat' with_reducible first | exact lK _ | exact impl_keysFrom.fL_is .. | apply lI | apply lB | intro _
/-! ### impl_rankBelow -/
section
variable (a0 : ByteArray) (a1 : Int)
noncomputable def impl_rankBelow.fL : Option (Int) := Lim (impl_rankBelow.f · a0 a1)
theorem impl_rankBelow.fL_is : LimIs (impl_rankBelow.f · a0 a1) (impl_rankBelow.fL a0 a1) := lM (fun k => impl_rankBelow.mono a0 a1 k)
end
theorem impl_rankBelow.fL_eq (a0 : ByteArray) (a1 : Int) : impl_rankBelow.fL a0 a1 = if a0.toList = ([] : List UInt8) then (some 0) else (if 0 < (a0.size : Int) then ((impl_keysFrom.fL a1).bind fun t104 => (if 1 ≤ (a0.size : Int) then ((impl_rankBelow.fL (a0.extract 1 a0.size) (wrap64 (a1 + 1))).bind fun t105 => (some (wrap64 ((wrap64 (1 + (wrap64 ((((bt a0 0) - 97) % 256) * t104)))) + t105)))) else (none))) else (none)) := by
  refine lU (impl_rankBelow.fL_is a0 a1) (LimIs.step1 (by simp only [impl_rankBelow.f]) ?_)
  simp only [impl_rankBelow.f]
  repeat' with_reducible first | exact lK _ | exact impl_keysFrom.fL_is .. | exact impl_rankBelow.fL_is .. | apply lI | apply lB | intro _
/-! ### impl_KeyRank -/
section
variable (a0 : ByteArray)
noncomputable def impl_KeyRank.fL : Option (Int) := Lim (impl_KeyRank.f · a0)
theorem impl_KeyRank.fL_is : LimIs (impl_KeyRank.f · a0) (impl_KeyRank.fL a0) := lM (fun k => impl_KeyRank.mono a0 k)
end
theorem impl_KeyRank.fL_eq (a0 : ByteArray) : impl_KeyRank.fL a0 = (impl_KeyValid.fL a0).bind fun t106 => (if t106 = true then ((impl_rankBelow.fL a0 1).bind fun t107 => (some (wrap64 (t107 - 1)))) else (some (-1))) := by
  refine lU (impl_KeyRank.fL_is a0) ?_
  unfold impl_KeyRank.f
  repeat' with_reducible first | exact lK _ | exact impl_KeyValid.fL_is .. | exact impl_rankBelow.fL_is .. | apply lI | apply lB | intro _
/-! ### laws_alive -/
section
noncomputable def laws_alive.fL : Option (Bool) := Lim (laws_alive.f ·)
theorem laws_alive.fL_is : LimIs (laws_alive.f ·) (laws_alive.fL) := lM (fun k => laws_alive.mono k)
end
theorem laws_alive.fL_eq : laws_alive.fL = (impl_KeyRank.fL (⟨#[97, 97]⟩ : ByteArray)).bind fun t108 => (if t108 = 1 then ((impl_KeyRank.fL (⟨#[]⟩ : ByteArray)).bind fun t109 => (some (t109 == (-1)))) else (some false)) := by
  refine lU (laws_alive.fL_is) ?_
  unfold laws_alive.f
  repeat' with_reducible first | exact lK _ | exact impl_KeyRank.fL_is .. | apply lI | apply lB | intro _
/-! ### spec_l7Text -/
section
variable (a : Int) (b : ByteArray)
noncomputable def spec_l7Text.l0L : Option (ByteArray) := Lim (spec_l7Text.l0 · a b)
theorem spec_l7Text.l0L_is : LimIs (spec_l7Text.l0 · a b) (spec_l7Text.l0L a b) := lM (fun k => (spec_l7Text.mono_l k) a b)
end
section
variable (a0 : Int)
noncomputable def spec_l7Text.fL : Option (ByteArray) := Lim (spec_l7Text.f · a0)
theorem spec_l7Text.fL_is : LimIs (spec_l7Text.f · a0) (spec_l7Text.fL a0) := lM (fun k => spec_l7Text.mono a0 k)
end
theorem spec_l7Text.l0L_eq (a : Int) (b : ByteArray) : spec_l7Text.l0L a b = if a > 9 then ((some (([(wrap64 (48 + (Int.tmod (wrap64 (Int.tdiv a 10)) 10))) % 256] : List Int) : List Int)).bind fun y113 => (if (strOfNums y113).size + b.size ≤ 9223372036854775807 then (spec_l7Text.l0L (wrap64 (Int.tdiv a 10)) ((strOfNums y113) ++ b)) else (none))) else (some b) := by
  refine lU (spec_l7Text.l0L_is a b) (LimIs.step1 (by simp only [spec_l7Text.l0]) ?_)
  simp only [spec_l7Text.l0]
  repeat' with_reducible first | exact lK _ | exact spec_l7Text.l0L_is .. | apply lI | apply lB | intro _
theorem spec_l7Text.fL_eq (a0 : Int) : spec_l7Text.fL a0 = if a0 < 0 then (some (⟨#[45, 49]⟩ : ByteArray)) else (spec_l7Text.l0L a0 (strOfNums (([(wrap64 (48 + (Int.tmod a0 10))) % 256] : List Int)))) := by
  refine lU (spec_l7Text.fL_is a0) ?_
  unfold spec_l7Text.f
  repeat' with_reducible first | exact lK _ | exact spec_l7Text.l0L_is .. | apply lI | apply lB | intro _
/-! ### spec_KeyValid -/
section
variable (a : ByteArray) (b : Int)
noncomputable def spec_KeyValid.l0L : Option (Bool) := Lim (spec_KeyValid.l0 · a b)
theorem spec_KeyValid.l0L_is : LimIs (spec_KeyValid.l0 · a b) (spec_KeyValid.l0L a b) := lM (fun k => (spec_KeyValid.mono_l k) a b)
end
section
variable (a0 : ByteArray)
noncomputable def spec_KeyValid.fL : Option (Bool) := Lim (spec_KeyValid.f · a0)
theorem spec_KeyValid.fL_is : LimIs (spec_KeyValid.f · a0) (spec_KeyValid.fL a0) := lM (fun k => spec_KeyValid.mono a0 k)
end
theorem spec_KeyValid.l0L_eq (a : ByteArray) (b : Int) : spec_KeyValid.l0L a b = if b < (a.size : Int) then (if 0 ≤ b then (if (bt a b) < 97 then (some false) else (if (bt a b) > 122 then (some false) else (spec_KeyValid.l0L a (wrap64 (b + 1))))) else (none)) else (some true) := by
  refine lU (spec_KeyValid.l0L_is a b) (LimIs.step1 (by simp only [spec_KeyValid.l0]) ?_)
  simp only [spec_KeyValid.l0]
  repeat' with_reducible first | exact lK _ | exact spec_KeyValid.l0L_is .. | apply lI | apply lB | intro _
theorem spec_KeyValid.fL_eq (a0 : ByteArray) : spec_KeyValid.fL a0 = (spec_l1In.f (a0.size : Int) 1 4).bind fun t116 => (if t116 = true then (spec_KeyValid.l0L a0 0) else (some false)) := by
  refine lU (spec_KeyValid.fL_is a0) ?_
  unfold spec_KeyValid.f
  repeat' with_reducible first | exact lK _ | exact spec_KeyValid.l0L_is .. | apply lI | apply lB | intro _
/-! ### spec_IntervalValid -/
section
variable (a0_0 a0_1 : ByteArray)
noncomputable def spec_IntervalValid.fL : Option (Bool) := Lim (spec_IntervalValid.f · a0_0 a0_1)
theorem spec_IntervalValid.fL_is : LimIs (spec_IntervalValid.f · a0_0 a0_1) (spec_IntervalValid.fL a0_0 a0_1) := lM (fun k => spec_IntervalValid.mono a0_0 a0_1 k)
end
theorem spec_IntervalValid.fL_eq (a0_0 a0_1 : ByteArray) : spec_IntervalValid.fL a0_0 a0_1 = if a0_0.toList = ([] : List UInt8) then (if a0_1.toList = ([] : List UInt8) then (some true) else ((spec_KeyValid.fL a0_1).bind fun t118 => (if t118 = true then (if (Op.bytesLess a0_0.toList a0_1.toList) = true then (some (a0_1.toList != ([97] : List UInt8))) else (some false)) else (some false)))) else ((spec_KeyValid.fL a0_0).bind fun t119 => (if t119 = true then (if a0_1.toList = ([] : List UInt8) then (some true) else ((spec_KeyValid.fL a0_1).bind fun t120 => (if t120 = true then (if (Op.bytesLess a0_0.toList a0_1.toList) = true then (some true) else (some false)) else (some false)))) else (some false))) := by
  refine lU (spec_IntervalValid.fL_is a0_0 a0_1) ?_
  unfold spec_IntervalValid.f
  repeat' with_reducible first | exact lK _ | exact spec_KeyValid.fL_is .. | apply lI | apply lB | intro _
/-! ### spec_IntervalJoin -/
section
variable (a0_0 a0_1 a1_0 a1_1 : ByteArray)
noncomputable def spec_IntervalJoin.fL : Option (ByteArray × ByteArray × Bool) := Lim (spec_IntervalJoin.f · a0_0 a0_1 a1_0 a1_1)
theorem spec_IntervalJoin.fL_is : LimIs (spec_IntervalJoin.f · a0_0 a0_1 a1_0 a1_1) (spec_IntervalJoin.fL a0_0 a0_1 a1_0 a1_1) := lM (fun k => spec_IntervalJoin.mono a0_0 a0_1 a1_0 a1_1 k)
end
theorem spec_IntervalJoin.fL_eq (a0_0 a0_1 a1_0 a1_1 : ByteArray) : spec_IntervalJoin.fL a0_0 a0_1 a1_0 a1_1 = (spec_IntervalValid.fL a0_0 a0_1).bind fun t124 => (if t124 = true then ((spec_IntervalValid.fL a1_0 a1_1).bind fun t125 => (if t125 = true then (if a0_1.toList = ([] : List UInt8) then (some ((⟨#[]⟩ : ByteArray), (⟨#[]⟩ : ByteArray), false)) else (if a0_1.toList = a1_0.toList then (some (a0_0, a1_1, true)) else (some ((⟨#[]⟩ : ByteArray), (⟨#[]⟩ : ByteArray), false)))) else (some ((⟨#[]⟩ : ByteArray), (⟨#[]⟩ : ByteArray), false)))) else (some ((⟨#[]⟩ : ByteArray), (⟨#[]⟩ : ByteArray), false))) := by
  refine lU (spec_IntervalJoin.fL_is a0_0 a0_1 a1_0 a1_1) ?_
  unfold spec_IntervalJoin.f
  repeat' with_reducible first | exact lK _ | exact spec_IntervalValid.fL_is .. | apply lI | apply lB | intro _
/-! ### spec_PartitionValid -/
section
variable (a : List (S58)) (b : Bool)
noncomputable def spec_PartitionValid.j0L : Option (Bool) := Lim (spec_PartitionValid.j0 · a b)
theorem spec_PartitionValid.j0L_is : LimIs (spec_PartitionValid.j0 · a b) (spec_PartitionValid.j0L a b) := lM (fun k => (spec_PartitionValid.mono_l k).1 a b)
end
section
variable (a : List (S58)) (b : Int)
noncomputable def spec_PartitionValid.l0L : Option (Bool) := Lim (spec_PartitionValid.l0 · a b)
theorem spec_PartitionValid.l0L_is : LimIs (spec_PartitionValid.l0 · a b) (spec_PartitionValid.l0L a b) := lM (fun k => (spec_PartitionValid.mono_l k).2 a b)
end
section
variable (l0 : List (S58))
noncomputable def spec_PartitionValid.fL : Option (Bool) := Lim (spec_PartitionValid.f · l0)
theorem spec_PartitionValid.fL_is : LimIs (spec_PartitionValid.f · l0) (spec_PartitionValid.fL l0) := lM (fun k => spec_PartitionValid.mono l0 k)
end
theorem spec_PartitionValid.j0L_eq (a : List (S58)) (b : Bool) : spec_PartitionValid.j0L a b = if b = true then (some false) else (spec_PartitionValid.l0L a 1) := by
  refine lU (spec_PartitionValid.j0L_is a b) (LimIs.step1 (by simp only [spec_PartitionValid.j0]) ?_)
  simp only [spec_PartitionValid.j0]
  repeat' with_reducible first | exact lK _ | exact spec_PartitionValid.l0L_is .. | apply lI | apply lB | intro _
theorem spec_PartitionValid.l0L_eq (a : List (S58)) (b : Int) : spec_PartitionValid.l0L a b = if b < (a.length : Int) then (if 0 ≤ (wrap64 (b - 1)) then (if (wrap64 (b - 1)) < (a.length : Int) then (if 0 ≤ b then ((spec_IntervalJoin.fL ((rd_T58 a (wrap64 (b - 1))).f0) ((rd_T58 a (wrap64 (b - 1))).f1) ((rd_T58 a b).f0) ((rd_T58 a b).f1)).bind fun bt133 => (if bt133.2.2 = true then (spec_PartitionValid.l0L a (wrap64 (b + 1))) else (some false))) else (none)) else (none)) else (none)) else (some true) := by
  refine lU (spec_PartitionValid.l0L_is a b) (LimIs.step1 (by simp only [spec_PartitionValid.l0]) ?_)
  simp only [spec_PartitionValid.l0]
  repeat' with_reducible first | exact lK _ | exact spec_IntervalJoin.fL_is .. | exact spec_PartitionValid.l0L_is .. | apply lI | apply lB | intro _
theorem spec_PartitionValid.fL_eq (l0 : List (S58)) : spec_PartitionValid.fL l0 = (spec_l1In.f (l0.length : Int) 1 6).bind fun t126 => (if t126 = true then (if 0 < (l0.length : Int) then ((spec_IntervalValid.fL ((rd_T58 l0 0).f0) ((rd_T58 l0 0).f1)).bind fun t128 => (if t128 = true then (if ((rd_T58 l0 0).f0).toList = ([] : List UInt8) then (if 0 ≤ (wrap64 ((l0.length : Int) - 1)) then (if (wrap64 ((l0.length : Int) - 1)) < (l0.length : Int) then (spec_PartitionValid.j0L l0 (((rd_T58 l0 (wrap64 ((l0.length : Int) - 1))).f1).toList != ([] : List UInt8))) else (none)) else (none)) else (spec_PartitionValid.j0L l0 true)) else (spec_PartitionValid.j0L l0 true))) else (none)) else (spec_PartitionValid.j0L l0 true)) := by
  refine lU (spec_PartitionValid.fL_is l0) ?_
  unfold spec_PartitionValid.f
  repeat' with_reducible first | exact lK _ | exact spec_IntervalValid.fL_is .. | exact spec_PartitionValid.j0L_is .. | apply lI | apply lB | intro _
/-! ### spec_RoutesValid -/
section
variable (a : List (S60)) (b : List (S58)) (c : Int)
noncomputable def spec_RoutesValid.l0L : Option (Bool) := Lim (spec_RoutesValid.l0 · a b c)
theorem spec_RoutesValid.l0L_is : LimIs (spec_RoutesValid.l0 · a b c) (spec_RoutesValid.l0L a b c) := lM (fun k => (spec_RoutesValid.mono_l k).1 a b c)
end
section
variable (a : List (S60)) (b : List (S58)) (c : Int) (d : Bool)
noncomputable def spec_RoutesValid.j1L : Option (Bool) := Lim (spec_RoutesValid.j1 · a b c d)
theorem spec_RoutesValid.j1L_is : LimIs (spec_RoutesValid.j1 · a b c d) (spec_RoutesValid.j1L a b c d) := lM (fun k => (spec_RoutesValid.mono_l k).2.1 a b c d)
end
section
variable (a : List (S60)) (b : List (S58)) (c d : Int)
noncomputable def spec_RoutesValid.l1L : Option (Bool) := Lim (spec_RoutesValid.l1 · a b c d)
theorem spec_RoutesValid.l1L_is : LimIs (spec_RoutesValid.l1 · a b c d) (spec_RoutesValid.l1L a b c d) := lM (fun k => (spec_RoutesValid.mono_l k).2.2 a b c d)
end
section
variable (l0 : List (S60))
noncomputable def spec_RoutesValid.fL : Option (Bool) := Lim (spec_RoutesValid.f · l0)
theorem spec_RoutesValid.fL_is : LimIs (spec_RoutesValid.f · l0) (spec_RoutesValid.fL l0) := lM (fun k => spec_RoutesValid.mono l0 k)
end
theorem spec_RoutesValid.l0L_eq (a : List (S60)) (b : List (S58)) (c : Int) : spec_RoutesValid.l0L a b c = if c < (a.length : Int) then (if c ≥ 6 then (spec_RoutesValid.j1L a b c true) else (if 0 ≤ c then ((spec_l1In.f ((rd_T60 a c).f0) 0 7).bind fun t142 => (spec_RoutesValid.j1L a b c (!t142))) else (none))) else ((spec_PartitionValid.fL b).bind fun t140 => (some t140)) := by
  refine lU (spec_RoutesValid.l0L_is a b c) (LimIs.step1 (by simp only [spec_RoutesValid.l0]) ?_)
  simp only [spec_RoutesValid.l0]
  repeat' with_reducible first | exact lK _ | exact spec_PartitionValid.fL_is .. | exact spec_RoutesValid.j1L_is .. | apply lI | apply lB | intro _
theorem spec_RoutesValid.j1L_eq (a : List (S60)) (b : List (S58)) (c : Int) (d : Bool) : spec_RoutesValid.j1L a b c d = if d = true then (some false) else (spec_RoutesValid.l1L a b c 0) := by
  refine lU (spec_RoutesValid.j1L_is a b c d) (LimIs.step1 (by simp only [spec_RoutesValid.j1]) ?_)
  simp only [spec_RoutesValid.j1]
  repeat' with_reducible first | exact lK _ | exact spec_RoutesValid.l1L_is .. | apply lI | apply lB | intro _
theorem spec_RoutesValid.l1L_eq (a : List (S60)) (b : List (S58)) (c d : Int) : spec_RoutesValid.l1L a b c d = if d < c then (if 0 ≤ d then (if d < (a.length : Int) then (if 0 ≤ c then (if c < (a.length : Int) then (if ((rd_T60 a d).f0) = ((rd_T60 a c).f0) then (some false) else (spec_RoutesValid.l1L a b c (wrap64 (d + 1)))) else (none)) else (none)) else (none)) else (none)) else (if 0 ≤ c then (if c < (a.length : Int) then (if b.length < 4398046511104 then (spec_RoutesValid.l0L a (b ++ [(⟨(rd_T60 a c).f1.f0, (rd_T60 a c).f1.f1⟩ : S58)]) (wrap64 (c + 1))) else (none)) else (none)) else (none)) := by
  refine lU (spec_RoutesValid.l1L_is a b c d) (LimIs.step1 (by simp only [spec_RoutesValid.l1]) ?_)
  simp only [spec_RoutesValid.l1]
  repeat' with_reducible first | exact lK _ | exact spec_RoutesValid.l0L_is .. | exact spec_RoutesValid.l1L_is .. | apply lI | apply lB | intro _
theorem spec_RoutesValid.fL_eq (l0 : List (S60)) : spec_RoutesValid.fL l0 = spec_RoutesValid.l0L l0 (([] : List (S58))) 0 := by
  refine lU (spec_RoutesValid.fL_is l0) ?_
  unfold spec_RoutesValid.f
  repeat' with_reducible first | exact lK _ | exact spec_RoutesValid.l0L_is .. | apply lI | apply lB | intro _
/-! ### spec_RoutesText -/
section
variable (a : List (S60)) (b : ByteArray) (c : Int)
noncomputable def spec_RoutesText.l0L : Option (ByteArray) := Lim (spec_RoutesText.l0 · a b c)
theorem spec_RoutesText.l0L_is : LimIs (spec_RoutesText.l0 · a b c) (spec_RoutesText.l0L a b c) := lM (fun k => (spec_RoutesText.mono_l k).1 a b c)
end
section
variable (a : List (S60)) (b : ByteArray) (c : Int) (d : Bool)
noncomputable def spec_RoutesText.j1L : Option (ByteArray) := Lim (spec_RoutesText.j1 · a b c d)
theorem spec_RoutesText.j1L_is : LimIs (spec_RoutesText.j1 · a b c d) (spec_RoutesText.j1L a b c d) := lM (fun k => (spec_RoutesText.mono_l k).2 a b c d)
end
section
variable (l0 : List (S60))
noncomputable def spec_RoutesText.fL : Option (ByteArray) := Lim (spec_RoutesText.f · l0)
theorem spec_RoutesText.fL_is : LimIs (spec_RoutesText.f · l0) (spec_RoutesText.fL l0) := lM (fun k => spec_RoutesText.mono l0 k)
end
theorem spec_RoutesText.l0L_eq (a : List (S60)) (b : ByteArray) (c : Int) : spec_RoutesText.l0L a b c = if c < (a.length : Int) then ((spec_RoutesValid.fL a).bind fun t149 => (spec_RoutesText.j1L a b c t149)) else (spec_RoutesText.j1L a b c false) := by
  refine lU (spec_RoutesText.l0L_is a b c) (LimIs.step1 (by simp only [spec_RoutesText.l0]) ?_)
  simp only [spec_RoutesText.l0]
  repeat' with_reducible first | exact lK _ | exact spec_RoutesText.j1L_is .. | exact spec_RoutesValid.fL_is .. | apply lI | apply lB | intro _
theorem spec_RoutesText.j1L_eq (a : List (S60)) (b : ByteArray) (c : Int) (d : Bool) : spec_RoutesText.j1L a b c d = if d = true then (if c > 0 then (if b.size + 1 ≤ 9223372036854775807 then (if 0 ≤ c then (if c < (a.length : Int) then ((spec_l7Text.fL ((rd_T60 a c).f0)).bind fun t151 => (if (b ++ (⟨#[32]⟩ : ByteArray)).size + t151.size ≤ 9223372036854775807 then (if ((b ++ (⟨#[32]⟩ : ByteArray)) ++ t151).size + 1 ≤ 9223372036854775807 then (if (((b ++ (⟨#[32]⟩ : ByteArray)) ++ t151) ++ (⟨#[58]⟩ : ByteArray)).size + ((rd_T60 a c).f1.f0).size ≤ 9223372036854775807 then (if ((((b ++ (⟨#[32]⟩ : ByteArray)) ++ t151) ++ (⟨#[58]⟩ : ByteArray)) ++ ((rd_T60 a c).f1.f0)).size + 1 ≤ 9223372036854775807 then (if (((((b ++ (⟨#[32]⟩ : ByteArray)) ++ t151) ++ (⟨#[58]⟩ : ByteArray)) ++ ((rd_T60 a c).f1.f0)) ++ (⟨#[45]⟩ : ByteArray)).size + ((rd_T60 a c).f1.f1).size ≤ 9223372036854775807 then (spec_RoutesText.l0L a ((((((b ++ (⟨#[32]⟩ : ByteArray)) ++ t151) ++ (⟨#[58]⟩ : ByteArray)) ++ ((rd_T60 a c).f1.f0)) ++ (⟨#[45]⟩ : ByteArray)) ++ ((rd_T60 a c).f1.f1)) (wrap64 (c + 1))) else (none)) else (none)) else (none)) else (none)) else (none))) else (none)) else (none)) else (none)) else (if 0 ≤ c then (if c < (a.length : Int) then ((spec_l7Text.fL ((rd_T60 a c).f0)).bind fun t155 => (if b.size + t155.size ≤ 9223372036854775807 then (if (b ++ t155).size + 1 ≤ 9223372036854775807 then (if ((b ++ t155) ++ (⟨#[58]⟩ : ByteArray)).size + ((rd_T60 a c).f1.f0).size ≤ 9223372036854775807 then (if (((b ++ t155) ++ (⟨#[58]⟩ : ByteArray)) ++ ((rd_T60 a c).f1.f0)).size + 1 ≤ 9223372036854775807 then (if ((((b ++ t155) ++ (⟨#[58]⟩ : ByteArray)) ++ ((rd_T60 a c).f1.f0)) ++ (⟨#[45]⟩ : ByteArray)).size + ((rd_T60 a c).f1.f1).size ≤ 9223372036854775807 then (spec_RoutesText.l0L a (((((b ++ t155) ++ (⟨#[58]⟩ : ByteArray)) ++ ((rd_T60 a c).f1.f0)) ++ (⟨#[45]⟩ : ByteArray)) ++ ((rd_T60 a c).f1.f1)) (wrap64 (c + 1))) else (none)) else (none)) else (none)) else (none)) else (none))) else (none)) else (none))) else (some b) := by
  refine lU (spec_RoutesText.j1L_is a b c d) (LimIs.step1 (by simp only [spec_RoutesText.j1]) ?_)
  simp only [spec_RoutesText.j1]
  repeat' with_reducible first | exact lK _ | exact spec_RoutesText.l0L_is .. | exact spec_l7Text.fL_is .. | apply lI | apply lB | intro _
theorem spec_RoutesText.fL_eq (l0 : List (S60)) : spec_RoutesText.fL l0 = spec_RoutesText.l0L l0 (⟨#[]⟩ : ByteArray) 0 := by
  refine lU (spec_RoutesText.fL_is l0) ?_
  unfold spec_RoutesText.f
  repeat' with_reducible first | exact lK _ | exact spec_RoutesText.l0L_is .. | apply lI | apply lB | intro _
/-! ### spec_l7Words -/
section
variable (a : ByteArray) (b : List ByteArray) (c : Int)
noncomputable def spec_l7Words.l0L : Option (List ByteArray) := Lim (spec_l7Words.l0 · a b c)
theorem spec_l7Words.l0L_is : LimIs (spec_l7Words.l0 · a b c) (spec_l7Words.l0L a b c) := lM (fun k => (spec_l7Words.mono_l k) a b c)
end
section
variable (a0 : ByteArray)
noncomputable def spec_l7Words.fL : Option (List ByteArray) := Lim (spec_l7Words.f · a0)
theorem spec_l7Words.fL_is : LimIs (spec_l7Words.f · a0) (spec_l7Words.fL a0) := lM (fun k => spec_l7Words.mono a0 k)
end
theorem spec_l7Words.l0L_eq (a : ByteArray) (b : List ByteArray) (c : Int) : spec_l7Words.l0L a b c = if c < (a.size : Int) then (if 0 ≤ c then (if (bt a c) = 32 then (if b.length < 8796093022208 then (spec_l7Words.l0L a (b ++ [(⟨#[]⟩ : ByteArray)]) (wrap64 (c + 1))) else (none)) else (if 0 ≤ (wrap64 ((b.length : Int) - 1)) then (if (wrap64 ((b.length : Int) - 1)) < (b.length : Int) then (if c ≤ (wrap64 (c + 1)) then (if (wrap64 (c + 1)) ≤ (a.size : Int) then (if (rdOf ByteArray.empty b (wrap64 ((b.length : Int) - 1))).size + (a.extract (c : Int).toNat ((wrap64 (c + 1)) : Int).toNat).size ≤ 9223372036854775807 then (spec_l7Words.l0L a (b.set ((wrap64 ((b.length : Int) - 1)) : Int).toNat ((rdOf ByteArray.empty b (wrap64 ((b.length : Int) - 1))) ++ (a.extract (c : Int).toNat ((wrap64 (c + 1)) : Int).toNat))) (wrap64 (c + 1))) else (none)) else (none)) else (none)) else (none)) else (none))) else (none)) else (some b) := by
  refine lU (spec_l7Words.l0L_is a b c) (LimIs.step1 (by simp only [spec_l7Words.l0]) ?_)
  simp only [spec_l7Words.l0]
  repeat' with_reducible first | exact lK _ | exact spec_l7Words.l0L_is .. | apply lI | apply lB | intro _
theorem spec_l7Words.fL_eq (a0 : ByteArray) : spec_l7Words.fL a0 = spec_l7Words.l0L a0 (([(⟨#[]⟩ : ByteArray)] : List ByteArray)) 0 := by
  refine lU (spec_l7Words.fL_is a0) ?_
  unfold spec_l7Words.f
  repeat' with_reducible first | exact lK _ | exact spec_l7Words.l0L_is .. | apply lI | apply lB | intro _
/-! ### spec_l41Split -/
section
variable (a : ByteArray) (b c : Int)
noncomputable def spec_l41Split.l0L : Option (ByteArray × ByteArray × Bool) := Lim (spec_l41Split.l0 · a b c)
theorem spec_l41Split.l0L_is : LimIs (spec_l41Split.l0 · a b c) (spec_l41Split.l0L a b c) := lM (fun k => (spec_l41Split.mono_l k) a b c)
end
section
variable (a0 : ByteArray) (a1 : Int)
noncomputable def spec_l41Split.fL : Option (ByteArray × ByteArray × Bool) := Lim (spec_l41Split.f · a0 a1)
theorem spec_l41Split.fL_is : LimIs (spec_l41Split.f · a0 a1) (spec_l41Split.fL a0 a1) := lM (fun k => spec_l41Split.mono a0 a1 k)
end
theorem spec_l41Split.l0L_eq (a : ByteArray) (b c : Int) : spec_l41Split.l0L a b c = if c < (a.size : Int) then (if 0 ≤ c then (if (bt a c) = b then (if c ≤ (a.size : Int) then (if 0 ≤ (wrap64 (c + 1)) then (if (wrap64 (c + 1)) ≤ (a.size : Int) then (some (a.extract 0 (c : Int).toNat, a.extract ((wrap64 (c + 1)) : Int).toNat a.size, true)) else (none)) else (none)) else (none)) else (spec_l41Split.l0L a b (wrap64 (c + 1)))) else (none)) else (some (a, (⟨#[]⟩ : ByteArray), false)) := by
  refine lU (spec_l41Split.l0L_is a b c) (LimIs.step1 (by simp only [spec_l41Split.l0]) ?_)
  simp only [spec_l41Split.l0]
  repeat' with_reducible first | exact lK _ | exact spec_l41Split.l0L_is .. | apply lI | apply lB | intro _
theorem spec_l41Split.fL_eq (a0 : ByteArray) (a1 : Int) : spec_l41Split.fL a0 a1 = spec_l41Split.l0L a0 a1 0 := by
  refine lU (spec_l41Split.fL_is a0 a1) ?_
  unfold spec_l41Split.f
  repeat' with_reducible first | exact lK _ | exact spec_l41Split.l0L_is .. | apply lI | apply lB | intro _
/-! ### spec_l7Number -/
section
variable (a : ByteArray) (b c : Int)
noncomputable def spec_l7Number.l0L : Option (Int) := Lim (spec_l7Number.l0 · a b c)
theorem spec_l7Number.l0L_is : LimIs (spec_l7Number.l0 · a b c) (spec_l7Number.l0L a b c) := lM (fun k => (spec_l7Number.mono_l k) a b c)
end
section
variable (a0 : ByteArray)
noncomputable def spec_l7Number.fL : Option (Int) := Lim (spec_l7Number.f · a0)
theorem spec_l7Number.fL_is : LimIs (spec_l7Number.f · a0) (spec_l7Number.fL a0) := lM (fun k => spec_l7Number.mono a0 k)
end
theorem spec_l7Number.l0L_eq (a : ByteArray) (b c : Int) : spec_l7Number.l0L a b c = if c < (a.size : Int) then (if 0 ≤ c then (if (bt a c) < 48 then (some (-1)) else (if (bt a c) > 57 then (some (-1)) else (spec_l7Number.l0L a (wrap64 ((wrap64 (10 * b)) + (((bt a c) - 48) % 256))) (wrap64 (c + 1))))) else (none)) else (some b) := by
  refine lU (spec_l7Number.l0L_is a b c) (LimIs.step1 (by simp only [spec_l7Number.l0]) ?_)
  simp only [spec_l7Number.l0]
  repeat' with_reducible first | exact lK _ | exact spec_l7Number.l0L_is .. | apply lI | apply lB | intro _
theorem spec_l7Number.fL_eq (a0 : ByteArray) : spec_l7Number.fL a0 = (spec_l1In.f (a0.size : Int) 1 4).bind fun t166 => (if t166 = true then (spec_l7Number.l0L a0 0 0) else (some (-1))) := by
  refine lU (spec_l7Number.fL_is a0) ?_
  unfold spec_l7Number.f
  repeat' with_reducible first | exact lK _ | exact spec_l7Number.l0L_is .. | apply lI | apply lB | intro _
/-! ### spec_ReadRoutes -/
section
variable (a : ByteArray) (b : List (S60)) (c : List ByteArray) (d : Int)
noncomputable def spec_ReadRoutes.l0L : Option ((List (S60)) × Bool) := Lim (spec_ReadRoutes.l0 · a b c d)
theorem spec_ReadRoutes.l0L_is : LimIs (spec_ReadRoutes.l0 · a b c d) (spec_ReadRoutes.l0L a b c d) := lM (fun k => (spec_ReadRoutes.mono_l k).1 a b c d)
end
section
variable (a : ByteArray) (b : List (S60)) (c : List ByteArray) (d : Int) (e : Bool)
noncomputable def spec_ReadRoutes.j1L : Option ((List (S60)) × Bool) := Lim (spec_ReadRoutes.j1 · a b c d e)
theorem spec_ReadRoutes.j1L_is : LimIs (spec_ReadRoutes.j1 · a b c d e) (spec_ReadRoutes.j1L a b c d e) := lM (fun k => (spec_ReadRoutes.mono_l k).2 a b c d e)
end
section
variable (a0 : ByteArray)
noncomputable def spec_ReadRoutes.fL : Option ((List (S60)) × Bool) := Lim (spec_ReadRoutes.f · a0)
theorem spec_ReadRoutes.fL_is : LimIs (spec_ReadRoutes.f · a0) (spec_ReadRoutes.fL a0) := lM (fun k => spec_ReadRoutes.mono a0 k)
end
theorem spec_ReadRoutes.l0L_eq (a : ByteArray) (b : List (S60)) (c : List ByteArray) (d : Int) : spec_ReadRoutes.l0L a b c d = if d < (c.length : Int) then (spec_ReadRoutes.j1L a b c d (decide (d ≤ 6))) else (spec_ReadRoutes.j1L a b c d false) := by
  refine lU (spec_ReadRoutes.l0L_is a b c d) (LimIs.step1 (by simp only [spec_ReadRoutes.l0]) ?_)
  simp only [spec_ReadRoutes.l0]
  repeat' with_reducible first | exact lK _ | exact spec_ReadRoutes.j1L_is .. | apply lI | apply lB | intro _
theorem spec_ReadRoutes.j1L_eq (a : ByteArray) (b : List (S60)) (c : List ByteArray) (d : Int) (e : Bool) : spec_ReadRoutes.j1L a b c d e = if e = true then (if 0 ≤ d then (if d < (c.length : Int) then ((spec_l41Split.fL (rdOf ByteArray.empty c d) 58).bind fun bt174 => ((spec_l41Split.fL bt174.2.1 45).bind fun bt177 => ((spec_l7Number.fL bt174.1).bind fun t180 => (if b.length < 3518437208883 then (spec_ReadRoutes.l0L a (b ++ [(⟨t180, (⟨bt177.1, bt177.2.1⟩ : S58)⟩ : S60)]) c (wrap64 (d + 1))) else (none))))) else (none)) else (none)) else (if a.toList = ([] : List UInt8) then (some ((([] : List (S60))), false)) else ((spec_RoutesText.fL b).bind fun t187 => (if t187.toList = a.toList then (some (b, true)) else (some ((([] : List (S60))), false))))) := by
  refine lU (spec_ReadRoutes.j1L_is a b c d e) (LimIs.step1 (by simp only [spec_ReadRoutes.j1]) ?_)
  simp only [spec_ReadRoutes.j1]
  repeat' with_reducible first | exact lK _ | exact spec_ReadRoutes.l0L_is .. | exact spec_RoutesText.fL_is .. | exact spec_l41Split.fL_is .. | exact spec_l7Number.fL_is .. | apply lI | apply lB | intro _
theorem spec_ReadRoutes.fL_eq (a0 : ByteArray) : spec_ReadRoutes.fL a0 = (spec_l7Words.fL a0).bind fun t170 => (spec_ReadRoutes.l0L a0 (([] : List (S60))) t170 0) := by
  refine lU (spec_ReadRoutes.fL_is a0) ?_
  unfold spec_ReadRoutes.f
  repeat' with_reducible first | exact lK _ | exact spec_ReadRoutes.l0L_is .. | exact spec_l7Words.fL_is .. | apply lI | apply lB | intro _
/-! ### impl_IntervalValid -/
section
variable (a0_0 a0_1 : ByteArray)
noncomputable def impl_IntervalValid.fL : Option (Bool) := Lim (impl_IntervalValid.f · a0_0 a0_1)
theorem impl_IntervalValid.fL_is : LimIs (impl_IntervalValid.f · a0_0 a0_1) (impl_IntervalValid.fL a0_0 a0_1) := lM (fun k => impl_IntervalValid.mono a0_0 a0_1 k)
end
theorem impl_IntervalValid.fL_eq (a0_0 a0_1 : ByteArray) : impl_IntervalValid.fL a0_0 a0_1 = if a0_0.toList = ([] : List UInt8) then (if a0_1.toList = ([] : List UInt8) then (some true) else ((impl_KeyValid.fL a0_1).bind fun t193 => (if t193 = true then ((impl_lowestKey.f a0_0 a0_1).bind fun t194 => (some (Op.bytesLess t194.toList a0_1.toList))) else (some false)))) else ((impl_KeyValid.fL a0_0).bind fun t195 => (if t195 = true then (if a0_1.toList = ([] : List UInt8) then (some true) else ((impl_KeyValid.fL a0_1).bind fun t196 => (if t196 = true then ((impl_lowestKey.f a0_0 a0_1).bind fun t197 => (some (Op.bytesLess t197.toList a0_1.toList))) else (some false)))) else (some false))) := by
  refine lU (impl_IntervalValid.fL_is a0_0 a0_1) ?_
  unfold impl_IntervalValid.f
  repeat' with_reducible first | exact lK _ | exact impl_KeyValid.fL_is .. | apply lI | apply lB | intro _
/-! ### impl_IntervalJoin -/
section
variable (a0_0 a0_1 a1_0 a1_1 : ByteArray)
noncomputable def impl_IntervalJoin.fL : Option (ByteArray × ByteArray × Bool) := Lim (impl_IntervalJoin.f · a0_0 a0_1 a1_0 a1_1)
theorem impl_IntervalJoin.fL_is : LimIs (impl_IntervalJoin.f · a0_0 a0_1 a1_0 a1_1) (impl_IntervalJoin.fL a0_0 a0_1 a1_0 a1_1) := lM (fun k => impl_IntervalJoin.mono a0_0 a0_1 a1_0 a1_1 k)
end
theorem impl_IntervalJoin.fL_eq (a0_0 a0_1 a1_0 a1_1 : ByteArray) : impl_IntervalJoin.fL a0_0 a0_1 a1_0 a1_1 = (impl_IntervalValid.fL a0_0 a0_1).bind fun t201 => (if t201 = true then ((impl_IntervalValid.fL a1_0 a1_1).bind fun t202 => (if t202 = true then (if a0_1.toList = ([] : List UInt8) then (some ((⟨#[]⟩ : ByteArray), (⟨#[]⟩ : ByteArray), false)) else (if a0_1.toList = a1_0.toList then (some (a0_0, a1_1, true)) else (some ((⟨#[]⟩ : ByteArray), (⟨#[]⟩ : ByteArray), false)))) else (some ((⟨#[]⟩ : ByteArray), (⟨#[]⟩ : ByteArray), false)))) else (some ((⟨#[]⟩ : ByteArray), (⟨#[]⟩ : ByteArray), false))) := by
  refine lU (impl_IntervalJoin.fL_is a0_0 a0_1 a1_0 a1_1) ?_
  unfold impl_IntervalJoin.f
  repeat' with_reducible first | exact lK _ | exact impl_IntervalValid.fL_is .. | apply lI | apply lB | intro _
/-! ### impl_PartitionValid -/
section
variable (a : List (S58)) (b : Bool)
noncomputable def impl_PartitionValid.j0L : Option (Bool) := Lim (impl_PartitionValid.j0 · a b)
theorem impl_PartitionValid.j0L_is : LimIs (impl_PartitionValid.j0 · a b) (impl_PartitionValid.j0L a b) := lM (fun k => (impl_PartitionValid.mono_l k).1 a b)
end
section
variable (a b : List (S58)) (c d : Int)
noncomputable def impl_PartitionValid.l0L : Option (Bool) := Lim (impl_PartitionValid.l0 · a b c d)
theorem impl_PartitionValid.l0L_is : LimIs (impl_PartitionValid.l0 · a b c d) (impl_PartitionValid.l0L a b c d) := lM (fun k => (impl_PartitionValid.mono_l k).2 a b c d)
end
section
variable (l0 : List (S58))
noncomputable def impl_PartitionValid.fL : Option (Bool) := Lim (impl_PartitionValid.f · l0)
theorem impl_PartitionValid.fL_is : LimIs (impl_PartitionValid.f · l0) (impl_PartitionValid.fL l0) := lM (fun k => impl_PartitionValid.mono l0 k)
end
theorem impl_PartitionValid.j0L_eq (a : List (S58)) (b : Bool) : impl_PartitionValid.j0L a b = if b = true then (some false) else (impl_PartitionValid.l0L a a (a.length : Int) 0) := by
  refine lU (impl_PartitionValid.j0L_is a b) (LimIs.step1 (by simp only [impl_PartitionValid.j0]) ?_)
  simp only [impl_PartitionValid.j0]
  repeat' with_reducible first | exact lK _ | exact impl_PartitionValid.l0L_is .. | apply lI | apply lB | intro _
theorem impl_PartitionValid.l0L_eq (a b : List (S58)) (c d : Int) : impl_PartitionValid.l0L a b c d = if d < c then (if 0 ≤ d then (if d < (b.length : Int) then ((impl_IntervalValid.fL ((rd_T58 b d).f0) ((rd_T58 b d).f1)).bind fun t207 => (if t207 = true then (if d > 0 then (if 0 ≤ (wrap64 (d - 1)) then (if (wrap64 (d - 1)) < (a.length : Int) then ((impl_IntervalJoin.fL ((rd_T58 a (wrap64 (d - 1))).f0) ((rd_T58 a (wrap64 (d - 1))).f1) ((rd_T58 b d).f0) ((rd_T58 b d).f1)).bind fun bt209 => (if bt209.2.2 = true then (impl_PartitionValid.l0L a b c (wrap64 (d + 1))) else (some false))) else (none)) else (none)) else (impl_PartitionValid.l0L a b c (wrap64 (d + 1)))) else (some false))) else (none)) else (none)) else (some true) := by
  refine lU (impl_PartitionValid.l0L_is a b c d) (LimIs.step1 (by simp only [impl_PartitionValid.l0]) ?_)
  simp only [impl_PartitionValid.l0]
  repeat' with_reducible first | exact lK _ | exact impl_IntervalJoin.fL_is .. | exact impl_IntervalValid.fL_is .. | exact impl_PartitionValid.l0L_is .. | apply lI | apply lB | intro _
theorem impl_PartitionValid.fL_eq (l0 : List (S58)) : impl_PartitionValid.fL l0 = if (l0.length : Int) < 1 then (impl_PartitionValid.j0L l0 true) else (if (l0.length : Int) > 6 then (impl_PartitionValid.j0L l0 true) else (if 0 < (l0.length : Int) then (if ((rd_T58 l0 0).f0).toList = ([] : List UInt8) then (if 0 ≤ (wrap64 ((l0.length : Int) - 1)) then (if (wrap64 ((l0.length : Int) - 1)) < (l0.length : Int) then (impl_PartitionValid.j0L l0 (((rd_T58 l0 (wrap64 ((l0.length : Int) - 1))).f1).toList != ([] : List UInt8))) else (none)) else (none)) else (impl_PartitionValid.j0L l0 true)) else (none))) := by
  refine lU (impl_PartitionValid.fL_is l0) ?_
  unfold impl_PartitionValid.f
  repeat' with_reducible first | exact lK _ | exact impl_PartitionValid.j0L_is .. | apply lI | apply lB | intro _
/-! ### impl_spansOf -/
section
variable (a : List (S58)) (b : List (S60)) (c d : Int)
noncomputable def impl_spansOf.l0L : Option ((List (S58))) := Lim (impl_spansOf.l0 · a b c d)
theorem impl_spansOf.l0L_is : LimIs (impl_spansOf.l0 · a b c d) (impl_spansOf.l0L a b c d) := lM (fun k => (impl_spansOf.mono_l k) a b c d)
end
section
variable (l0 : List (S60))
noncomputable def impl_spansOf.fL : Option ((List (S58))) := Lim (impl_spansOf.f · l0)
theorem impl_spansOf.fL_is : LimIs (impl_spansOf.f · l0) (impl_spansOf.fL l0) := lM (fun k => impl_spansOf.mono l0 k)
end
theorem impl_spansOf.l0L_eq (a : List (S58)) (b : List (S60)) (c d : Int) : impl_spansOf.l0L a b c d = if d < c then (if 0 ≤ d then (if d < (b.length : Int) then (if a.length < 4398046511104 then (impl_spansOf.l0L (a ++ [(⟨(rd_T60 b d).f1.f0, (rd_T60 b d).f1.f1⟩ : S58)]) b c (wrap64 (d + 1))) else (none)) else (none)) else (none)) else (some a) := by
  refine lU (impl_spansOf.l0L_is a b c d) (LimIs.step1 (by simp only [impl_spansOf.l0]) ?_)
  simp only [impl_spansOf.l0]
  repeat' with_reducible first | exact lK _ | exact impl_spansOf.l0L_is .. | apply lI | apply lB | intro _
theorem impl_spansOf.fL_eq (l0 : List (S60)) : impl_spansOf.fL l0 = impl_spansOf.l0L ([] : List (S58)) l0 (l0.length : Int) 0 := by
  refine lU (impl_spansOf.fL_is l0) ?_
  unfold impl_spansOf.f
  repeat' with_reducible first | exact lK _ | exact impl_spansOf.l0L_is .. | apply lI | apply lB | intro _
/-! ### impl_routePlace -/
section
variable (a : Int) (b : List (S60)) (c d : Int)
noncomputable def impl_routePlace.l0L : Option (Int) := Lim (impl_routePlace.l0 · a b c d)
theorem impl_routePlace.l0L_is : LimIs (impl_routePlace.l0 · a b c d) (impl_routePlace.l0L a b c d) := lM (fun k => (impl_routePlace.mono_l k) a b c d)
end
section
variable (l0 : List (S60)) (a1 : Int)
noncomputable def impl_routePlace.fL : Option (Int) := Lim (impl_routePlace.f · l0 a1)
theorem impl_routePlace.fL_is : LimIs (impl_routePlace.f · l0 a1) (impl_routePlace.fL l0 a1) := lM (fun k => impl_routePlace.mono l0 a1 k)
end
theorem impl_routePlace.l0L_eq (a : Int) (b : List (S60)) (c d : Int) : impl_routePlace.l0L a b c d = if d < c then (if 0 ≤ d then (if d < (b.length : Int) then (if ((rd_T60 b d).f0) = a then (some d) else (impl_routePlace.l0L a b c (wrap64 (d + 1)))) else (none)) else (none)) else (some (-1)) := by
  refine lU (impl_routePlace.l0L_is a b c d) (LimIs.step1 (by simp only [impl_routePlace.l0]) ?_)
  simp only [impl_routePlace.l0]
  repeat' with_reducible first | exact lK _ | exact impl_routePlace.l0L_is .. | apply lI | apply lB | intro _
theorem impl_routePlace.fL_eq (l0 : List (S60)) (a1 : Int) : impl_routePlace.fL l0 a1 = impl_routePlace.l0L a1 l0 (l0.length : Int) 0 := by
  refine lU (impl_routePlace.fL_is l0 a1) ?_
  unfold impl_routePlace.f
  repeat' with_reducible first | exact lK _ | exact impl_routePlace.l0L_is .. | apply lI | apply lB | intro _
/-! ### impl_numbersDiffer -/
section
variable (a b : List (S60)) (c d : Int)
noncomputable def impl_numbersDiffer.l0L : Option (Bool) := Lim (impl_numbersDiffer.l0 · a b c d)
theorem impl_numbersDiffer.l0L_is : LimIs (impl_numbersDiffer.l0 · a b c d) (impl_numbersDiffer.l0L a b c d) := lM (fun k => (impl_numbersDiffer.mono_l k) a b c d)
end
section
variable (l0 : List (S60))
noncomputable def impl_numbersDiffer.fL : Option (Bool) := Lim (impl_numbersDiffer.f · l0)
theorem impl_numbersDiffer.fL_is : LimIs (impl_numbersDiffer.f · l0) (impl_numbersDiffer.fL l0) := lM (fun k => impl_numbersDiffer.mono l0 k)
end
theorem impl_numbersDiffer.l0L_eq (a b : List (S60)) (c d : Int) : impl_numbersDiffer.l0L a b c d = if d < c then (if 0 ≤ d then (if d < (b.length : Int) then ((impl_shardNumber.f ((rd_T60 b d).f0)).bind fun t222 => (if t222 = true then (if d ≤ (a.length : Int) then ((impl_routePlace.fL (a.take (d : Int).toNat) ((rd_T60 b d).f0)).bind fun t227 => (if t227 ≥ 0 then (some false) else (impl_numbersDiffer.l0L a b c (wrap64 (d + 1))))) else (none)) else (some false))) else (none)) else (none)) else (some true) := by
  refine lU (impl_numbersDiffer.l0L_is a b c d) (LimIs.step1 (by simp only [impl_numbersDiffer.l0]) ?_)
  simp only [impl_numbersDiffer.l0]
  repeat' with_reducible first | exact lK _ | exact impl_numbersDiffer.l0L_is .. | exact impl_routePlace.fL_is .. | apply lI | apply lB | intro _
theorem impl_numbersDiffer.fL_eq (l0 : List (S60)) : impl_numbersDiffer.fL l0 = impl_numbersDiffer.l0L l0 l0 (l0.length : Int) 0 := by
  refine lU (impl_numbersDiffer.fL_is l0) ?_
  unfold impl_numbersDiffer.f
  repeat' with_reducible first | exact lK _ | exact impl_numbersDiffer.l0L_is .. | apply lI | apply lB | intro _
/-! ### impl_RoutesValid -/
section
variable (l0 : List (S60))
noncomputable def impl_RoutesValid.fL : Option (Bool) := Lim (impl_RoutesValid.f · l0)
theorem impl_RoutesValid.fL_is : LimIs (impl_RoutesValid.f · l0) (impl_RoutesValid.fL l0) := lM (fun k => impl_RoutesValid.mono l0 k)
end
theorem impl_RoutesValid.fL_eq (l0 : List (S60)) : impl_RoutesValid.fL l0 = if (l0.length : Int) ≤ 6 then ((impl_spansOf.fL l0).bind fun t228 => ((impl_PartitionValid.fL t228).bind fun t231 => (if t231 = true then ((impl_numbersDiffer.fL l0).bind fun t232 => (some t232)) else (some false)))) else (some false) := by
  refine lU (impl_RoutesValid.fL_is l0) ?_
  unfold impl_RoutesValid.f
  repeat' with_reducible first | exact lK _ | exact impl_PartitionValid.fL_is .. | exact impl_numbersDiffer.fL_is .. | exact impl_spansOf.fL_is .. | apply lI | apply lB | intro _
/-! ### impl_RoutesText -/
section
variable (a : List ByteArray) (b : List (S60)) (c d : Int)
noncomputable def impl_RoutesText.l0L : Option (ByteArray) := Lim (impl_RoutesText.l0 · a b c d)
theorem impl_RoutesText.l0L_is : LimIs (impl_RoutesText.l0 · a b c d) (impl_RoutesText.l0L a b c d) := lM (fun k => (impl_RoutesText.mono_l k) a b c d)
end
section
variable (l0 : List (S60))
noncomputable def impl_RoutesText.fL : Option (ByteArray) := Lim (impl_RoutesText.f · l0)
theorem impl_RoutesText.fL_is : LimIs (impl_RoutesText.f · l0) (impl_RoutesText.fL l0) := lM (fun k => impl_RoutesText.mono l0 k)
end
theorem impl_RoutesText.l0L_eq (a : List ByteArray) (b : List (S60)) (c d : Int) : impl_RoutesText.l0L a b c d = if d < c then (if 0 ≤ d then (if d < (b.length : Int) then ((strconv_Itoa.f ((rd_T60 b d).f0)).bind fun t236 => (if t236.size + 1 ≤ 9223372036854775807 then (if (t236 ++ (⟨#[58]⟩ : ByteArray)).size + ((rd_T60 b d).f1.f0).size ≤ 9223372036854775807 then (if ((t236 ++ (⟨#[58]⟩ : ByteArray)) ++ ((rd_T60 b d).f1.f0)).size + 1 ≤ 9223372036854775807 then (if (((t236 ++ (⟨#[58]⟩ : ByteArray)) ++ ((rd_T60 b d).f1.f0)) ++ (⟨#[45]⟩ : ByteArray)).size + ((rd_T60 b d).f1.f1).size ≤ 9223372036854775807 then (if a.length < 8796093022208 then (impl_RoutesText.l0L (a ++ [(((t236 ++ (⟨#[58]⟩ : ByteArray)) ++ ((rd_T60 b d).f1.f0)) ++ (⟨#[45]⟩ : ByteArray)) ++ ((rd_T60 b d).f1.f1)]) b c (wrap64 (d + 1))) else (none)) else (none)) else (none)) else (none)) else (none))) else (none)) else (none)) else ((strings_Join.f a (⟨#[32]⟩ : ByteArray)).bind fun t240 => (some t240)) := by
  refine lU (impl_RoutesText.l0L_is a b c d) (LimIs.step1 (by simp only [impl_RoutesText.l0]) ?_)
  simp only [impl_RoutesText.l0]
  repeat' with_reducible first | exact lK _ | exact impl_RoutesText.l0L_is .. | apply lI | apply lB | intro _
theorem impl_RoutesText.fL_eq (l0 : List (S60)) : impl_RoutesText.fL l0 = (impl_RoutesValid.fL l0).bind fun t233 => (if t233 = true then (impl_RoutesText.l0L ([] : List ByteArray) l0 (l0.length : Int) 0) else (some (⟨#[]⟩ : ByteArray))) := by
  refine lU (impl_RoutesText.fL_is l0) ?_
  unfold impl_RoutesText.f
  repeat' with_reducible first | exact lK _ | exact impl_RoutesText.l0L_is .. | exact impl_RoutesValid.fL_is .. | apply lI | apply lB | intro _
/-! ### impl_ReadRoutes -/
section
variable (a : ByteArray) (b : List (S60)) (c : List ByteArray) (d e : Int)
noncomputable def impl_ReadRoutes.l0L : Option ((List (S60)) × Bool) := Lim (impl_ReadRoutes.l0 · a b c d e)
theorem impl_ReadRoutes.l0L_is : LimIs (impl_ReadRoutes.l0 · a b c d e) (impl_ReadRoutes.l0L a b c d e) := lM (fun k => (impl_ReadRoutes.mono_l k) a b c d e)
end
section
variable (a0 : ByteArray)
noncomputable def impl_ReadRoutes.fL : Option ((List (S60)) × Bool) := Lim (impl_ReadRoutes.f · a0)
theorem impl_ReadRoutes.fL_is : LimIs (impl_ReadRoutes.f · a0) (impl_ReadRoutes.fL a0) := lM (fun k => impl_ReadRoutes.mono a0 k)
end
theorem impl_ReadRoutes.l0L_eq (a : ByteArray) (b : List (S60)) (c : List ByteArray) (d e : Int) : impl_ReadRoutes.l0L a b c d e = if e < d then (if 0 ≤ e then (if e < (c.length : Int) then ((strings_Cut.f (rdOf ByteArray.empty c e) (⟨#[58]⟩ : ByteArray)).bind fun bt248 => ((strings_Cut.f bt248.2.1 (⟨#[45]⟩ : ByteArray)).bind fun bt251 => ((impl_numberOf.f bt248.1).bind fun t254 => (if b.length < 3518437208883 then (impl_ReadRoutes.l0L a (b ++ [(⟨t254, (⟨bt251.1, bt251.2.1⟩ : S58)⟩ : S60)]) c d (wrap64 (e + 1))) else (none))))) else (none)) else (none)) else ((impl_RoutesValid.fL b).bind fun t258 => (if t258 = true then ((impl_RoutesText.fL b).bind fun t259 => (if t259.toList = a.toList then (some (b, true)) else (some (([] : List (S60)), false)))) else (some (([] : List (S60)), false)))) := by
  refine lU (impl_ReadRoutes.l0L_is a b c d e) (LimIs.step1 (by simp only [impl_ReadRoutes.l0]) ?_)
  simp only [impl_ReadRoutes.l0]
  repeat' with_reducible first | exact lK _ | exact impl_ReadRoutes.l0L_is .. | exact impl_RoutesText.fL_is .. | exact impl_RoutesValid.fL_is .. | apply lI | apply lB | intro _
theorem impl_ReadRoutes.fL_eq (a0 : ByteArray) : impl_ReadRoutes.fL a0 = (strings_Split.f a0 (⟨#[32]⟩ : ByteArray)).bind fun t244 => (if (t244.length : Int) > 6 then (some (([] : List (S60)), false)) else (impl_ReadRoutes.l0L a0 ([] : List (S60)) t244 (t244.length : Int) 0)) := by
  refine lU (impl_ReadRoutes.fL_is a0) ?_
  unfold impl_ReadRoutes.f
  repeat' with_reducible first | exact lK _ | exact impl_ReadRoutes.l0L_is .. | apply lI | apply lB | intro _
/-! ### laws_sameRoutes -/
section
variable (a b : List (S60)) (c : Int)
noncomputable def laws_sameRoutes.l0L : Option (Bool) := Lim (laws_sameRoutes.l0 · a b c)
theorem laws_sameRoutes.l0L_is : LimIs (laws_sameRoutes.l0 · a b c) (laws_sameRoutes.l0L a b c) := lM (fun k => (laws_sameRoutes.mono_l k) a b c)
end
section
variable (l0 l1 : List (S60))
noncomputable def laws_sameRoutes.fL : Option (Bool) := Lim (laws_sameRoutes.f · l0 l1)
theorem laws_sameRoutes.fL_is : LimIs (laws_sameRoutes.f · l0 l1) (laws_sameRoutes.fL l0 l1) := lM (fun k => laws_sameRoutes.mono l0 l1 k)
end
theorem laws_sameRoutes.l0L_eq (a b : List (S60)) (c : Int) : laws_sameRoutes.l0L a b c = if c < (a.length : Int) then (if 0 ≤ c then (if c < (b.length : Int) then (if (!(((rd_T60 a c).f0) == ((rd_T60 b c).f0)) || ((!((((rd_T60 a c).f1.f0).toList) == (((rd_T60 b c).f1.f0).toList)) || (!((((rd_T60 a c).f1.f1).toList) == (((rd_T60 b c).f1.f1).toList)))))) = true then (some false) else (laws_sameRoutes.l0L a b (wrap64 (c + 1)))) else (none)) else (none)) else (some true) := by
  refine lU (laws_sameRoutes.l0L_is a b c) (LimIs.step1 (by simp only [laws_sameRoutes.l0]) ?_)
  simp only [laws_sameRoutes.l0]
  repeat' with_reducible first | exact lK _ | exact laws_sameRoutes.l0L_is .. | apply lI | apply lB | intro _
theorem laws_sameRoutes.fL_eq (l0 l1 : List (S60)) : laws_sameRoutes.fL l0 l1 = if (l0.length : Int) = (l1.length : Int) then (laws_sameRoutes.l0L l0 l1 0) else (some false) := by
  refine lU (laws_sameRoutes.fL_is l0 l1) ?_
  unfold laws_sameRoutes.f
  repeat' with_reducible first | exact lK _ | exact laws_sameRoutes.l0L_is .. | apply lI | apply lB | intro _
/-! ### spec_l20Rd_pick -/
section
variable (a : Int) (b : Bool) (c : List Int) (d : Int)
noncomputable def spec_l20Rd_pick.j0L : Option (Int × Int) := Lim (spec_l20Rd_pick.j0 · a b c d)
theorem spec_l20Rd_pick.j0L_is : LimIs (spec_l20Rd_pick.j0 · a b c d) (spec_l20Rd_pick.j0L a b c d) := lM (fun k => (spec_l20Rd_pick.mono_l k) a b c d)
end
section
variable (s0_0 : List Int) (s0_1 a1 : Int)
noncomputable def spec_l20Rd_pick.fL : Option (Int × Int) := Lim (spec_l20Rd_pick.f · s0_0 s0_1 a1)
theorem spec_l20Rd_pick.fL_is : LimIs (spec_l20Rd_pick.f · s0_0 s0_1 a1) (spec_l20Rd_pick.fL s0_0 s0_1 a1) := lM (fun k => spec_l20Rd_pick.mono s0_0 s0_1 a1 k)
end
theorem spec_l20Rd_pick.j0L_eq (a : Int) (b : Bool) (c : List Int) (d : Int) : spec_l20Rd_pick.j0L a b c d = if b = true then (some (0, d)) else (if (wrap64 (d - 1)) < (c.length : Int) then (if 0 ≤ (wrap64 (d - 1)) then (if a = 0 then (none) else (some (Int.tmod (wrap64 (rd c (wrap64 (d - 1)))) a, d))) else (none)) else (if (c.length : Int) = 0 then (none) else (if 0 ≤ (Int.tmod (wrap64 (d - 1)) (c.length : Int)) then (if (Int.tmod (wrap64 (d - 1)) (c.length : Int)) < (c.length : Int) then (if 0 ≤ (Int.tmod (wrap64 ((wrap64 ((wrap64 (d - 1)) * 7)) + 3)) (c.length : Int)) then (if (Int.tmod (wrap64 ((wrap64 ((wrap64 (d - 1)) * 7)) + 3)) (c.length : Int)) < (c.length : Int) then (if a = 0 then (none) else (some (Int.tmod (Go.bits .xor .i64 (wrap64 ((wrap64 ((wrap64 ((wrap64 ((wrap64 (rd c (Int.tmod (wrap64 (d - 1)) (c.length : Int)))) * 131)) + (wrap64 ((wrap64 (rd c (Int.tmod (wrap64 ((wrap64 ((wrap64 (d - 1)) * 7)) + 3)) (c.length : Int)))) * 1117)))) + (wrap64 ((wrap64 (d - 1)) * 29)))) + (wrap64 ((wrap64 (Int.tdiv (wrap64 (d - 1)) (c.length : Int))) * 53)))) (wrap64 (Int.tdiv (wrap64 ((wrap64 ((wrap64 ((wrap64 ((wrap64 (rd c (Int.tmod (wrap64 (d - 1)) (c.length : Int)))) * 131)) + (wrap64 ((wrap64 (rd c (Int.tmod (wrap64 ((wrap64 ((wrap64 (d - 1)) * 7)) + 3)) (c.length : Int)))) * 1117)))) + (wrap64 ((wrap64 (d - 1)) * 29)))) + (wrap64 ((wrap64 (Int.tdiv (wrap64 (d - 1)) (c.length : Int))) * 53)))) 64))) a, d))) else (none)) else (none)) else (none)) else (none)))) := by
  refine lU (spec_l20Rd_pick.j0L_is a b c d) (LimIs.step1 (by simp only [spec_l20Rd_pick.j0]) ?_)
  simp only [spec_l20Rd_pick.j0]
  repeat' with_reducible first | exact lK _ | apply lI | apply lB | intro _
theorem spec_l20Rd_pick.fL_eq (s0_0 : List Int) (s0_1 a1 : Int) : spec_l20Rd_pick.fL s0_0 s0_1 a1 = if a1 < 1 then (spec_l20Rd_pick.j0L a1 true s0_0 (wrap64 (s0_1 + 1))) else (spec_l20Rd_pick.j0L a1 ((s0_0.length : Int) == 0) s0_0 (wrap64 (s0_1 + 1))) := by
  refine lU (spec_l20Rd_pick.fL_is s0_0 s0_1 a1) ?_
  unfold spec_l20Rd_pick.f
  repeat' with_reducible first | exact lK _ | exact spec_l20Rd_pick.j0L_is .. | apply lI | apply lB | intro _
/-! ### spec_l20Rd_odd -/
section
variable (s0_0 : List Int) (s0_1 a1 : Int)
noncomputable def spec_l20Rd_odd.fL : Option (Bool × Int) := Lim (spec_l20Rd_odd.f · s0_0 s0_1 a1)
theorem spec_l20Rd_odd.fL_is : LimIs (spec_l20Rd_odd.f · s0_0 s0_1 a1) (spec_l20Rd_odd.fL s0_0 s0_1 a1) := lM (fun k => spec_l20Rd_odd.mono s0_0 s0_1 a1 k)
end
theorem spec_l20Rd_odd.fL_eq (s0_0 : List Int) (s0_1 a1 : Int) : spec_l20Rd_odd.fL s0_0 s0_1 a1 = if a1 > 0 then ((spec_l20Rd_pick.fL s0_0 s0_1 a1).bind fun bt271 => (some ((bt271.1 == (wrap64 (a1 - 1))), bt271.2))) else (some (false, s0_1)) := by
  refine lU (spec_l20Rd_odd.fL_is s0_0 s0_1 a1) ?_
  unfold spec_l20Rd_odd.f
  repeat' with_reducible first | exact lK _ | exact spec_l20Rd_pick.fL_is .. | apply lI | apply lB | intro _
/-! ### spec_PartitionOf -/
section
variable (a : List ByteArray) (b : List (S58)) (c : Int)
noncomputable def spec_PartitionOf.l0L : Option ((List (S58)) × Bool) := Lim (spec_PartitionOf.l0 · a b c)
theorem spec_PartitionOf.l0L_is : LimIs (spec_PartitionOf.l0 · a b c) (spec_PartitionOf.l0L a b c) := lM (fun k => (spec_PartitionOf.mono_l k) a b c)
end
section
variable (l0 : List ByteArray)
noncomputable def spec_PartitionOf.fL : Option ((List (S58)) × Bool) := Lim (spec_PartitionOf.f · l0)
theorem spec_PartitionOf.fL_is : LimIs (spec_PartitionOf.f · l0) (spec_PartitionOf.fL l0) := lM (fun k => spec_PartitionOf.mono l0 k)
end
theorem spec_PartitionOf.l0L_eq (a : List ByteArray) (b : List (S58)) (c : Int) : spec_PartitionOf.l0L a b c = if c < (a.length : Int) then (if (b.length : Int) ≤ 6 then (if 0 ≤ c then (if 0 ≤ (wrap64 ((b.length : Int) - 1)) then (if (wrap64 ((b.length : Int) - 1)) < (b.length : Int) then ((some (b.set ((wrap64 ((b.length : Int) - 1)) : Int).toNat (⟨(rd_T58 b (wrap64 ((b.length : Int) - 1))).f0, rdOf ByteArray.empty a c⟩ : S58) : List (S58))).bind fun y277 => (if y277.length < 4398046511104 then (spec_PartitionOf.l0L a (y277 ++ [(⟨rdOf ByteArray.empty a c, (⟨#[]⟩ : ByteArray)⟩ : S58)]) (wrap64 (c + 1))) else (none))) else (none)) else (none)) else (none)) else ((spec_PartitionValid.fL b).bind fun t282 => (if t282 = true then (some (b, true)) else (some ((([] : List (S58))), false))))) else ((spec_PartitionValid.fL b).bind fun t286 => (if t286 = true then (some (b, true)) else (some ((([] : List (S58))), false)))) := by
  refine lU (spec_PartitionOf.l0L_is a b c) (LimIs.step1 (by simp only [spec_PartitionOf.l0]) ?_)
  simp only [spec_PartitionOf.l0]
  repeat' with_reducible first | exact lK _ | exact spec_PartitionOf.l0L_is .. | exact spec_PartitionValid.fL_is .. | apply lI | apply lB | intro _
theorem spec_PartitionOf.fL_eq (l0 : List ByteArray) : spec_PartitionOf.fL l0 = spec_PartitionOf.l0L l0 (([(⟨(⟨#[]⟩ : ByteArray), (⟨#[]⟩ : ByteArray)⟩ : S58)] : List (S58))) 0 := by
  refine lU (spec_PartitionOf.fL_is l0) ?_
  unfold spec_PartitionOf.f
  repeat' with_reducible first | exact lK _ | exact spec_PartitionOf.l0L_is .. | apply lI | apply lB | intro _
/-! ### spec_KeyAt -/
section
variable (a : Int) (b : ByteArray) (c : Int)
noncomputable def spec_KeyAt.l0L : Option (ByteArray) := Lim (spec_KeyAt.l0 · a b c)
theorem spec_KeyAt.l0L_is : LimIs (spec_KeyAt.l0 · a b c) (spec_KeyAt.l0L a b c) := lM (fun k => (spec_KeyAt.mono_l k) a b c)
end
section
variable (a0 : Int)
noncomputable def spec_KeyAt.fL : Option (ByteArray) := Lim (spec_KeyAt.f · a0)
theorem spec_KeyAt.fL_is : LimIs (spec_KeyAt.f · a0) (spec_KeyAt.fL a0) := lM (fun k => spec_KeyAt.mono a0 k)
end
theorem spec_KeyAt.l0L_eq (a : Int) (b : ByteArray) (c : Int) : spec_KeyAt.l0L a b c = if c < 4 then ((spec_l1Weight.f c).bind fun t291 => (if t291 = 0 then (none) else ((some (([(wrap64 (97 + (wrap64 (Int.tdiv a t291)))) % 256] : List Int) : List Int)).bind fun y292 => (if b.size + (strOfNums y292).size ≤ 9223372036854775807 then ((spec_l1Weight.f c).bind fun t295 => (if t295 = 0 then (none) else (if (Int.tmod a t295) = 0 then (some (b ++ (strOfNums y292))) else (spec_KeyAt.l0L (wrap64 ((Int.tmod a t295) - 1)) (b ++ (strOfNums y292)) (wrap64 (c + 1)))))) else (none))))) else (some b) := by
  refine lU (spec_KeyAt.l0L_is a b c) (LimIs.step1 (by simp only [spec_KeyAt.l0]) ?_)
  simp only [spec_KeyAt.l0]
  repeat' with_reducible first | exact lK _ | exact spec_KeyAt.l0L_is .. | apply lI | apply lB | intro _
theorem spec_KeyAt.fL_eq (a0 : Int) : spec_KeyAt.fL a0 = (spec_l1In.f a0 0 475253).bind fun t290 => (if t290 = true then (spec_KeyAt.l0L a0 (⟨#[]⟩ : ByteArray) 0) else (some (⟨#[]⟩ : ByteArray))) := by
  refine lU (spec_KeyAt.fL_is a0) ?_
  unfold spec_KeyAt.f
  repeat' with_reducible first | exact lK _ | exact spec_KeyAt.l0L_is .. | apply lI | apply lB | intro _
/-! ### spec_l20Bounds -/
section
variable (a : Int) (b : List ByteArray) (c d : Int) (e : List Int) (g : Int)
noncomputable def spec_l20Bounds.l0L : Option (List ByteArray × Int) := Lim (spec_l20Bounds.l0 · a b c d e g)
theorem spec_l20Bounds.l0L_is : LimIs (spec_l20Bounds.l0 · a b c d e g) (spec_l20Bounds.l0L a b c d e g) := lM (fun k => (spec_l20Bounds.mono_l k) a b c d e g)
end
section
variable (s0_0 : List Int) (s0_1 a1 : Int)
noncomputable def spec_l20Bounds.fL : Option (List ByteArray × Int) := Lim (spec_l20Bounds.f · s0_0 s0_1 a1)
theorem spec_l20Bounds.fL_is : LimIs (spec_l20Bounds.f · s0_0 s0_1 a1) (spec_l20Bounds.fL s0_0 s0_1 a1) := lM (fun k => spec_l20Bounds.mono s0_0 s0_1 a1 k)
end
theorem spec_l20Bounds.l0L_eq (a : Int) (b : List ByteArray) (c d : Int) (e : List Int) (g : Int) : spec_l20Bounds.l0L a b c d e g = if d > 0 then ((spec_KeyAt.fL c).bind fun t303 => (if b.length < 8796093022208 then ((spec_l20Rd_pick.fL e g 256).bind fun bt307 => ((spec_l20Rd_pick.fL e bt307.2 256).bind fun bt309 => (spec_l20Bounds.l0L a (b ++ [t303]) (wrap64 ((wrap64 (c + 1)) + (wrap64 (bt307.1 * bt309.1)))) (wrap64 (d - 1)) e bt309.2))) else (none))) else ((spec_l20Rd_odd.fL e g a).bind fun bt311 => (if bt311.1 = true then ((some (([(⟨#[97]⟩ : ByteArray), (⟨#[]⟩ : ByteArray), (⟨#[65]⟩ : ByteArray), (⟨#[98]⟩ : ByteArray)] : List ByteArray) : List ByteArray)).bind fun y313 => ((spec_l20Rd_pick.fL e bt311.2 4).bind fun bt316 => (if 0 ≤ bt316.1 then (if bt316.1 < (y313.length : Int) then ((some (([rdOf ByteArray.empty y313 bt316.1, (⟨#[98, 98]⟩ : ByteArray)] : List ByteArray) : List ByteArray)).bind fun y319 => (if b.length + y319.length < 8796093022208 then (some ((b ++ y319), bt316.2)) else (none))) else (none)) else (none)))) else (some (b, bt311.2)))) := by
  refine lU (spec_l20Bounds.l0L_is a b c d e g) (LimIs.step1 (by simp only [spec_l20Bounds.l0]) ?_)
  simp only [spec_l20Bounds.l0]
  repeat' with_reducible first | exact lK _ | exact spec_KeyAt.fL_is .. | exact spec_l20Bounds.l0L_is .. | exact spec_l20Rd_odd.fL_is .. | exact spec_l20Rd_pick.fL_is .. | apply lI | apply lB | intro _
theorem spec_l20Bounds.fL_eq (s0_0 : List Int) (s0_1 a1 : Int) : spec_l20Bounds.fL s0_0 s0_1 a1 = (spec_l20Rd_pick.fL s0_0 s0_1 200).bind fun bt299 => ((spec_l20Rd_pick.fL s0_0 bt299.2 6).bind fun bt301 => (spec_l20Bounds.l0L a1 (([] : List ByteArray)) (wrap64 (1 + bt299.1)) bt301.1 s0_0 bt301.2)) := by
  refine lU (spec_l20Bounds.fL_is s0_0 s0_1 a1) ?_
  unfold spec_l20Bounds.f
  repeat' with_reducible first | exact lK _ | exact spec_l20Bounds.l0L_is .. | exact spec_l20Rd_pick.fL_is .. | apply lI | apply lB | intro _
/-! ### spec_l20Parts -/
section
variable (s0_0 : List Int) (s0_1 a1 : Int)
noncomputable def spec_l20Parts.fL : Option ((List (S58)) × Int) := Lim (spec_l20Parts.f · s0_0 s0_1 a1)
theorem spec_l20Parts.fL_is : LimIs (spec_l20Parts.f · s0_0 s0_1 a1) (spec_l20Parts.fL s0_0 s0_1 a1) := lM (fun k => spec_l20Parts.mono s0_0 s0_1 a1 k)
end
theorem spec_l20Parts.fL_eq (s0_0 : List Int) (s0_1 a1 : Int) : spec_l20Parts.fL s0_0 s0_1 a1 = (spec_l20Bounds.fL s0_0 s0_1 0).bind fun bt325 => ((spec_PartitionOf.fL bt325.1).bind fun bt329 => ((spec_l20Rd_odd.fL s0_0 bt325.2 a1).bind fun bt333 => (if bt333.1 = true then ((spec_l20Rd_pick.fL s0_0 bt333.2 5).bind fun bt335 => (if bt335.1 = 0 then (if 1 ≤ (bt329.1.length : Int) then (some ((bt329.1.drop (1 : Int).toNat), bt335.2)) else (none)) else (if bt335.1 = 1 then (if bt329.1.length < 4398046511104 then (some ((bt329.1 ++ [(⟨(⟨#[122, 122]⟩ : ByteArray), (⟨#[]⟩ : ByteArray)⟩ : S58)]), bt335.2)) else (none)) else (if bt335.1 = 2 then (if 0 ≤ (wrap64 ((bt329.1.length : Int) - 1)) then (if (wrap64 ((bt329.1.length : Int) - 1)) < (bt329.1.length : Int) then (some ((bt329.1.set ((wrap64 ((bt329.1.length : Int) - 1)) : Int).toNat (⟨(rd_T58 bt329.1 (wrap64 ((bt329.1.length : Int) - 1))).f0, (⟨#[122, 122, 122, 122]⟩ : ByteArray)⟩ : S58)), bt335.2)) else (none)) else (none)) else (if bt335.1 = 3 then (if 0 < (bt329.1.length : Int) then (some ((bt329.1.set (0 : Int).toNat (⟨(⟨#[97]⟩ : ByteArray), (rd_T58 bt329.1 0).f1⟩ : S58)), bt335.2)) else (none)) else (if bt329.1.length + bt329.1.length < 4398046511104 then (some ((bt329.1 ++ bt329.1), bt335.2)) else (none))))))) else (some (bt329.1, bt333.2))))) := by
  refine lU (spec_l20Parts.fL_is s0_0 s0_1 a1) ?_
  unfold spec_l20Parts.f
  repeat' with_reducible first | exact lK _ | exact spec_PartitionOf.fL_is .. | exact spec_l20Bounds.fL_is .. | exact spec_l20Rd_odd.fL_is .. | exact spec_l20Rd_pick.fL_is .. | apply lI | apply lB | intro _
/-! ### spec_l20Routes -/
section
variable (a : Int) (b : List (S60)) (c : List (S58)) (d e g : Int) (i : List Int) (j : Int)
noncomputable def spec_l20Routes.l0L : Option ((List (S60)) × Int) := Lim (spec_l20Routes.l0 · a b c d e g i j)
theorem spec_l20Routes.l0L_is : LimIs (spec_l20Routes.l0 · a b c d e g i j) (spec_l20Routes.l0L a b c d e g i j) := lM (fun k => (spec_l20Routes.mono_l k) a b c d e g i j)
end
section
variable (s0_0 : List Int) (s0_1 a1 : Int)
noncomputable def spec_l20Routes.fL : Option ((List (S60)) × Int) := Lim (spec_l20Routes.f · s0_0 s0_1 a1)
theorem spec_l20Routes.fL_is : LimIs (spec_l20Routes.f · s0_0 s0_1 a1) (spec_l20Routes.fL s0_0 s0_1 a1) := lM (fun k => spec_l20Routes.mono s0_0 s0_1 a1 k)
end
theorem spec_l20Routes.l0L_eq (a : Int) (b : List (S60)) (c : List (S58)) (d e g : Int) (i : List Int) (j : Int) : spec_l20Routes.l0L a b c d e g i j = if g < (c.length : Int) then (if 0 ≤ g then (if b.length < 3518437208883 then (spec_l20Routes.l0L a (b ++ [(⟨d, (⟨(rd_T58 c g).f0, (rd_T58 c g).f1⟩ : S58)⟩ : S60)]) c (Int.tmod (wrap64 (d + e)) 8) e (wrap64 (g + 1)) i j) else (none)) else (none)) else ((spec_l20Rd_odd.fL i j a).bind fun bt367 => (if bt367.1 = true then ((spec_l20Rd_pick.fL i bt367.2 4).bind fun bt369 => (if bt369.1 = 0 then (if 1 ≤ (b.length : Int) then (some ((b.drop (1 : Int).toNat), bt369.2)) else (none)) else (if bt369.1 = 1 then ((some (([(-1), 8] : List Int) : List Int)).bind fun y374 => ((spec_l20Rd_pick.fL i bt369.2 2).bind fun bt377 => (if 0 ≤ bt377.1 then (if bt377.1 < (y374.length : Int) then (if 0 < (b.length : Int) then (some ((b.set (0 : Int).toNat (⟨rd y374 bt377.1, (⟨(rd_T60 b 0).f1.f0, (rd_T60 b 0).f1.f1⟩ : S58)⟩ : S60)), bt377.2)) else (none)) else (none)) else (none)))) else (if bt369.1 = 2 then (if 0 ≤ (wrap64 ((b.length : Int) - 1)) then (if (wrap64 ((b.length : Int) - 1)) < (b.length : Int) then (if 0 < (b.length : Int) then (some ((b.set (0 : Int).toNat (⟨(rd_T60 b (wrap64 ((b.length : Int) - 1))).f0, (⟨(rd_T60 b 0).f1.f0, (rd_T60 b 0).f1.f1⟩ : S58)⟩ : S60)), bt369.2)) else (none)) else (none)) else (none)) else (if 0 ≤ (wrap64 ((b.length : Int) - 1)) then (if (wrap64 ((b.length : Int) - 1)) < (b.length : Int) then (some ((b.set ((wrap64 ((b.length : Int) - 1)) : Int).toNat (⟨(rd_T60 b (wrap64 ((b.length : Int) - 1))).f0, (⟨(rd_T60 b (wrap64 ((b.length : Int) - 1))).f1.f0, (⟨#[122, 122, 122, 122]⟩ : ByteArray)⟩ : S58)⟩ : S60)), bt369.2)) else (none)) else (none)))))) else (some (b, bt367.2)))) := by
  refine lU (spec_l20Routes.l0L_is a b c d e g i j) (LimIs.step1 (by simp only [spec_l20Routes.l0]) ?_)
  simp only [spec_l20Routes.l0]
  repeat' with_reducible first | exact lK _ | exact spec_l20Rd_odd.fL_is .. | exact spec_l20Rd_pick.fL_is .. | exact spec_l20Routes.l0L_is .. | apply lI | apply lB | intro _
theorem spec_l20Routes.fL_eq (s0_0 : List Int) (s0_1 a1 : Int) : spec_l20Routes.fL s0_0 s0_1 a1 = (spec_l20Parts.fL s0_0 s0_1 0).bind fun bt351 => ((spec_l20Rd_pick.fL s0_0 bt351.2 8).bind fun bt355 => ((some (([1, 3, 5, 7] : List Int) : List Int)).bind fun y357 => ((spec_l20Rd_pick.fL s0_0 bt355.2 4).bind fun bt360 => (if 0 ≤ bt360.1 then (if bt360.1 < (y357.length : Int) then (spec_l20Routes.l0L a1 (([] : List (S60))) bt351.1 bt355.1 (rd y357 bt360.1) 0 s0_0 bt360.2) else (none)) else (none))))) := by
  refine lU (spec_l20Routes.fL_is s0_0 s0_1 a1) ?_
  unfold spec_l20Routes.f
  repeat' with_reducible first | exact lK _ | exact spec_l20Parts.fL_is .. | exact spec_l20Rd_pick.fL_is .. | exact spec_l20Routes.l0L_is .. | apply lI | apply lB | intro _
/-! ### spec_DrawReadRoutes -/
section
variable (l0 : List Int)
noncomputable def spec_DrawReadRoutes.fL : Option (ByteArray) := Lim (spec_DrawReadRoutes.f · l0)
theorem spec_DrawReadRoutes.fL_is : LimIs (spec_DrawReadRoutes.f · l0) (spec_DrawReadRoutes.fL l0) := lM (fun k => spec_DrawReadRoutes.mono l0 k)
end
theorem spec_DrawReadRoutes.fL_eq (l0 : List Int) : spec_DrawReadRoutes.fL l0 = (spec_l20Open.f l0).bind fun bt384 => ((spec_l20Routes.fL bt384.1 bt384.2 0).bind fun bt387 => ((spec_RoutesText.fL bt387.1).bind fun t391 => (if t391.size + 1 ≤ 9223372036854775807 then ((some (([t391, t391 ++ (⟨#[32]⟩ : ByteArray), (⟨#[48, 49, 58, 45]⟩ : ByteArray), (⟨#[56, 58, 45]⟩ : ByteArray), (⟨#[48, 58, 45, 98, 32, 48, 58, 98, 45]⟩ : ByteArray), (⟨#[48, 58, 45, 98, 32, 49, 58, 99, 45]⟩ : ByteArray), (⟨#[48, 58, 98, 45]⟩ : ByteArray), (⟨#[]⟩ : ByteArray), (⟨#[48, 58]⟩ : ByteArray)] : List ByteArray) : List ByteArray)).bind fun y392 => ((some (([0, 0, 0, 0, 0, 1, 2, 3, 4, 5, 6, 7, 8] : List Int) : List Int)).bind fun y395 => ((spec_l20Rd_pick.fL bt384.1 bt387.2 13).bind fun bt398 => (if 0 ≤ bt398.1 then (if bt398.1 < (y395.length : Int) then (if 0 ≤ (rd y395 bt398.1) then (if (rd y395 bt398.1) < (y392.length : Int) then (some (rdOf ByteArray.empty y392 (rd y395 bt398.1))) else (none)) else (none)) else (none)) else (none))))) else (none)))) := by
  refine lU (spec_DrawReadRoutes.fL_is l0) ?_
  unfold spec_DrawReadRoutes.f
  repeat' with_reducible first | exact lK _ | exact spec_RoutesText.fL_is .. | exact spec_l20Rd_pick.fL_is .. | exact spec_l20Routes.fL_is .. | apply lI | apply lB | intro _
/-! ### laws_FnReadRoutes -/
section
variable (a : ByteArray) (b : List (S60)) (c d : Bool)
noncomputable def laws_FnReadRoutes.j0L : Option (Bool) := Lim (laws_FnReadRoutes.j0 · a b c d)
theorem laws_FnReadRoutes.j0L_is : LimIs (laws_FnReadRoutes.j0 · a b c d) (laws_FnReadRoutes.j0L a b c d) := lM (fun k => (laws_FnReadRoutes.mono_l k) a b c d)
end
section
variable (l0 : List Int)
noncomputable def laws_FnReadRoutes.fL : Option (Bool) := Lim (laws_FnReadRoutes.f · l0)
theorem laws_FnReadRoutes.fL_is : LimIs (laws_FnReadRoutes.f · l0) (laws_FnReadRoutes.fL l0) := lM (fun k => laws_FnReadRoutes.mono l0 k)
end
theorem laws_FnReadRoutes.j0L_eq (a : ByteArray) (b : List (S60)) (c d : Bool) : laws_FnReadRoutes.j0L a b c d = if d = true then (some false) else (if c = true then ((impl_RoutesValid.fL b).bind fun t412 => (if t412 = true then ((impl_RoutesText.fL b).bind fun t413 => (some (t413.toList == a.toList))) else (some false))) else (if (b.length : Int) = 0 then ((laws_alive.fL).bind fun t414 => (some t414)) else (some false))) := by
  refine lU (laws_FnReadRoutes.j0L_is a b c d) (LimIs.step1 (by simp only [laws_FnReadRoutes.j0]) ?_)
  simp only [laws_FnReadRoutes.j0]
  repeat' with_reducible first | exact lK _ | exact impl_RoutesText.fL_is .. | exact impl_RoutesValid.fL_is .. | exact laws_alive.fL_is .. | apply lI | apply lB | intro _
theorem laws_FnReadRoutes.fL_eq (l0 : List Int) : laws_FnReadRoutes.fL l0 = if (l0.length : Int) > 1048576 then (some true) else ((spec_DrawReadRoutes.fL l0).bind fun t402 => ((impl_ReadRoutes.fL t402).bind fun bt403 => ((spec_ReadRoutes.fL t402).bind fun bt407 => ((laws_sameRoutes.fL bt403.1 bt407.1).bind fun t411 => (if t411 = true then (laws_FnReadRoutes.j0L t402 bt403.1 bt403.2 (bt403.2 != bt407.2)) else (laws_FnReadRoutes.j0L t402 bt403.1 bt403.2 true)))))) := by
  refine lU (laws_FnReadRoutes.fL_is l0) ?_
  unfold laws_FnReadRoutes.f
  repeat' with_reducible first | exact lK _ | exact impl_ReadRoutes.fL_is .. | exact laws_FnReadRoutes.j0L_is .. | exact laws_sameRoutes.fL_is .. | exact spec_DrawReadRoutes.fL_is .. | exact spec_ReadRoutes.fL_is .. | apply lI | apply lB | intro _
end Go.Proofs.YtagknifdfpjlbaaDoor.PFnReadRoutes
