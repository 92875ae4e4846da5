/- The limits of the printed functions, and their equations. Written by lim.py out of the print. No condition. -/
import Derived.Test.YtagknifdfpjlbaaDoorPFnExactReadRoutesx6
import Derived.Test.YtagknifdfpjlbaaDoorLim
namespace Go.Proofs.YtagknifdfpjlbaaDoor.PFnExactReadRoutes
open Go.RowKit Go.Proofs.YtagknifdfpjlbaaDoorW.PrintWords Go.Proofs.YtagknifdfpjlbaaDoorW.PrintLast Go.Proofs.YtagknifdfpjlbaaDoorW.PrintMore Go.Proofs.YtagknifdfpjlbaaDoor.Lim
set_option linter.unusedVariables false

/-! ### spec_l7Text -/
section
variable (a : Int) (b : ByteArray)
noncomputable def spec_l7Text.l0L : Option (ByteArray) := Lim (spec_l7Text.l0 · a b)
theorem spec_l7Text.l0L_is : LimIs (spec_l7Text.l0 · a b) (spec_l7Text.l0L a b) := lM (fun k => (spec_l7Text.mono_l k) a b)
end
section
variable (a0 : Int)
noncomputable def spec_l7Text.fL : Option (ByteArray) := Lim (spec_l7Text.f · a0)
theorem spec_l7Text.fL_is : LimIs (spec_l7Text.f · a0) (spec_l7Text.fL a0) := lM (fun k => spec_l7Text.mono a0 k)
end
theorem spec_l7Text.l0L_eq (a : Int) (b : ByteArray) : spec_l7Text.l0L a b = if a > 9 then ((some (([(wrap64 (48 + (Int.tmod (wrap64 (Int.tdiv a 10)) 10))) % 256] : List Int) : List Int)).bind fun y104 => (if (strOfNums y104).size + b.size ≤ 9223372036854775807 then (spec_l7Text.l0L (wrap64 (Int.tdiv a 10)) ((strOfNums y104) ++ b)) else (none))) else (some b) := by
  refine lU (spec_l7Text.l0L_is a b) (LimIs.step1 (by simp only [spec_l7Text.l0]) ?_)
  simp only [spec_l7Text.l0]
  repeat' with_reducible first | exact lK _ | exact spec_l7Text.l0L_is .. | apply lI | apply lB | intro _
theorem spec_l7Text.fL_eq (a0 : Int) : spec_l7Text.fL a0 = if a0 < 0 then (some (⟨#[45, 49]⟩ : ByteArray)) else (spec_l7Text.l0L a0 (strOfNums (([(wrap64 (48 + (Int.tmod a0 10))) % 256] : List Int)))) := by
  refine lU (spec_l7Text.fL_is a0) ?_
  unfold spec_l7Text.f
  repeat' with_reducible first | exact lK _ | exact spec_l7Text.l0L_is .. | apply lI | apply lB | intro _
/-! ### spec_KeyValid -/
section
variable (a : ByteArray) (b : Int)
noncomputable def spec_KeyValid.l0L : Option (Bool) := Lim (spec_KeyValid.l0 · a b)
theorem spec_KeyValid.l0L_is : LimIs (spec_KeyValid.l0 · a b) (spec_KeyValid.l0L a b) := lM (fun k => (spec_KeyValid.mono_l k) a b)
end
section
variable (a0 : ByteArray)
noncomputable def spec_KeyValid.fL : Option (Bool) := Lim (spec_KeyValid.f · a0)
theorem spec_KeyValid.fL_is : LimIs (spec_KeyValid.f · a0) (spec_KeyValid.fL a0) := lM (fun k => spec_KeyValid.mono a0 k)
end
theorem spec_KeyValid.l0L_eq (a : ByteArray) (b : Int) : spec_KeyValid.l0L a b = if b < (a.size : Int) then (if 0 ≤ b then (if (bt a b) < 97 then (some false) else (if (bt a b) > 122 then (some false) else (spec_KeyValid.l0L a (wrap64 (b + 1))))) else (none)) else (some true) := by
  refine lU (spec_KeyValid.l0L_is a b) (LimIs.step1 (by simp only [spec_KeyValid.l0]) ?_)
  simp only [spec_KeyValid.l0]
  repeat' with_reducible first | exact lK _ | exact spec_KeyValid.l0L_is .. | apply lI | apply lB | intro _
theorem spec_KeyValid.fL_eq (a0 : ByteArray) : spec_KeyValid.fL a0 = (spec_l1In.f (a0.size : Int) 1 4).bind fun t107 => (if t107 = true then (spec_KeyValid.l0L a0 0) else (some false)) := by
  refine lU (spec_KeyValid.fL_is a0) ?_
  unfold spec_KeyValid.f
  repeat' with_reducible first | exact lK _ | exact spec_KeyValid.l0L_is .. | apply lI | apply lB | intro _
/-! ### spec_IntervalValid -/
section
variable (a0_0 a0_1 : ByteArray)
noncomputable def spec_IntervalValid.fL : Option (Bool) := Lim (spec_IntervalValid.f · a0_0 a0_1)
theorem spec_IntervalValid.fL_is : LimIs (spec_IntervalValid.f · a0_0 a0_1) (spec_IntervalValid.fL a0_0 a0_1) := lM (fun k => spec_IntervalValid.mono a0_0 a0_1 k)
end
theorem spec_IntervalValid.fL_eq (a0_0 a0_1 : ByteArray) : spec_IntervalValid.fL a0_0 a0_1 = if a0_0.toList = ([] : List UInt8) then (if a0_1.toList = ([] : List UInt8) then (some true) else ((spec_KeyValid.fL a0_1).bind fun t109 => (if t109 = true then (if (Op.bytesLess a0_0.toList a0_1.toList) = true then (some (a0_1.toList != ([97] : List UInt8))) else (some false)) else (some false)))) else ((spec_KeyValid.fL a0_0).bind fun t110 => (if t110 = true then (if a0_1.toList = ([] : List UInt8) then (some true) else ((spec_KeyValid.fL a0_1).bind fun t111 => (if t111 = true then (if (Op.bytesLess a0_0.toList a0_1.toList) = true then (some true) else (some false)) else (some false)))) else (some false))) := by
  refine lU (spec_IntervalValid.fL_is a0_0 a0_1) ?_
  unfold spec_IntervalValid.f
  repeat' with_reducible first | exact lK _ | exact spec_KeyValid.fL_is .. | apply lI | apply lB | intro _
/-! ### spec_IntervalJoin -/
section
variable (a0_0 a0_1 a1_0 a1_1 : ByteArray)
noncomputable def spec_IntervalJoin.fL : Option (ByteArray × ByteArray × Bool) := Lim (spec_IntervalJoin.f · a0_0 a0_1 a1_0 a1_1)
theorem spec_IntervalJoin.fL_is : LimIs (spec_IntervalJoin.f · a0_0 a0_1 a1_0 a1_1) (spec_IntervalJoin.fL a0_0 a0_1 a1_0 a1_1) := lM (fun k => spec_IntervalJoin.mono a0_0 a0_1 a1_0 a1_1 k)
end
theorem spec_IntervalJoin.fL_eq (a0_0 a0_1 a1_0 a1_1 : ByteArray) : spec_IntervalJoin.fL a0_0 a0_1 a1_0 a1_1 = (spec_IntervalValid.fL a0_0 a0_1).bind fun t115 => (if t115 = true then ((spec_IntervalValid.fL a1_0 a1_1).bind fun t116 => (if t116 = true then (if a0_1.toList = ([] : List UInt8) then (some ((⟨#[]⟩ : ByteArray), (⟨#[]⟩ : ByteArray), false)) else (if a0_1.toList = a1_0.toList then (some (a0_0, a1_1, true)) else (some ((⟨#[]⟩ : ByteArray), (⟨#[]⟩ : ByteArray), false)))) else (some ((⟨#[]⟩ : ByteArray), (⟨#[]⟩ : ByteArray), false)))) else (some ((⟨#[]⟩ : ByteArray), (⟨#[]⟩ : ByteArray), false))) := by
  refine lU (spec_IntervalJoin.fL_is a0_0 a0_1 a1_0 a1_1) ?_
  unfold spec_IntervalJoin.f
  repeat' with_reducible first | exact lK _ | exact spec_IntervalValid.fL_is .. | apply lI | apply lB | intro _
/-! ### spec_PartitionValid -/
section
variable (a : List (S58)) (b : Bool)
noncomputable def spec_PartitionValid.j0L : Option (Bool) := Lim (spec_PartitionValid.j0 · a b)
theorem spec_PartitionValid.j0L_is : LimIs (spec_PartitionValid.j0 · a b) (spec_PartitionValid.j0L a b) := lM (fun k => (spec_PartitionValid.mono_l k).1 a b)
end
section
variable (a : List (S58)) (b : Int)
noncomputable def spec_PartitionValid.l0L : Option (Bool) := Lim (spec_PartitionValid.l0 · a b)
theorem spec_PartitionValid.l0L_is : LimIs (spec_PartitionValid.l0 · a b) (spec_PartitionValid.l0L a b) := lM (fun k => (spec_PartitionValid.mono_l k).2 a b)
end
section
variable (l0 : List (S58))
noncomputable def spec_PartitionValid.fL : Option (Bool) := Lim (spec_PartitionValid.f · l0)
theorem spec_PartitionValid.fL_is : LimIs (spec_PartitionValid.f · l0) (spec_PartitionValid.fL l0) := lM (fun k => spec_PartitionValid.mono l0 k)
end
theorem spec_PartitionValid.j0L_eq (a : List (S58)) (b : Bool) : spec_PartitionValid.j0L a b = if b = true then (some false) else (spec_PartitionValid.l0L a 1) := by
  refine lU (spec_PartitionValid.j0L_is a b) (LimIs.step1 (by simp only [spec_PartitionValid.j0]) ?_)
  simp only [spec_PartitionValid.j0]
  repeat' with_reducible first | exact lK _ | exact spec_PartitionValid.l0L_is .. | apply lI | apply lB | intro _
theorem spec_PartitionValid.l0L_eq (a : List (S58)) (b : Int) : spec_PartitionValid.l0L a b = if b < (a.length : Int) then (if 0 ≤ (wrap64 (b - 1)) then (if (wrap64 (b - 1)) < (a.length : Int) then (if 0 ≤ b then ((spec_IntervalJoin.fL ((rd_T58 a (wrap64 (b - 1))).f0) ((rd_T58 a (wrap64 (b - 1))).f1) ((rd_T58 a b).f0) ((rd_T58 a b).f1)).bind fun bt124 => (if bt124.2.2 = true then (spec_PartitionValid.l0L a (wrap64 (b + 1))) else (some false))) else (none)) else (none)) else (none)) else (some true) := by
  refine lU (spec_PartitionValid.l0L_is a b) (LimIs.step1 (by simp only [spec_PartitionValid.l0]) ?_)
  simp only [spec_PartitionValid.l0]
  repeat' with_reducible first | exact lK _ | exact spec_IntervalJoin.fL_is .. | exact spec_PartitionValid.l0L_is .. | apply lI | apply lB | intro _
theorem spec_PartitionValid.fL_eq (l0 : List (S58)) : spec_PartitionValid.fL l0 = (spec_l1In.f (l0.length : Int) 1 6).bind fun t117 => (if t117 = true then (if 0 < (l0.length : Int) then ((spec_IntervalValid.fL ((rd_T58 l0 0).f0) ((rd_T58 l0 0).f1)).bind fun t119 => (if t119 = true then (if ((rd_T58 l0 0).f0).toList = ([] : List UInt8) then (if 0 ≤ (wrap64 ((l0.length : Int) - 1)) then (if (wrap64 ((l0.length : Int) - 1)) < (l0.length : Int) then (spec_PartitionValid.j0L l0 (((rd_T58 l0 (wrap64 ((l0.length : Int) - 1))).f1).toList != ([] : List UInt8))) else (none)) else (none)) else (spec_PartitionValid.j0L l0 true)) else (spec_PartitionValid.j0L l0 true))) else (none)) else (spec_PartitionValid.j0L l0 true)) := by
  refine lU (spec_PartitionValid.fL_is l0) ?_
  unfold spec_PartitionValid.f
  repeat' with_reducible first | exact lK _ | exact spec_IntervalValid.fL_is .. | exact spec_PartitionValid.j0L_is .. | apply lI | apply lB | intro _
/-! ### spec_RoutesValid -/
section
variable (a : List (S60)) (b : List (S58)) (c : Int)
noncomputable def spec_RoutesValid.l0L : Option (Bool) := Lim (spec_RoutesValid.l0 · a b c)
theorem spec_RoutesValid.l0L_is : LimIs (spec_RoutesValid.l0 · a b c) (spec_RoutesValid.l0L a b c) := lM (fun k => (spec_RoutesValid.mono_l k).1 a b c)
end
section
variable (a : List (S60)) (b : List (S58)) (c : Int) (d : Bool)
noncomputable def spec_RoutesValid.j1L : Option (Bool) := Lim (spec_RoutesValid.j1 · a b c d)
theorem spec_RoutesValid.j1L_is : LimIs (spec_RoutesValid.j1 · a b c d) (spec_RoutesValid.j1L a b c d) := lM (fun k => (spec_RoutesValid.mono_l k).2.1 a b c d)
end
section
variable (a : List (S60)) (b : List (S58)) (c d : Int)
noncomputable def spec_RoutesValid.l1L : Option (Bool) := Lim (spec_RoutesValid.l1 · a b c d)
theorem spec_RoutesValid.l1L_is : LimIs (spec_RoutesValid.l1 · a b c d) (spec_RoutesValid.l1L a b c d) := lM (fun k => (spec_RoutesValid.mono_l k).2.2 a b c d)
end
section
variable (l0 : List (S60))
noncomputable def spec_RoutesValid.fL : Option (Bool) := Lim (spec_RoutesValid.f · l0)
theorem spec_RoutesValid.fL_is : LimIs (spec_RoutesValid.f · l0) (spec_RoutesValid.fL l0) := lM (fun k => spec_RoutesValid.mono l0 k)
end
theorem spec_RoutesValid.l0L_eq (a : List (S60)) (b : List (S58)) (c : Int) : spec_RoutesValid.l0L a b c = if c < (a.length : Int) then (if c ≥ 6 then (spec_RoutesValid.j1L a b c true) else (if 0 ≤ c then ((spec_l1In.f ((rd_T60 a c).f0) 0 7).bind fun t133 => (spec_RoutesValid.j1L a b c (!t133))) else (none))) else ((spec_PartitionValid.fL b).bind fun t131 => (some t131)) := by
  refine lU (spec_RoutesValid.l0L_is a b c) (LimIs.step1 (by simp only [spec_RoutesValid.l0]) ?_)
  simp only [spec_RoutesValid.l0]
  repeat' with_reducible first | exact lK _ | exact spec_PartitionValid.fL_is .. | exact spec_RoutesValid.j1L_is .. | apply lI | apply lB | intro _
theorem spec_RoutesValid.j1L_eq (a : List (S60)) (b : List (S58)) (c : Int) (d : Bool) : spec_RoutesValid.j1L a b c d = if d = true then (some false) else (spec_RoutesValid.l1L a b c 0) := by
  refine lU (spec_RoutesValid.j1L_is a b c d) (LimIs.step1 (by simp only [spec_RoutesValid.j1]) ?_)
  simp only [spec_RoutesValid.j1]
  repeat' with_reducible first | exact lK _ | exact spec_RoutesValid.l1L_is .. | apply lI | apply lB | intro _
theorem spec_RoutesValid.l1L_eq (a : List (S60)) (b : List (S58)) (c d : Int) : spec_RoutesValid.l1L a b c d = if d < c then (if 0 ≤ d then (if d < (a.length : Int) then (if 0 ≤ c then (if c < (a.length : Int) then (if ((rd_T60 a d).f0) = ((rd_T60 a c).f0) then (some false) else (spec_RoutesValid.l1L a b c (wrap64 (d + 1)))) else (none)) else (none)) else (none)) else (none)) else (if 0 ≤ c then (if c < (a.length : Int) then (if b.length < 4398046511104 then (spec_RoutesValid.l0L a (b ++ [(⟨(rd_T60 a c).f1.f0, (rd_T60 a c).f1.f1⟩ : S58)]) (wrap64 (c + 1))) else (none)) else (none)) else (none)) := by
  refine lU (spec_RoutesValid.l1L_is a b c d) (LimIs.step1 (by simp only [spec_RoutesValid.l1]) ?_)
  simp only [spec_RoutesValid.l1]
  repeat' with_reducible first | exact lK _ | exact spec_RoutesValid.l0L_is .. | exact spec_RoutesValid.l1L_is .. | apply lI | apply lB | intro _
theorem spec_RoutesValid.fL_eq (l0 : List (S60)) : spec_RoutesValid.fL l0 = spec_RoutesValid.l0L l0 (([] : List (S58))) 0 := by
  refine lU (spec_RoutesValid.fL_is l0) ?_
  unfold spec_RoutesValid.f
  repeat' with_reducible first | exact lK _ | exact spec_RoutesValid.l0L_is .. | apply lI | apply lB | intro _
/-! ### spec_RoutesText -/
section
variable (a : List (S60)) (b : ByteArray) (c : Int)
noncomputable def spec_RoutesText.l0L : Option (ByteArray) := Lim (spec_RoutesText.l0 · a b c)
theorem spec_RoutesText.l0L_is : LimIs (spec_RoutesText.l0 · a b c) (spec_RoutesText.l0L a b c) := lM (fun k => (spec_RoutesText.mono_l k).1 a b c)
end
section
variable (a : List (S60)) (b : ByteArray) (c : Int) (d : Bool)
noncomputable def spec_RoutesText.j1L : Option (ByteArray) := Lim (spec_RoutesText.j1 · a b c d)
theorem spec_RoutesText.j1L_is : LimIs (spec_RoutesText.j1 · a b c d) (spec_RoutesText.j1L a b c d) := lM (fun k => (spec_RoutesText.mono_l k).2 a b c d)
end
section
variable (l0 : List (S60))
noncomputable def spec_RoutesText.fL : Option (ByteArray) := Lim (spec_RoutesText.f · l0)
theorem spec_RoutesText.fL_is : LimIs (spec_RoutesText.f · l0) (spec_RoutesText.fL l0) := lM (fun k => spec_RoutesText.mono l0 k)
end
theorem spec_RoutesText.l0L_eq (a : List (S60)) (b : ByteArray) (c : Int) : spec_RoutesText.l0L a b c = if c < (a.length : Int) then ((spec_RoutesValid.fL a).bind fun t140 => (spec_RoutesText.j1L a b c t140)) else (spec_RoutesText.j1L a b c false) := by
  refine lU (spec_RoutesText.l0L_is a b c) (LimIs.step1 (by simp only [spec_RoutesText.l0]) ?_)
  simp only [spec_RoutesText.l0]
  repeat' with_reducible first | exact lK _ | exact spec_RoutesText.j1L_is .. | exact spec_RoutesValid.fL_is .. | apply lI | apply lB | intro _
theorem spec_RoutesText.j1L_eq (a : List (S60)) (b : ByteArray) (c : Int) (d : Bool) : spec_RoutesText.j1L a b c d = if d = true then (if c > 0 then (if b.size + 1 ≤ 9223372036854775807 then (if 0 ≤ c then (if c < (a.length : Int) then ((spec_l7Text.fL ((rd_T60 a c).f0)).bind fun t142 => (if (b ++ (⟨#[32]⟩ : ByteArray)).size + t142.size ≤ 9223372036854775807 then (if ((b ++ (⟨#[32]⟩ : ByteArray)) ++ t142).size + 1 ≤ 9223372036854775807 then (if (((b ++ (⟨#[32]⟩ : ByteArray)) ++ t142) ++ (⟨#[58]⟩ : ByteArray)).size + ((rd_T60 a c).f1.f0).size ≤ 9223372036854775807 then (if ((((b ++ (⟨#[32]⟩ : ByteArray)) ++ t142) ++ (⟨#[58]⟩ : ByteArray)) ++ ((rd_T60 a c).f1.f0)).size + 1 ≤ 9223372036854775807 then (if (((((b ++ (⟨#[32]⟩ : ByteArray)) ++ t142) ++ (⟨#[58]⟩ : ByteArray)) ++ ((rd_T60 a c).f1.f0)) ++ (⟨#[45]⟩ : ByteArray)).size + ((rd_T60 a c).f1.f1).size ≤ 9223372036854775807 then (spec_RoutesText.l0L a ((((((b ++ (⟨#[32]⟩ : ByteArray)) ++ t142) ++ (⟨#[58]⟩ : ByteArray)) ++ ((rd_T60 a c).f1.f0)) ++ (⟨#[45]⟩ : ByteArray)) ++ ((rd_T60 a c).f1.f1)) (wrap64 (c + 1))) else (none)) else (none)) else (none)) else (none)) else (none))) else (none)) else (none)) else (none)) else (if 0 ≤ c then (if c < (a.length : Int) then ((spec_l7Text.fL ((rd_T60 a c).f0)).bind fun t146 => (if b.size + t146.size ≤ 9223372036854775807 then (if (b ++ t146).size + 1 ≤ 9223372036854775807 then (if ((b ++ t146) ++ (⟨#[58]⟩ : ByteArray)).size + ((rd_T60 a c).f1.f0).size ≤ 9223372036854775807 then (if (((b ++ t146) ++ (⟨#[58]⟩ : ByteArray)) ++ ((rd_T60 a c).f1.f0)).size + 1 ≤ 9223372036854775807 then (if ((((b ++ t146) ++ (⟨#[58]⟩ : ByteArray)) ++ ((rd_T60 a c).f1.f0)) ++ (⟨#[45]⟩ : ByteArray)).size + ((rd_T60 a c).f1.f1).size ≤ 9223372036854775807 then (spec_RoutesText.l0L a (((((b ++ t146) ++ (⟨#[58]⟩ : ByteArray)) ++ ((rd_T60 a c).f1.f0)) ++ (⟨#[45]⟩ : ByteArray)) ++ ((rd_T60 a c).f1.f1)) (wrap64 (c + 1))) else (none)) else (none)) else (none)) else (none)) else (none))) else (none)) else (none))) else (some b) := by
  refine lU (spec_RoutesText.j1L_is a b c d) (LimIs.step1 (by simp only [spec_RoutesText.j1]) ?_)
  simp only [spec_RoutesText.j1]
  repeat' with_reducible first | exact lK _ | exact spec_RoutesText.l0L_is .. | exact spec_l7Text.fL_is .. | apply lI | apply lB | intro _
theorem spec_RoutesText.fL_eq (l0 : List (S60)) : spec_RoutesText.fL l0 = spec_RoutesText.l0L l0 (⟨#[]⟩ : ByteArray) 0 := by
  refine lU (spec_RoutesText.fL_is l0) ?_
  unfold spec_RoutesText.f
  repeat' with_reducible first | exact lK _ | exact spec_RoutesText.l0L_is .. | apply lI | apply lB | intro _
/-! ### spec_l7Words -/
section
variable (a : ByteArray) (b : List ByteArray) (c : Int)
noncomputable def spec_l7Words.l0L : Option (List ByteArray) := Lim (spec_l7Words.l0 · a b c)
theorem spec_l7Words.l0L_is : LimIs (spec_l7Words.l0 · a b c) (spec_l7Words.l0L a b c) := lM (fun k => (spec_l7Words.mono_l k) a b c)
end
section
variable (a0 : ByteArray)
noncomputable def spec_l7Words.fL : Option (List ByteArray) := Lim (spec_l7Words.f · a0)
theorem spec_l7Words.fL_is : LimIs (spec_l7Words.f · a0) (spec_l7Words.fL a0) := lM (fun k => spec_l7Words.mono a0 k)
end
theorem spec_l7Words.l0L_eq (a : ByteArray) (b : List ByteArray) (c : Int) : spec_l7Words.l0L a b c = if c < (a.size : Int) then (if 0 ≤ c then (if (bt a c) = 32 then (if b.length < 8796093022208 then (spec_l7Words.l0L a (b ++ [(⟨#[]⟩ : ByteArray)]) (wrap64 (c + 1))) else (none)) else (if 0 ≤ (wrap64 ((b.length : Int) - 1)) then (if (wrap64 ((b.length : Int) - 1)) < (b.length : Int) then (if c ≤ (wrap64 (c + 1)) then (if (wrap64 (c + 1)) ≤ (a.size : Int) then (if (rdOf ByteArray.empty b (wrap64 ((b.length : Int) - 1))).size + (a.extract (c : Int).toNat ((wrap64 (c + 1)) : Int).toNat).size ≤ 9223372036854775807 then (spec_l7Words.l0L a (b.set ((wrap64 ((b.length : Int) - 1)) : Int).toNat ((rdOf ByteArray.empty b (wrap64 ((b.length : Int) - 1))) ++ (a.extract (c : Int).toNat ((wrap64 (c + 1)) : Int).toNat))) (wrap64 (c + 1))) else (none)) else (none)) else (none)) else (none)) else (none))) else (none)) else (some b) := by
  refine lU (spec_l7Words.l0L_is a b c) (LimIs.step1 (by simp only [spec_l7Words.l0]) ?_)
  simp only [spec_l7Words.l0]
  repeat' with_reducible first | exact lK _ | exact spec_l7Words.l0L_is .. | apply lI | apply lB | intro _
theorem spec_l7Words.fL_eq (a0 : ByteArray) : spec_l7Words.fL a0 = spec_l7Words.l0L a0 (([(⟨#[]⟩ : ByteArray)] : List ByteArray)) 0 := by
  refine lU (spec_l7Words.fL_is a0) ?_
  unfold spec_l7Words.f
  repeat' with_reducible first | exact lK _ | exact spec_l7Words.l0L_is .. | apply lI | apply lB | intro _
/-! ### spec_l41Split -/
section
variable (a : ByteArray) (b c : Int)
noncomputable def spec_l41Split.l0L : Option (ByteArray × ByteArray × Bool) := Lim (spec_l41Split.l0 · a b c)
theorem spec_l41Split.l0L_is : LimIs (spec_l41Split.l0 · a b c) (spec_l41Split.l0L a b c) := lM (fun k => (spec_l41Split.mono_l k) a b c)
end
section
variable (a0 : ByteArray) (a1 : Int)
noncomputable def spec_l41Split.fL : Option (ByteArray × ByteArray × Bool) := Lim (spec_l41Split.f · a0 a1)
theorem spec_l41Split.fL_is : LimIs (spec_l41Split.f · a0 a1) (spec_l41Split.fL a0 a1) := lM (fun k => spec_l41Split.mono a0 a1 k)
end
theorem spec_l41Split.l0L_eq (a : ByteArray) (b c : Int) : spec_l41Split.l0L a b c = if c < (a.size : Int) then (if 0 ≤ c then (if (bt a c) = b then (if c ≤ (a.size : Int) then (if 0 ≤ (wrap64 (c + 1)) then (if (wrap64 (c + 1)) ≤ (a.size : Int) then (some (a.extract 0 (c : Int).toNat, a.extract ((wrap64 (c + 1)) : Int).toNat a.size, true)) else (none)) else (none)) else (none)) else (spec_l41Split.l0L a b (wrap64 (c + 1)))) else (none)) else (some (a, (⟨#[]⟩ : ByteArray), false)) := by
  refine lU (spec_l41Split.l0L_is a b c) (LimIs.step1 (by simp only [spec_l41Split.l0]) ?_)
  simp only [spec_l41Split.l0]
  repeat' with_reducible first | exact lK _ | exact spec_l41Split.l0L_is .. | apply lI | apply lB | intro _
theorem spec_l41Split.fL_eq (a0 : ByteArray) (a1 : Int) : spec_l41Split.fL a0 a1 = spec_l41Split.l0L a0 a1 0 := by
  refine lU (spec_l41Split.fL_is a0 a1) ?_
  unfold spec_l41Split.f
  repeat' with_reducible first | exact lK _ | exact spec_l41Split.l0L_is .. | apply lI | apply lB | intro _
/-! ### spec_l7Number -/
section
variable (a : ByteArray) (b c : Int)
noncomputable def spec_l7Number.l0L : Option (Int) := Lim (spec_l7Number.l0 · a b c)
theorem spec_l7Number.l0L_is : LimIs (spec_l7Number.l0 · a b c) (spec_l7Number.l0L a b c) := lM (fun k => (spec_l7Number.mono_l k) a b c)
end
section
variable (a0 : ByteArray)
noncomputable def spec_l7Number.fL : Option (Int) := Lim (spec_l7Number.f · a0)
theorem spec_l7Number.fL_is : LimIs (spec_l7Number.f · a0) (spec_l7Number.fL a0) := lM (fun k => spec_l7Number.mono a0 k)
end
theorem spec_l7Number.l0L_eq (a : ByteArray) (b c : Int) : spec_l7Number.l0L a b c = if c < (a.size : Int) then (if 0 ≤ c then (if (bt a c) < 48 then (some (-1)) else (if (bt a c) > 57 then (some (-1)) else (spec_l7Number.l0L a (wrap64 ((wrap64 (10 * b)) + (((bt a c) - 48) % 256))) (wrap64 (c + 1))))) else (none)) else (some b) := by
  refine lU (spec_l7Number.l0L_is a b c) (LimIs.step1 (by simp only [spec_l7Number.l0]) ?_)
  simp only [spec_l7Number.l0]
  repeat' with_reducible first | exact lK _ | exact spec_l7Number.l0L_is .. | apply lI | apply lB | intro _
theorem spec_l7Number.fL_eq (a0 : ByteArray) : spec_l7Number.fL a0 = (spec_l1In.f (a0.size : Int) 1 4).bind fun t157 => (if t157 = true then (spec_l7Number.l0L a0 0 0) else (some (-1))) := by
  refine lU (spec_l7Number.fL_is a0) ?_
  unfold spec_l7Number.f
  repeat' with_reducible first | exact lK _ | exact spec_l7Number.l0L_is .. | apply lI | apply lB | intro _
/-! ### spec_ReadRoutes -/
section
variable (a : ByteArray) (b : List (S60)) (c : List ByteArray) (d : Int)
noncomputable def spec_ReadRoutes.l0L : Option ((List (S60)) × Bool) := Lim (spec_ReadRoutes.l0 · a b c d)
theorem spec_ReadRoutes.l0L_is : LimIs (spec_ReadRoutes.l0 · a b c d) (spec_ReadRoutes.l0L a b c d) := lM (fun k => (spec_ReadRoutes.mono_l k).1 a b c d)
end
section
variable (a : ByteArray) (b : List (S60)) (c : List ByteArray) (d : Int) (e : Bool)
noncomputable def spec_ReadRoutes.j1L : Option ((List (S60)) × Bool) := Lim (spec_ReadRoutes.j1 · a b c d e)
theorem spec_ReadRoutes.j1L_is : LimIs (spec_ReadRoutes.j1 · a b c d e) (spec_ReadRoutes.j1L a b c d e) := lM (fun k => (spec_ReadRoutes.mono_l k).2 a b c d e)
end
section
variable (a0 : ByteArray)
noncomputable def spec_ReadRoutes.fL : Option ((List (S60)) × Bool) := Lim (spec_ReadRoutes.f · a0)
theorem spec_ReadRoutes.fL_is : LimIs (spec_ReadRoutes.f · a0) (spec_ReadRoutes.fL a0) := lM (fun k => spec_ReadRoutes.mono a0 k)
end
theorem spec_ReadRoutes.l0L_eq (a : ByteArray) (b : List (S60)) (c : List ByteArray) (d : Int) : spec_ReadRoutes.l0L a b c d = if d < (c.length : Int) then (spec_ReadRoutes.j1L a b c d (decide (d ≤ 6))) else (spec_ReadRoutes.j1L a b c d false) := by
  refine lU (spec_ReadRoutes.l0L_is a b c d) (LimIs.step1 (by simp only [spec_ReadRoutes.l0]) ?_)
  simp only [spec_ReadRoutes.l0]
  repeat' with_reducible first | exact lK _ | exact spec_ReadRoutes.j1L_is .. | apply lI | apply lB | intro _
theorem spec_ReadRoutes.j1L_eq (a : ByteArray) (b : List (S60)) (c : List ByteArray) (d : Int) (e : Bool) : spec_ReadRoutes.j1L a b c d e = if e = true then (if 0 ≤ d then (if d < (c.length : Int) then ((spec_l41Split.fL (rdOf ByteArray.empty c d) 58).bind fun bt165 => ((spec_l41Split.fL bt165.2.1 45).bind fun bt168 => ((spec_l7Number.fL bt165.1).bind fun t171 => (if b.length < 3518437208883 then (spec_ReadRoutes.l0L a (b ++ [(⟨t171, (⟨bt168.1, bt168.2.1⟩ : S58)⟩ : S60)]) c (wrap64 (d + 1))) else (none))))) else (none)) else (none)) else (if a.toList = ([] : List UInt8) then (some ((([] : List (S60))), false)) else ((spec_RoutesText.fL b).bind fun t178 => (if t178.toList = a.toList then (some (b, true)) else (some ((([] : List (S60))), false))))) := by
  refine lU (spec_ReadRoutes.j1L_is a b c d e) (LimIs.step1 (by simp only [spec_ReadRoutes.j1]) ?_)
  simp only [spec_ReadRoutes.j1]
  repeat' with_reducible first | exact lK _ | exact spec_ReadRoutes.l0L_is .. | exact spec_RoutesText.fL_is .. | exact spec_l41Split.fL_is .. | exact spec_l7Number.fL_is .. | apply lI | apply lB | intro _
theorem spec_ReadRoutes.fL_eq (a0 : ByteArray) : spec_ReadRoutes.fL a0 = (spec_l7Words.fL a0).bind fun t161 => (spec_ReadRoutes.l0L a0 (([] : List (S60))) t161 0) := by
  refine lU (spec_ReadRoutes.fL_is a0) ?_
  unfold spec_ReadRoutes.f
  repeat' with_reducible first | exact lK _ | exact spec_ReadRoutes.l0L_is .. | exact spec_l7Words.fL_is .. | apply lI | apply lB | intro _
/-! ### impl_lettersOnly -/
section
variable (a0 : ByteArray)
noncomputable def impl_lettersOnly.fL : Option (Bool) := Lim (impl_lettersOnly.f · a0)
theorem impl_lettersOnly.fL_is : LimIs (impl_lettersOnly.f · a0) (impl_lettersOnly.fL a0) := lM (fun k => impl_lettersOnly.mono a0 k)
end
theorem impl_lettersOnly.fL_eq (a0 : ByteArray) : impl_lettersOnly.fL a0 = if a0.toList = ([] : List UInt8) then (some true) else (if 0 < (a0.size : Int) then (if (bt a0 0) ≥ 97 then (if (bt a0 0) ≤ 122 then (if 1 ≤ (a0.size : Int) then ((impl_lettersOnly.fL (a0.extract 1 a0.size)).bind fun t182 => (some t182)) else (none)) else (some false)) else (some false)) else (none)) := by
  refine lU (impl_lettersOnly.fL_is a0) (LimIs.step1 (by simp only [impl_lettersOnly.f]) ?_)
  simp only [impl_lettersOnly.f]
  repeat' with_reducible first | exact lK _ | exact impl_lettersOnly.fL_is .. | apply lI | apply lB | intro _
/-! ### impl_KeyValid -/
section
variable (a0 : ByteArray)
noncomputable def impl_KeyValid.fL : Option (Bool) := Lim (impl_KeyValid.f · a0)
theorem impl_KeyValid.fL_is : LimIs (impl_KeyValid.f · a0) (impl_KeyValid.fL a0) := lM (fun k => impl_KeyValid.mono a0 k)
end
theorem impl_KeyValid.fL_eq (a0 : ByteArray) : impl_KeyValid.fL a0 = if (a0.size : Int) < 1 then (some false) else (if (a0.size : Int) > 4 then (some false) else ((impl_lettersOnly.fL a0).bind fun t183 => (some t183))) := by
  refine lU (impl_KeyValid.fL_is a0) ?_
  unfold impl_KeyValid.f
  repeat' with_reducible first | exact lK _ | exact impl_lettersOnly.fL_is .. | apply lI | apply lB | intro _
/-! ### impl_IntervalValid -/
section
variable (a0_0 a0_1 : ByteArray)
noncomputable def impl_IntervalValid.fL : Option (Bool) := Lim (impl_IntervalValid.f · a0_0 a0_1)
theorem impl_IntervalValid.fL_is : LimIs (impl_IntervalValid.f · a0_0 a0_1) (impl_IntervalValid.fL a0_0 a0_1) := lM (fun k => impl_IntervalValid.mono a0_0 a0_1 k)
end
theorem impl_IntervalValid.fL_eq (a0_0 a0_1 : ByteArray) : impl_IntervalValid.fL a0_0 a0_1 = if a0_0.toList = ([] : List UInt8) then (if a0_1.toList = ([] : List UInt8) then (some true) else ((impl_KeyValid.fL a0_1).bind fun t186 => (if t186 = true then ((impl_lowestKey.f a0_0 a0_1).bind fun t187 => (some (Op.bytesLess t187.toList a0_1.toList))) else (some false)))) else ((impl_KeyValid.fL a0_0).bind fun t188 => (if t188 = true then (if a0_1.toList = ([] : List UInt8) then (some true) else ((impl_KeyValid.fL a0_1).bind fun t189 => (if t189 = true then ((impl_lowestKey.f a0_0 a0_1).bind fun t190 => (some (Op.bytesLess t190.toList a0_1.toList))) else (some false)))) else (some false))) := by
  refine lU (impl_IntervalValid.fL_is a0_0 a0_1) ?_
  unfold impl_IntervalValid.f
  repeat' with_reducible first | exact lK _ | exact impl_KeyValid.fL_is .. | apply lI | apply lB | intro _
/-! ### impl_IntervalJoin -/
section
variable (a0_0 a0_1 a1_0 a1_1 : ByteArray)
noncomputable def impl_IntervalJoin.fL : Option (ByteArray × ByteArray × Bool) := Lim (impl_IntervalJoin.f · a0_0 a0_1 a1_0 a1_1)
theorem impl_IntervalJoin.fL_is : LimIs (impl_IntervalJoin.f · a0_0 a0_1 a1_0 a1_1) (impl_IntervalJoin.fL a0_0 a0_1 a1_0 a1_1) := lM (fun k => impl_IntervalJoin.mono a0_0 a0_1 a1_0 a1_1 k)
end
theorem impl_IntervalJoin.fL_eq (a0_0 a0_1 a1_0 a1_1 : ByteArray) : impl_IntervalJoin.fL a0_0 a0_1 a1_0 a1_1 = (impl_IntervalValid.fL a0_0 a0_1).bind fun t194 => (if t194 = true then ((impl_IntervalValid.fL a1_0 a1_1).bind fun t195 => (if t195 = true then (if a0_1.toList = ([] : List UInt8) then (some ((⟨#[]⟩ : ByteArray), (⟨#[]⟩ : ByteArray), false)) else (if a0_1.toList = a1_0.toList then (some (a0_0, a1_1, true)) else (some ((⟨#[]⟩ : ByteArray), (⟨#[]⟩ : ByteArray), false)))) else (some ((⟨#[]⟩ : ByteArray), (⟨#[]⟩ : ByteArray), false)))) else (some ((⟨#[]⟩ : ByteArray), (⟨#[]⟩ : ByteArray), false))) := by
  refine lU (impl_IntervalJoin.fL_is a0_0 a0_1 a1_0 a1_1) ?_
  unfold impl_IntervalJoin.f
  repeat' with_reducible first | exact lK _ | exact impl_IntervalValid.fL_is .. | apply lI | apply lB | intro _
/-! ### impl_PartitionValid -/
section
variable (a : List (S58)) (b : Bool)
noncomputable def impl_PartitionValid.j0L : Option (Bool) := Lim (impl_PartitionValid.j0 · a b)
theorem impl_PartitionValid.j0L_is : LimIs (impl_PartitionValid.j0 · a b) (impl_PartitionValid.j0L a b) := lM (fun k => (impl_PartitionValid.mono_l k).1 a b)
end
section
variable (a b : List (S58)) (c d : Int)
noncomputable def impl_PartitionValid.l0L : Option (Bool) := Lim (impl_PartitionValid.l0 · a b c d)
theorem impl_PartitionValid.l0L_is : LimIs (impl_PartitionValid.l0 · a b c d) (impl_PartitionValid.l0L a b c d) := lM (fun k => (impl_PartitionValid.mono_l k).2 a b c d)
end
section
variable (l0 : List (S58))
noncomputable def impl_PartitionValid.fL : Option (Bool) := Lim (impl_PartitionValid.f · l0)
theorem impl_PartitionValid.fL_is : LimIs (impl_PartitionValid.f · l0) (impl_PartitionValid.fL l0) := lM (fun k => impl_PartitionValid.mono l0 k)
end
theorem impl_PartitionValid.j0L_eq (a : List (S58)) (b : Bool) : impl_PartitionValid.j0L a b = if b = true then (some false) else (impl_PartitionValid.l0L a a (a.length : Int) 0) := by
  refine lU (impl_PartitionValid.j0L_is a b) (LimIs.step1 (by simp only [impl_PartitionValid.j0]) ?_)
  simp only [impl_PartitionValid.j0]
  repeat' with_reducible first | exact lK _ | exact impl_PartitionValid.l0L_is .. | apply lI | apply lB | intro _
theorem impl_PartitionValid.l0L_eq (a b : List (S58)) (c d : Int) : impl_PartitionValid.l0L a b c d = if d < c then (if 0 ≤ d then (if d < (b.length : Int) then ((impl_IntervalValid.fL ((rd_T58 b d).f0) ((rd_T58 b d).f1)).bind fun t200 => (if t200 = true then (if d > 0 then (if 0 ≤ (wrap64 (d - 1)) then (if (wrap64 (d - 1)) < (a.length : Int) then ((impl_IntervalJoin.fL ((rd_T58 a (wrap64 (d - 1))).f0) ((rd_T58 a (wrap64 (d - 1))).f1) ((rd_T58 b d).f0) ((rd_T58 b d).f1)).bind fun bt202 => (if bt202.2.2 = true then (impl_PartitionValid.l0L a b c (wrap64 (d + 1))) else (some false))) else (none)) else (none)) else (impl_PartitionValid.l0L a b c (wrap64 (d + 1)))) else (some false))) else (none)) else (none)) else (some true) := by
  refine lU (impl_PartitionValid.l0L_is a b c d) (LimIs.step1 (by simp only [impl_PartitionValid.l0]) ?_)
  simp only [impl_PartitionValid.l0]
  repeat' with_reducible first | exact lK _ | exact impl_IntervalJoin.fL_is .. | exact impl_IntervalValid.fL_is .. | exact impl_PartitionValid.l0L_is .. | apply lI | apply lB | intro _
theorem impl_PartitionValid.fL_eq (l0 : List (S58)) : impl_PartitionValid.fL l0 = if (l0.length : Int) < 1 then (impl_PartitionValid.j0L l0 true) else (if (l0.length : Int) > 6 then (impl_PartitionValid.j0L l0 true) else (if 0 < (l0.length : Int) then (if ((rd_T58 l0 0).f0).toList = ([] : List UInt8) then (if 0 ≤ (wrap64 ((l0.length : Int) - 1)) then (if (wrap64 ((l0.length : Int) - 1)) < (l0.length : Int) then (impl_PartitionValid.j0L l0 (((rd_T58 l0 (wrap64 ((l0.length : Int) - 1))).f1).toList != ([] : List UInt8))) else (none)) else (none)) else (impl_PartitionValid.j0L l0 true)) else (none))) := by
  refine lU (impl_PartitionValid.fL_is l0) ?_
  unfold impl_PartitionValid.f
  repeat' with_reducible first | exact lK _ | exact impl_PartitionValid.j0L_is .. | apply lI | apply lB | intro _
/-! ### impl_spansOf -/
section
variable (a : List (S58)) (b : List (S60)) (c d : Int)
noncomputable def impl_spansOf.l0L : Option ((List (S58))) := Lim (impl_spansOf.l0 · a b c d)
theorem impl_spansOf.l0L_is : LimIs (impl_spansOf.l0 · a b c d) (impl_spansOf.l0L a b c d) := lM (fun k => (impl_spansOf.mono_l k) a b c d)
end
section
variable (l0 : List (S60))
noncomputable def impl_spansOf.fL : Option ((List (S58))) := Lim (impl_spansOf.f · l0)
theorem impl_spansOf.fL_is : LimIs (impl_spansOf.f · l0) (impl_spansOf.fL l0) := lM (fun k => impl_spansOf.mono l0 k)
end
theorem impl_spansOf.l0L_eq (a : List (S58)) (b : List (S60)) (c d : Int) : impl_spansOf.l0L a b c d = if d < c then (if 0 ≤ d then (if d < (b.length : Int) then (if a.length < 4398046511104 then (impl_spansOf.l0L (a ++ [(⟨(rd_T60 b d).f1.f0, (rd_T60 b d).f1.f1⟩ : S58)]) b c (wrap64 (d + 1))) else (none)) else (none)) else (none)) else (some a) := by
  refine lU (impl_spansOf.l0L_is a b c d) (LimIs.step1 (by simp only [impl_spansOf.l0]) ?_)
  simp only [impl_spansOf.l0]
  repeat' with_reducible first | exact lK _ | exact impl_spansOf.l0L_is .. | apply lI | apply lB | intro _
theorem impl_spansOf.fL_eq (l0 : List (S60)) : impl_spansOf.fL l0 = impl_spansOf.l0L ([] : List (S58)) l0 (l0.length : Int) 0 := by
  refine lU (impl_spansOf.fL_is l0) ?_
  unfold impl_spansOf.f
  repeat' with_reducible first | exact lK _ | exact impl_spansOf.l0L_is .. | apply lI | apply lB | intro _
/-! ### impl_routePlace -/
section
variable (a : Int) (b : List (S60)) (c d : Int)
noncomputable def impl_routePlace.l0L : Option (Int) := Lim (impl_routePlace.l0 · a b c d)
theorem impl_routePlace.l0L_is : LimIs (impl_routePlace.l0 · a b c d) (impl_routePlace.l0L a b c d) := lM (fun k => (impl_routePlace.mono_l k) a b c d)
end
section
variable (l0 : List (S60)) (a1 : Int)
noncomputable def impl_routePlace.fL : Option (Int) := Lim (impl_routePlace.f · l0 a1)
theorem impl_routePlace.fL_is : LimIs (impl_routePlace.f · l0 a1) (impl_routePlace.fL l0 a1) := lM (fun k => impl_routePlace.mono l0 a1 k)
end
theorem impl_routePlace.l0L_eq (a : Int) (b : List (S60)) (c d : Int) : impl_routePlace.l0L a b c d = if d < c then (if 0 ≤ d then (if d < (b.length : Int) then (if ((rd_T60 b d).f0) = a then (some d) else (impl_routePlace.l0L a b c (wrap64 (d + 1)))) else (none)) else (none)) else (some (-1)) := by
  refine lU (impl_routePlace.l0L_is a b c d) (LimIs.step1 (by simp only [impl_routePlace.l0]) ?_)
  simp only [impl_routePlace.l0]
  repeat' with_reducible first | exact lK _ | exact impl_routePlace.l0L_is .. | apply lI | apply lB | intro _
theorem impl_routePlace.fL_eq (l0 : List (S60)) (a1 : Int) : impl_routePlace.fL l0 a1 = impl_routePlace.l0L a1 l0 (l0.length : Int) 0 := by
  refine lU (impl_routePlace.fL_is l0 a1) ?_
  unfold impl_routePlace.f
  repeat' with_reducible first | exact lK _ | exact impl_routePlace.l0L_is .. | apply lI | apply lB | intro _
/-! ### impl_numbersDiffer -/
section
variable (a b : List (S60)) (c d : Int)
noncomputable def impl_numbersDiffer.l0L : Option (Bool) := Lim (impl_numbersDiffer.l0 · a b c d)
theorem impl_numbersDiffer.l0L_is : LimIs (impl_numbersDiffer.l0 · a b c d) (impl_numbersDiffer.l0L a b c d) := lM (fun k => (impl_numbersDiffer.mono_l k) a b c d)
end
section
variable (l0 : List (S60))
noncomputable def impl_numbersDiffer.fL : Option (Bool) := Lim (impl_numbersDiffer.f · l0)
theorem impl_numbersDiffer.fL_is : LimIs (impl_numbersDiffer.f · l0) (impl_numbersDiffer.fL l0) := lM (fun k => impl_numbersDiffer.mono l0 k)
end
theorem impl_numbersDiffer.l0L_eq (a b : List (S60)) (c d : Int) : impl_numbersDiffer.l0L a b c d = if d < c then (if 0 ≤ d then (if d < (b.length : Int) then ((impl_shardNumber.f ((rd_T60 b d).f0)).bind fun t215 => (if t215 = true then (if d ≤ (a.length : Int) then ((impl_routePlace.fL (a.take (d : Int).toNat) ((rd_T60 b d).f0)).bind fun t220 => (if t220 ≥ 0 then (some false) else (impl_numbersDiffer.l0L a b c (wrap64 (d + 1))))) else (none)) else (some false))) else (none)) else (none)) else (some true) := by
  refine lU (impl_numbersDiffer.l0L_is a b c d) (LimIs.step1 (by simp only [impl_numbersDiffer.l0]) ?_)
  simp only [impl_numbersDiffer.l0]
  repeat' with_reducible first | exact lK _ | exact impl_numbersDiffer.l0L_is .. | exact impl_routePlace.fL_is .. | apply lI | apply lB | intro _
theorem impl_numbersDiffer.fL_eq (l0 : List (S60)) : impl_numbersDiffer.fL l0 = impl_numbersDiffer.l0L l0 l0 (l0.length : Int) 0 := by
  refine lU (impl_numbersDiffer.fL_is l0) ?_
  unfold impl_numbersDiffer.f
  repeat' with_reducible first | exact lK _ | exact impl_numbersDiffer.l0L_is .. | apply lI | apply lB | intro _
/-! ### impl_RoutesValid -/
section
variable (l0 : List (S60))
noncomputable def impl_RoutesValid.fL : Option (Bool) := Lim (impl_RoutesValid.f · l0)
theorem impl_RoutesValid.fL_is : LimIs (impl_RoutesValid.f · l0) (impl_RoutesValid.fL l0) := lM (fun k => impl_RoutesValid.mono l0 k)
end
theorem impl_RoutesValid.fL_eq (l0 : List (S60)) : impl_RoutesValid.fL l0 = if (l0.length : Int) ≤ 6 then ((impl_spansOf.fL l0).bind fun t221 => ((impl_PartitionValid.fL t221).bind fun t224 => (if t224 = true then ((impl_numbersDiffer.fL l0).bind fun t225 => (some t225)) else (some false)))) else (some false) := by
  refine lU (impl_RoutesValid.fL_is l0) ?_
  unfold impl_RoutesValid.f
  repeat' with_reducible first | exact lK _ | exact impl_PartitionValid.fL_is .. | exact impl_numbersDiffer.fL_is .. | exact impl_spansOf.fL_is .. | apply lI | apply lB | intro _
/-! ### impl_RoutesText -/
section
variable (a : List ByteArray) (b : List (S60)) (c d : Int)
noncomputable def impl_RoutesText.l0L : Option (ByteArray) := Lim (impl_RoutesText.l0 · a b c d)
theorem impl_RoutesText.l0L_is : LimIs (impl_RoutesText.l0 · a b c d) (impl_RoutesText.l0L a b c d) := lM (fun k => (impl_RoutesText.mono_l k) a b c d)
end
section
variable (l0 : List (S60))
noncomputable def impl_RoutesText.fL : Option (ByteArray) := Lim (impl_RoutesText.f · l0)
theorem impl_RoutesText.fL_is : LimIs (impl_RoutesText.f · l0) (impl_RoutesText.fL l0) := lM (fun k => impl_RoutesText.mono l0 k)
end
theorem impl_RoutesText.l0L_eq (a : List ByteArray) (b : List (S60)) (c d : Int) : impl_RoutesText.l0L a b c d = if d < c then (if 0 ≤ d then (if d < (b.length : Int) then ((strconv_Itoa.f ((rd_T60 b d).f0)).bind fun t229 => (if t229.size + 1 ≤ 9223372036854775807 then (if (t229 ++ (⟨#[58]⟩ : ByteArray)).size + ((rd_T60 b d).f1.f0).size ≤ 9223372036854775807 then (if ((t229 ++ (⟨#[58]⟩ : ByteArray)) ++ ((rd_T60 b d).f1.f0)).size + 1 ≤ 9223372036854775807 then (if (((t229 ++ (⟨#[58]⟩ : ByteArray)) ++ ((rd_T60 b d).f1.f0)) ++ (⟨#[45]⟩ : ByteArray)).size + ((rd_T60 b d).f1.f1).size ≤ 9223372036854775807 then (if a.length < 8796093022208 then (impl_RoutesText.l0L (a ++ [(((t229 ++ (⟨#[58]⟩ : ByteArray)) ++ ((rd_T60 b d).f1.f0)) ++ (⟨#[45]⟩ : ByteArray)) ++ ((rd_T60 b d).f1.f1)]) b c (wrap64 (d + 1))) else (none)) else (none)) else (none)) else (none)) else (none))) else (none)) else (none)) else ((strings_Join.f a (⟨#[32]⟩ : ByteArray)).bind fun t233 => (some t233)) := by
  refine lU (impl_RoutesText.l0L_is a b c d) (LimIs.step1 (by simp only [impl_RoutesText.l0]) ?_)
  simp only [impl_RoutesText.l0]
  repeat' with_reducible first | exact lK _ | exact impl_RoutesText.l0L_is .. | apply lI | apply lB | intro _
theorem impl_RoutesText.fL_eq (l0 : List (S60)) : impl_RoutesText.fL l0 = (impl_RoutesValid.fL l0).bind fun t226 => (if t226 = true then (impl_RoutesText.l0L ([] : List ByteArray) l0 (l0.length : Int) 0) else (some (⟨#[]⟩ : ByteArray))) := by
  refine lU (impl_RoutesText.fL_is l0) ?_
  unfold impl_RoutesText.f
  repeat' with_reducible first | exact lK _ | exact impl_RoutesText.l0L_is .. | exact impl_RoutesValid.fL_is .. | apply lI | apply lB | intro _
/-! ### impl_ReadRoutes -/
section
variable (a : ByteArray) (b : List (S60)) (c : List ByteArray) (d e : Int)
noncomputable def impl_ReadRoutes.l0L : Option ((List (S60)) × Bool) := Lim (impl_ReadRoutes.l0 · a b c d e)
theorem impl_ReadRoutes.l0L_is : LimIs (impl_ReadRoutes.l0 · a b c d e) (impl_ReadRoutes.l0L a b c d e) := lM (fun k => (impl_ReadRoutes.mono_l k) a b c d e)
end
section
variable (a0 : ByteArray)
noncomputable def impl_ReadRoutes.fL : Option ((List (S60)) × Bool) := Lim (impl_ReadRoutes.f · a0)
theorem impl_ReadRoutes.fL_is : LimIs (impl_ReadRoutes.f · a0) (impl_ReadRoutes.fL a0) := lM (fun k => impl_ReadRoutes.mono a0 k)
end
theorem impl_ReadRoutes.l0L_eq (a : ByteArray) (b : List (S60)) (c : List ByteArray) (d e : Int) : impl_ReadRoutes.l0L a b c d e = if e < d then (if 0 ≤ e then (if e < (c.length : Int) then ((strings_Cut.f (rdOf ByteArray.empty c e) (⟨#[58]⟩ : ByteArray)).bind fun bt241 => ((strings_Cut.f bt241.2.1 (⟨#[45]⟩ : ByteArray)).bind fun bt244 => ((impl_numberOf.f bt241.1).bind fun t247 => (if b.length < 3518437208883 then (impl_ReadRoutes.l0L a (b ++ [(⟨t247, (⟨bt244.1, bt244.2.1⟩ : S58)⟩ : S60)]) c d (wrap64 (e + 1))) else (none))))) else (none)) else (none)) else ((impl_RoutesValid.fL b).bind fun t251 => (if t251 = true then ((impl_RoutesText.fL b).bind fun t252 => (if t252.toList = a.toList then (some (b, true)) else (some (([] : List (S60)), false)))) else (some (([] : List (S60)), false)))) := by
  refine lU (impl_ReadRoutes.l0L_is a b c d e) (LimIs.step1 (by simp only [impl_ReadRoutes.l0]) ?_)
  simp only [impl_ReadRoutes.l0]
  repeat' with_reducible first | exact lK _ | exact impl_ReadRoutes.l0L_is .. | exact impl_RoutesText.fL_is .. | exact impl_RoutesValid.fL_is .. | apply lI | apply lB | intro _
theorem impl_ReadRoutes.fL_eq (a0 : ByteArray) : impl_ReadRoutes.fL a0 = (strings_Split.f a0 (⟨#[32]⟩ : ByteArray)).bind fun t237 => (if (t237.length : Int) > 6 then (some (([] : List (S60)), false)) else (impl_ReadRoutes.l0L a0 ([] : List (S60)) t237 (t237.length : Int) 0)) := by
  refine lU (impl_ReadRoutes.fL_is a0) ?_
  unfold impl_ReadRoutes.f
  repeat' with_reducible first | exact lK _ | exact impl_ReadRoutes.l0L_is .. | apply lI | apply lB | intro _
/-! ### laws_eqRouteS -/
section
variable (a b : List (S60)) (c : Int)
noncomputable def laws_eqRouteS.l0L : Option (Bool) := Lim (laws_eqRouteS.l0 · a b c)
theorem laws_eqRouteS.l0L_is : LimIs (laws_eqRouteS.l0 · a b c) (laws_eqRouteS.l0L a b c) := lM (fun k => (laws_eqRouteS.mono_l k) a b c)
end
section
variable (l0 l1 : List (S60))
noncomputable def laws_eqRouteS.fL : Option (Bool) := Lim (laws_eqRouteS.f · l0 l1)
theorem laws_eqRouteS.fL_is : LimIs (laws_eqRouteS.f · l0 l1) (laws_eqRouteS.fL l0 l1) := lM (fun k => laws_eqRouteS.mono l0 l1 k)
end
theorem laws_eqRouteS.l0L_eq (a b : List (S60)) (c : Int) : laws_eqRouteS.l0L a b c = if c < (a.length : Int) then (if 0 ≤ c then (if c < (b.length : Int) then ((laws_eqRoute.f ((rd_T60 a c).f0) ((rd_T60 a c).f1.f0) ((rd_T60 a c).f1.f1) ((rd_T60 b c).f0) ((rd_T60 b c).f1.f0) ((rd_T60 b c).f1.f1)).bind fun t260 => (if t260 = true then (laws_eqRouteS.l0L a b (wrap64 (c + 1))) else (some false))) else (none)) else (none)) else (some true) := by
  refine lU (laws_eqRouteS.l0L_is a b c) (LimIs.step1 (by simp only [laws_eqRouteS.l0]) ?_)
  simp only [laws_eqRouteS.l0]
  repeat' with_reducible first | exact lK _ | exact laws_eqRouteS.l0L_is .. | apply lI | apply lB | intro _
theorem laws_eqRouteS.fL_eq (l0 l1 : List (S60)) : laws_eqRouteS.fL l0 l1 = if (l0.length : Int) = (l1.length : Int) then (laws_eqRouteS.l0L l0 l1 0) else (some false) := by
  refine lU (laws_eqRouteS.fL_is l0 l1) ?_
  unfold laws_eqRouteS.f
  repeat' with_reducible first | exact lK _ | exact laws_eqRouteS.l0L_is .. | apply lI | apply lB | intro _
/-! ### laws_markText -/
section
variable (a : Int) (b : ByteArray)
noncomputable def laws_markText.l0L : Option (ByteArray) := Lim (laws_markText.l0 · a b)
theorem laws_markText.l0L_is : LimIs (laws_markText.l0 · a b) (laws_markText.l0L a b) := lM (fun k => (laws_markText.mono_l k) a b)
end
section
variable (a0 : Int)
noncomputable def laws_markText.fL : Option (ByteArray) := Lim (laws_markText.f · a0)
theorem laws_markText.fL_is : LimIs (laws_markText.f · a0) (laws_markText.fL a0) := lM (fun k => laws_markText.mono a0 k)
end
theorem laws_markText.l0L_eq (a : Int) (b : ByteArray) : laws_markText.l0L a b = if a > 0 then ((some (([(wrap64 (48 + (Int.tmod a 10))) % 256] : List Int) : List Int)).bind fun y261 => (if (strOfNums y261).size + b.size ≤ 9223372036854775807 then (laws_markText.l0L (wrap64 (Int.tdiv a 10)) ((strOfNums y261) ++ b)) else (none))) else (if 1 + b.size ≤ 9223372036854775807 then (some ((⟨#[109]⟩ : ByteArray) ++ b)) else (none)) := by
  refine lU (laws_markText.l0L_is a b) (LimIs.step1 (by simp only [laws_markText.l0]) ?_)
  simp only [laws_markText.l0]
  repeat' with_reducible first | exact lK _ | exact laws_markText.l0L_is .. | apply lI | apply lB | intro _
theorem laws_markText.fL_eq (a0 : Int) : laws_markText.fL a0 = if a0 ≤ 0 then (some (⟨#[109, 48]⟩ : ByteArray)) else (laws_markText.l0L a0 (⟨#[]⟩ : ByteArray)) := by
  refine lU (laws_markText.fL_is a0) ?_
  unfold laws_markText.f
  repeat' with_reducible first | exact lK _ | exact laws_markText.l0L_is .. | apply lI | apply lB | intro _
/-! ### laws_markRouteS -/
section
variable (a : List (S60)) (b c : Int)
noncomputable def laws_markRouteS.l0L : Option (Int × (List (S60))) := Lim (laws_markRouteS.l0 · a b c)
theorem laws_markRouteS.l0L_is : LimIs (laws_markRouteS.l0 · a b c) (laws_markRouteS.l0L a b c) := lM (fun k => (laws_markRouteS.mono_l k) a b c)
end
section
variable (l0 : List (S60)) (a1 : Int)
noncomputable def laws_markRouteS.fL : Option (Int × (List (S60))) := Lim (laws_markRouteS.f · l0 a1)
theorem laws_markRouteS.fL_is : LimIs (laws_markRouteS.f · l0 a1) (laws_markRouteS.fL l0 a1) := lM (fun k => laws_markRouteS.mono l0 a1 k)
end
theorem laws_markRouteS.l0L_eq (a : List (S60)) (b c : Int) : laws_markRouteS.l0L a b c = if c < (a.length : Int) then (if 0 ≤ c then ((some (a.set (c : Int).toNat (⟨b, (⟨(rd_T60 a c).f1.f0, (rd_T60 a c).f1.f1⟩ : S58)⟩ : S60) : List (S60))).bind fun y264 => ((laws_markText.fL (wrap64 (b + 1))).bind fun t265 => ((some (y264.set (c : Int).toNat (⟨(rd_T60 y264 c).f0, (⟨t265, (rd_T60 y264 c).f1.f1⟩ : S58)⟩ : S60) : List (S60))).bind fun y266 => ((laws_markText.fL (wrap64 ((wrap64 (b + 1)) + 1))).bind fun t267 => (laws_markRouteS.l0L (y266.set (c : Int).toNat (⟨(rd_T60 y266 c).f0, (⟨(rd_T60 y266 c).f1.f0, t267⟩ : S58)⟩ : S60)) (wrap64 ((wrap64 ((wrap64 (b + 1)) + 1)) + 1)) (wrap64 (c + 1))))))) else (none)) else (some (b, a)) := by
  refine lU (laws_markRouteS.l0L_is a b c) (LimIs.step1 (by simp only [laws_markRouteS.l0]) ?_)
  simp only [laws_markRouteS.l0]
  repeat' with_reducible first | exact lK _ | exact laws_markRouteS.l0L_is .. | exact laws_markText.fL_is .. | apply lI | apply lB | intro _
theorem laws_markRouteS.fL_eq (l0 : List (S60)) (a1 : Int) : laws_markRouteS.fL l0 a1 = laws_markRouteS.l0L l0 a1 0 := by
  refine lU (laws_markRouteS.fL_is l0 a1) ?_
  unfold laws_markRouteS.f
  repeat' with_reducible first | exact lK _ | exact laws_markRouteS.l0L_is .. | apply lI | apply lB | intro _
/-! ### laws_heldRouteS -/
section
variable (a : List (S60)) (b c : Int)
noncomputable def laws_heldRouteS.l0L : Option (Int) := Lim (laws_heldRouteS.l0 · a b c)
theorem laws_heldRouteS.l0L_is : LimIs (laws_heldRouteS.l0 · a b c) (laws_heldRouteS.l0L a b c) := lM (fun k => (laws_heldRouteS.mono_l k) a b c)
end
section
variable (l0 : List (S60)) (a1 : Int)
noncomputable def laws_heldRouteS.fL : Option (Int) := Lim (laws_heldRouteS.f · l0 a1)
theorem laws_heldRouteS.fL_is : LimIs (laws_heldRouteS.f · l0 a1) (laws_heldRouteS.fL l0 a1) := lM (fun k => laws_heldRouteS.mono l0 a1 k)
end
theorem laws_heldRouteS.l0L_eq (a : List (S60)) (b c : Int) : laws_heldRouteS.l0L a b c = if c < (a.length : Int) then (if 0 ≤ c then (if ((rd_T60 a c).f0) = b then ((laws_markText.fL (wrap64 (b + 1))).bind fun t271 => (if ((rd_T60 a c).f1.f0).toList = t271.toList then ((laws_markText.fL (wrap64 ((wrap64 (b + 1)) + 1))).bind fun t273 => (if ((rd_T60 a c).f1.f1).toList = t273.toList then (laws_heldRouteS.l0L a (wrap64 ((wrap64 ((wrap64 (b + 1)) + 1)) + 1)) (wrap64 (c + 1))) else (some (-1)))) else (some (-1)))) else (some (-1))) else (none)) else (some b) := by
  refine lU (laws_heldRouteS.l0L_is a b c) (LimIs.step1 (by simp only [laws_heldRouteS.l0]) ?_)
  simp only [laws_heldRouteS.l0]
  repeat' with_reducible first | exact lK _ | exact laws_heldRouteS.l0L_is .. | exact laws_markText.fL_is .. | apply lI | apply lB | intro _
theorem laws_heldRouteS.fL_eq (l0 : List (S60)) (a1 : Int) : laws_heldRouteS.fL l0 a1 = laws_heldRouteS.l0L l0 a1 0 := by
  refine lU (laws_heldRouteS.fL_is l0 a1) ?_
  unfold laws_heldRouteS.f
  repeat' with_reducible first | exact lK _ | exact laws_heldRouteS.l0L_is .. | apply lI | apply lB | intro _
/-! ### laws_FnExactReadRoutes -/
section
variable (a : ByteArray) (b : List (S60)) (c : Bool) (d : List (S60)) (e : Bool)
noncomputable def laws_FnExactReadRoutes.j0L : Option (Bool) := Lim (laws_FnExactReadRoutes.j0 · a b c d e)
theorem laws_FnExactReadRoutes.j0L_is : LimIs (laws_FnExactReadRoutes.j0 · a b c d e) (laws_FnExactReadRoutes.j0L a b c d e) := lM (fun k => (laws_FnExactReadRoutes.mono_l k).1 a b c d e)
end
section
variable (a : List (S60)) (b : Int) (c : Bool)
noncomputable def laws_FnExactReadRoutes.j1L : Option (Bool) := Lim (laws_FnExactReadRoutes.j1 · a b c)
theorem laws_FnExactReadRoutes.j1L_is : LimIs (laws_FnExactReadRoutes.j1 · a b c) (laws_FnExactReadRoutes.j1L a b c) := lM (fun k => (laws_FnExactReadRoutes.mono_l k).2 a b c)
end
section
variable (a0 : ByteArray)
noncomputable def laws_FnExactReadRoutes.fL : Option (Bool) := Lim (laws_FnExactReadRoutes.f · a0)
theorem laws_FnExactReadRoutes.fL_is : LimIs (laws_FnExactReadRoutes.f · a0) (laws_FnExactReadRoutes.fL a0) := lM (fun k => laws_FnExactReadRoutes.mono a0 k)
end
theorem laws_FnExactReadRoutes.j0L_eq (a : ByteArray) (b : List (S60)) (c : Bool) (d : List (S60)) (e : Bool) : laws_FnExactReadRoutes.j0L a b c d e = if e = true then (some false) else ((laws_markRouteS.fL d 1).bind fun bt283 => ((laws_heldRouteS.fL bt283.2 1).bind fun t285 => (if t285 < 0 then (some false) else (if t285 = bt283.1 then ((impl_ReadRoutes.fL a).bind fun bt286 => ((laws_eqRouteS.fL bt286.1 b).bind fun t290 => (if t290 = true then (laws_FnExactReadRoutes.j1L bt283.2 bt283.1 (bt286.2 != c)) else (laws_FnExactReadRoutes.j1L bt283.2 bt283.1 true)))) else (some false))))) := by
  refine lU (laws_FnExactReadRoutes.j0L_is a b c d e) (LimIs.step1 (by simp only [laws_FnExactReadRoutes.j0]) ?_)
  simp only [laws_FnExactReadRoutes.j0]
  repeat' with_reducible first | exact lK _ | exact impl_ReadRoutes.fL_is .. | exact laws_FnExactReadRoutes.j1L_is .. | exact laws_eqRouteS.fL_is .. | exact laws_heldRouteS.fL_is .. | exact laws_markRouteS.fL_is .. | apply lI | apply lB | intro _
theorem laws_FnExactReadRoutes.j1L_eq (a : List (S60)) (b : Int) (c : Bool) : laws_FnExactReadRoutes.j1L a b c = if c = true then (some false) else ((laws_heldRouteS.fL a 1).bind fun t291 => (if t291 < 0 then (some false) else (if t291 = b then (some true) else (some false)))) := by
  refine lU (laws_FnExactReadRoutes.j1L_is a b c) (LimIs.step1 (by simp only [laws_FnExactReadRoutes.j1]) ?_)
  simp only [laws_FnExactReadRoutes.j1]
  repeat' with_reducible first | exact lK _ | exact laws_heldRouteS.fL_is .. | apply lI | apply lB | intro _
theorem laws_FnExactReadRoutes.fL_eq (a0 : ByteArray) : laws_FnExactReadRoutes.fL a0 = if (a0.size : Int) > 1048576 then (some true) else ((spec_ReadRoutes.fL a0).bind fun bt274 => ((impl_ReadRoutes.fL a0).bind fun bt278 => ((laws_eqRouteS.fL bt278.1 bt274.1).bind fun t282 => (if t282 = true then (laws_FnExactReadRoutes.j0L a0 bt274.1 bt274.2 bt278.1 (bt278.2 != bt274.2)) else (laws_FnExactReadRoutes.j0L a0 bt274.1 bt274.2 bt278.1 true))))) := by
  refine lU (laws_FnExactReadRoutes.fL_is a0) ?_
  unfold laws_FnExactReadRoutes.f
  repeat' with_reducible first | exact lK _ | exact impl_ReadRoutes.fL_is .. | exact laws_FnExactReadRoutes.j0L_is .. | exact laws_eqRouteS.fL_is .. | exact spec_ReadRoutes.fL_is .. | apply lI | apply lB | intro _
end Go.Proofs.YtagknifdfpjlbaaDoor.PFnExactReadRoutes
