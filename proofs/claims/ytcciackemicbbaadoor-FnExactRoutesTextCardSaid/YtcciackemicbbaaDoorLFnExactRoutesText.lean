/- The limits of the printed functions, and their equations. Written by lim.py out of the print. No condition. -/
import Derived.Test.YtcciackemicbbaaDoorOFnExactRoutesText
import Derived.Test.YtcciackemicbbaaDoorLim
namespace Go.Proofs.YtcciackemicbbaaDoor.PFnExactRoutesText
open Go.RowKit Go.Proofs.YtcciackemicbbaaDoorW.PrintWords Go.Proofs.YtcciackemicbbaaDoorW.PrintLast Go.Proofs.YtcciackemicbbaaDoorW.PrintMore Go.Proofs.YtcciackemicbbaaDoor.Lim
set_option linter.unusedVariables false

/-! ### laws_szRouteS -/
section
variable (a : List (S39)) (b c : Int)
noncomputable def laws_szRouteS.l0L : Option (Int) := Lim (laws_szRouteS.l0 · a b c)
theorem laws_szRouteS.l0L_is : LimIs (laws_szRouteS.l0 · a b c) (laws_szRouteS.l0L a b c) := lM (fun k => (laws_szRouteS.mono_l k) a b c)
end
section
variable (l0 : List (S39)) (a1 : Int)
noncomputable def laws_szRouteS.fL : Option (Int) := Lim (laws_szRouteS.f · l0 a1)
theorem laws_szRouteS.fL_is : LimIs (laws_szRouteS.f · l0 a1) (laws_szRouteS.fL l0 a1) := lM (fun k => laws_szRouteS.mono l0 a1 k)
end
theorem laws_szRouteS.l0L_eq (a : List (S39)) (b c : Int) : laws_szRouteS.l0L a b c = if c < (a.length : Int) then (if 0 ≤ c then ((laws_szRoute.f ((rd_T39 a c).f0) ((rd_T39 a c).f1.f0) ((rd_T39 a c).f1.f1) b).bind fun t105 => (if t105 < 0 then (some (-1)) else (laws_szRouteS.l0L a t105 (wrap64 (c + 1))))) else (none)) else (some b) := by
  refine lU (laws_szRouteS.l0L_is a b c) (LimIs.step1 (by simp only [laws_szRouteS.l0]) ?_)
  simp only [laws_szRouteS.l0]
  repeat' with_reducible first | exact lK _ | exact laws_szRouteS.l0L_is .. | apply lI | apply lB | intro _
theorem laws_szRouteS.fL_eq (l0 : List (S39)) (a1 : Int) : laws_szRouteS.fL l0 a1 = if (wrap64 (a1 - (l0.length : Int))) < 0 then (some (-1)) else (laws_szRouteS.l0L l0 (wrap64 (a1 - (l0.length : Int))) 0) := by
  refine lU (laws_szRouteS.fL_is l0 a1) ?_
  unfold laws_szRouteS.f
  repeat' with_reducible first | exact lK _ | exact laws_szRouteS.l0L_is .. | apply lI | apply lB | intro _
/-! ### spec_KeyValid -/
section
variable (a : ByteArray) (b : Int)
noncomputable def spec_KeyValid.l0L : Option (Bool) := Lim (spec_KeyValid.l0 · a b)
theorem spec_KeyValid.l0L_is : LimIs (spec_KeyValid.l0 · a b) (spec_KeyValid.l0L a b) := lM (fun k => (spec_KeyValid.mono_l k) a b)
end
section
variable (a0 : ByteArray)
noncomputable def spec_KeyValid.fL : Option (Bool) := Lim (spec_KeyValid.f · a0)
theorem spec_KeyValid.fL_is : LimIs (spec_KeyValid.f · a0) (spec_KeyValid.fL a0) := lM (fun k => spec_KeyValid.mono a0 k)
end
theorem spec_KeyValid.l0L_eq (a : ByteArray) (b : Int) : spec_KeyValid.l0L a b = if b < (a.size : Int) then (if 0 ≤ b then (if (bt a b) < 97 then (some false) else (if (bt a b) > 122 then (some false) else (spec_KeyValid.l0L a (wrap64 (b + 1))))) else (none)) else (some true) := by
  refine lU (spec_KeyValid.l0L_is a b) (LimIs.step1 (by simp only [spec_KeyValid.l0]) ?_)
  simp only [spec_KeyValid.l0]
  repeat' with_reducible first | exact lK _ | exact spec_KeyValid.l0L_is .. | apply lI | apply lB | intro _
theorem spec_KeyValid.fL_eq (a0 : ByteArray) : spec_KeyValid.fL a0 = (spec_l1In.f (a0.size : Int) 1 4).bind fun t106 => (if t106 = true then (spec_KeyValid.l0L a0 0) else (some false)) := by
  refine lU (spec_KeyValid.fL_is a0) ?_
  unfold spec_KeyValid.f
  repeat' with_reducible first | exact lK _ | exact spec_KeyValid.l0L_is .. | apply lI | apply lB | intro _
/-! ### spec_IntervalValid -/
section
variable (a0_0 a0_1 : ByteArray)
noncomputable def spec_IntervalValid.fL : Option (Bool) := Lim (spec_IntervalValid.f · a0_0 a0_1)
theorem spec_IntervalValid.fL_is : LimIs (spec_IntervalValid.f · a0_0 a0_1) (spec_IntervalValid.fL a0_0 a0_1) := lM (fun k => spec_IntervalValid.mono a0_0 a0_1 k)
end
theorem spec_IntervalValid.fL_eq (a0_0 a0_1 : ByteArray) : spec_IntervalValid.fL a0_0 a0_1 = if a0_0.toList = ([] : List UInt8) then (if a0_1.toList = ([] : List UInt8) then (some true) else ((spec_KeyValid.fL a0_1).bind fun t108 => (if t108 = true then (if (Op.bytesLess a0_0.toList a0_1.toList) = true then (some (a0_1.toList != ([97] : List UInt8))) else (some false)) else (some false)))) else ((spec_KeyValid.fL a0_0).bind fun t109 => (if t109 = true then (if a0_1.toList = ([] : List UInt8) then (some true) else ((spec_KeyValid.fL a0_1).bind fun t110 => (if t110 = true then (if (Op.bytesLess a0_0.toList a0_1.toList) = true then (some true) else (some false)) else (some false)))) else (some false))) := by
  refine lU (spec_IntervalValid.fL_is a0_0 a0_1) ?_
  unfold spec_IntervalValid.f
  repeat' with_reducible first | exact lK _ | exact spec_KeyValid.fL_is .. | apply lI | apply lB | intro _
/-! ### spec_IntervalJoin -/
section
variable (a0_0 a0_1 a1_0 a1_1 : ByteArray)
noncomputable def spec_IntervalJoin.fL : Option (ByteArray × ByteArray × Bool) := Lim (spec_IntervalJoin.f · a0_0 a0_1 a1_0 a1_1)
theorem spec_IntervalJoin.fL_is : LimIs (spec_IntervalJoin.f · a0_0 a0_1 a1_0 a1_1) (spec_IntervalJoin.fL a0_0 a0_1 a1_0 a1_1) := lM (fun k => spec_IntervalJoin.mono a0_0 a0_1 a1_0 a1_1 k)
end
theorem spec_IntervalJoin.fL_eq (a0_0 a0_1 a1_0 a1_1 : ByteArray) : spec_IntervalJoin.fL a0_0 a0_1 a1_0 a1_1 = (spec_IntervalValid.fL a0_0 a0_1).bind fun t114 => (if t114 = true then ((spec_IntervalValid.fL a1_0 a1_1).bind fun t115 => (if t115 = true then (if a0_1.toList = ([] : List UInt8) then (some ((⟨#[]⟩ : ByteArray), (⟨#[]⟩ : ByteArray), false)) else (if a0_1.toList = a1_0.toList then (some (a0_0, a1_1, true)) else (some ((⟨#[]⟩ : ByteArray), (⟨#[]⟩ : ByteArray), false)))) else (some ((⟨#[]⟩ : ByteArray), (⟨#[]⟩ : ByteArray), false)))) else (some ((⟨#[]⟩ : ByteArray), (⟨#[]⟩ : ByteArray), false))) := by
  refine lU (spec_IntervalJoin.fL_is a0_0 a0_1 a1_0 a1_1) ?_
  unfold spec_IntervalJoin.f
  repeat' with_reducible first | exact lK _ | exact spec_IntervalValid.fL_is .. | apply lI | apply lB | intro _
/-! ### spec_PartitionValid -/
section
variable (a : List (S42)) (b : Bool)
noncomputable def spec_PartitionValid.j0L : Option (Bool) := Lim (spec_PartitionValid.j0 · a b)
theorem spec_PartitionValid.j0L_is : LimIs (spec_PartitionValid.j0 · a b) (spec_PartitionValid.j0L a b) := lM (fun k => (spec_PartitionValid.mono_l k).1 a b)
end
section
variable (a : List (S42)) (b : Int)
noncomputable def spec_PartitionValid.l0L : Option (Bool) := Lim (spec_PartitionValid.l0 · a b)
theorem spec_PartitionValid.l0L_is : LimIs (spec_PartitionValid.l0 · a b) (spec_PartitionValid.l0L a b) := lM (fun k => (spec_PartitionValid.mono_l k).2 a b)
end
section
variable (l0 : List (S42))
noncomputable def spec_PartitionValid.fL : Option (Bool) := Lim (spec_PartitionValid.f · l0)
theorem spec_PartitionValid.fL_is : LimIs (spec_PartitionValid.f · l0) (spec_PartitionValid.fL l0) := lM (fun k => spec_PartitionValid.mono l0 k)
end
theorem spec_PartitionValid.j0L_eq (a : List (S42)) (b : Bool) : spec_PartitionValid.j0L a b = if b = true then (some false) else (spec_PartitionValid.l0L a 1) := by
  refine lU (spec_PartitionValid.j0L_is a b) (LimIs.step1 (by simp only [spec_PartitionValid.j0]) ?_)
  simp only [spec_PartitionValid.j0]
  repeat' with_reducible first | exact lK _ | exact spec_PartitionValid.l0L_is .. | apply lI | apply lB | intro _
theorem spec_PartitionValid.l0L_eq (a : List (S42)) (b : Int) : spec_PartitionValid.l0L a b = if b < (a.length : Int) then (if 0 ≤ (wrap64 (b - 1)) then (if (wrap64 (b - 1)) < (a.length : Int) then (if 0 ≤ b then ((spec_IntervalJoin.fL ((rd_T42 a (wrap64 (b - 1))).f0) ((rd_T42 a (wrap64 (b - 1))).f1) ((rd_T42 a b).f0) ((rd_T42 a b).f1)).bind fun bt123 => (if bt123.2.2 = true then (spec_PartitionValid.l0L a (wrap64 (b + 1))) else (some false))) else (none)) else (none)) else (none)) else (some true) := by
  refine lU (spec_PartitionValid.l0L_is a b) (LimIs.step1 (by simp only [spec_PartitionValid.l0]) ?_)
  simp only [spec_PartitionValid.l0]
  repeat' with_reducible first | exact lK _ | exact spec_IntervalJoin.fL_is .. | exact spec_PartitionValid.l0L_is .. | apply lI | apply lB | intro _
theorem spec_PartitionValid.fL_eq (l0 : List (S42)) : spec_PartitionValid.fL l0 = (spec_l1In.f (l0.length : Int) 1 6).bind fun t116 => (if t116 = true then (if 0 < (l0.length : Int) then ((spec_IntervalValid.fL ((rd_T42 l0 0).f0) ((rd_T42 l0 0).f1)).bind fun t118 => (if t118 = true then (if ((rd_T42 l0 0).f0).toList = ([] : List UInt8) then (if 0 ≤ (wrap64 ((l0.length : Int) - 1)) then (if (wrap64 ((l0.length : Int) - 1)) < (l0.length : Int) then (spec_PartitionValid.j0L l0 (((rd_T42 l0 (wrap64 ((l0.length : Int) - 1))).f1).toList != ([] : List UInt8))) else (none)) else (none)) else (spec_PartitionValid.j0L l0 true)) else (spec_PartitionValid.j0L l0 true))) else (none)) else (spec_PartitionValid.j0L l0 true)) := by
  refine lU (spec_PartitionValid.fL_is l0) ?_
  unfold spec_PartitionValid.f
  repeat' with_reducible first | exact lK _ | exact spec_IntervalValid.fL_is .. | exact spec_PartitionValid.j0L_is .. | apply lI | apply lB | intro _
/-! ### spec_RoutesValid -/
section
variable (a : List (S44)) (b : List (S42)) (c : Int)
noncomputable def spec_RoutesValid.l0L : Option (Bool) := Lim (spec_RoutesValid.l0 · a b c)
theorem spec_RoutesValid.l0L_is : LimIs (spec_RoutesValid.l0 · a b c) (spec_RoutesValid.l0L a b c) := lM (fun k => (spec_RoutesValid.mono_l k).1 a b c)
end
section
variable (a : List (S44)) (b : List (S42)) (c : Int) (d : Bool)
noncomputable def spec_RoutesValid.j1L : Option (Bool) := Lim (spec_RoutesValid.j1 · a b c d)
theorem spec_RoutesValid.j1L_is : LimIs (spec_RoutesValid.j1 · a b c d) (spec_RoutesValid.j1L a b c d) := lM (fun k => (spec_RoutesValid.mono_l k).2.1 a b c d)
end
section
variable (a : List (S44)) (b : List (S42)) (c d : Int)
noncomputable def spec_RoutesValid.l1L : Option (Bool) := Lim (spec_RoutesValid.l1 · a b c d)
theorem spec_RoutesValid.l1L_is : LimIs (spec_RoutesValid.l1 · a b c d) (spec_RoutesValid.l1L a b c d) := lM (fun k => (spec_RoutesValid.mono_l k).2.2 a b c d)
end
section
variable (l0 : List (S44))
noncomputable def spec_RoutesValid.fL : Option (Bool) := Lim (spec_RoutesValid.f · l0)
theorem spec_RoutesValid.fL_is : LimIs (spec_RoutesValid.f · l0) (spec_RoutesValid.fL l0) := lM (fun k => spec_RoutesValid.mono l0 k)
end
theorem spec_RoutesValid.l0L_eq (a : List (S44)) (b : List (S42)) (c : Int) : spec_RoutesValid.l0L a b c = if c < (a.length : Int) then (if c ≥ 6 then (spec_RoutesValid.j1L a b c true) else (if 0 ≤ c then ((spec_l1In.f ((rd_T44 a c).f0) 0 7).bind fun t132 => (spec_RoutesValid.j1L a b c (!t132))) else (none))) else ((spec_PartitionValid.fL b).bind fun t130 => (some t130)) := by
  refine lU (spec_RoutesValid.l0L_is a b c) (LimIs.step1 (by simp only [spec_RoutesValid.l0]) ?_)
  simp only [spec_RoutesValid.l0]
  repeat' with_reducible first | exact lK _ | exact spec_PartitionValid.fL_is .. | exact spec_RoutesValid.j1L_is .. | apply lI | apply lB | intro _
theorem spec_RoutesValid.j1L_eq (a : List (S44)) (b : List (S42)) (c : Int) (d : Bool) : spec_RoutesValid.j1L a b c d = if d = true then (some false) else (spec_RoutesValid.l1L a b c 0) := by
  refine lU (spec_RoutesValid.j1L_is a b c d) (LimIs.step1 (by simp only [spec_RoutesValid.j1]) ?_)
  simp only [spec_RoutesValid.j1]
  repeat' with_reducible first | exact lK _ | exact spec_RoutesValid.l1L_is .. | apply lI | apply lB | intro _
theorem spec_RoutesValid.l1L_eq (a : List (S44)) (b : List (S42)) (c d : Int) : spec_RoutesValid.l1L a b c d = if d < c then (if 0 ≤ d then (if d < (a.length : Int) then (if 0 ≤ c then (if c < (a.length : Int) then (if ((rd_T44 a d).f0) = ((rd_T44 a c).f0) then (some false) else (spec_RoutesValid.l1L a b c (wrap64 (d + 1)))) else (none)) else (none)) else (none)) else (none)) else (if 0 ≤ c then (if c < (a.length : Int) then (if b.length < 4398046511104 then (spec_RoutesValid.l0L a (b ++ [(⟨(rd_T44 a c).f1.f0, (rd_T44 a c).f1.f1⟩ : S42)]) (wrap64 (c + 1))) else (none)) else (none)) else (none)) := by
  refine lU (spec_RoutesValid.l1L_is a b c d) (LimIs.step1 (by simp only [spec_RoutesValid.l1]) ?_)
  simp only [spec_RoutesValid.l1]
  repeat' with_reducible first | exact lK _ | exact spec_RoutesValid.l0L_is .. | exact spec_RoutesValid.l1L_is .. | apply lI | apply lB | intro _
theorem spec_RoutesValid.fL_eq (l0 : List (S44)) : spec_RoutesValid.fL l0 = spec_RoutesValid.l0L l0 (([] : List (S42))) 0 := by
  refine lU (spec_RoutesValid.fL_is l0) ?_
  unfold spec_RoutesValid.f
  repeat' with_reducible first | exact lK _ | exact spec_RoutesValid.l0L_is .. | apply lI | apply lB | intro _
/-! ### spec_l7Text -/
section
variable (a : Int) (b : ByteArray)
noncomputable def spec_l7Text.l0L : Option (ByteArray) := Lim (spec_l7Text.l0 · a b)
theorem spec_l7Text.l0L_is : LimIs (spec_l7Text.l0 · a b) (spec_l7Text.l0L a b) := lM (fun k => (spec_l7Text.mono_l k) a b)
end
section
variable (a0 : Int)
noncomputable def spec_l7Text.fL : Option (ByteArray) := Lim (spec_l7Text.f · a0)
theorem spec_l7Text.fL_is : LimIs (spec_l7Text.f · a0) (spec_l7Text.fL a0) := lM (fun k => spec_l7Text.mono a0 k)
end
theorem spec_l7Text.l0L_eq (a : Int) (b : ByteArray) : spec_l7Text.l0L a b = if a > 9 then ((some (([(wrap64 (48 + (Int.tmod (wrap64 (Int.tdiv a 10)) 10))) % 256] : List Int) : List Int)).bind fun y142 => (if (strOfNums y142).size + b.size ≤ 9223372036854775807 then (spec_l7Text.l0L (wrap64 (Int.tdiv a 10)) ((strOfNums y142) ++ b)) else (none))) else (some b) := by
  refine lU (spec_l7Text.l0L_is a b) (LimIs.step1 (by simp only [spec_l7Text.l0]) ?_)
  simp only [spec_l7Text.l0]
  repeat' with_reducible first | exact lK _ | exact spec_l7Text.l0L_is .. | apply lI | apply lB | intro _
theorem spec_l7Text.fL_eq (a0 : Int) : spec_l7Text.fL a0 = if a0 < 0 then (some (⟨#[45, 49]⟩ : ByteArray)) else (spec_l7Text.l0L a0 (strOfNums (([(wrap64 (48 + (Int.tmod a0 10))) % 256] : List Int)))) := by
  refine lU (spec_l7Text.fL_is a0) ?_
  unfold spec_l7Text.f
  repeat' with_reducible first | exact lK _ | exact spec_l7Text.l0L_is .. | apply lI | apply lB | intro _
/-! ### spec_RoutesText -/
section
variable (a : List (S44)) (b : ByteArray) (c : Int)
noncomputable def spec_RoutesText.l0L : Option (ByteArray) := Lim (spec_RoutesText.l0 · a b c)
theorem spec_RoutesText.l0L_is : LimIs (spec_RoutesText.l0 · a b c) (spec_RoutesText.l0L a b c) := lM (fun k => (spec_RoutesText.mono_l k).1 a b c)
end
section
variable (a : List (S44)) (b : ByteArray) (c : Int) (d : Bool)
noncomputable def spec_RoutesText.j1L : Option (ByteArray) := Lim (spec_RoutesText.j1 · a b c d)
theorem spec_RoutesText.j1L_is : LimIs (spec_RoutesText.j1 · a b c d) (spec_RoutesText.j1L a b c d) := lM (fun k => (spec_RoutesText.mono_l k).2 a b c d)
end
section
variable (l0 : List (S44))
noncomputable def spec_RoutesText.fL : Option (ByteArray) := Lim (spec_RoutesText.f · l0)
theorem spec_RoutesText.fL_is : LimIs (spec_RoutesText.f · l0) (spec_RoutesText.fL l0) := lM (fun k => spec_RoutesText.mono l0 k)
end
theorem spec_RoutesText.l0L_eq (a : List (S44)) (b : ByteArray) (c : Int) : spec_RoutesText.l0L a b c = if c < (a.length : Int) then ((spec_RoutesValid.fL a).bind fun t145 => (spec_RoutesText.j1L a b c t145)) else (spec_RoutesText.j1L a b c false) := by
  refine lU (spec_RoutesText.l0L_is a b c) (LimIs.step1 (by simp only [spec_RoutesText.l0]) ?_)
  simp only [spec_RoutesText.l0]
  repeat' with_reducible first | exact lK _ | exact spec_RoutesText.j1L_is .. | exact spec_RoutesValid.fL_is .. | apply lI | apply lB | intro _
theorem spec_RoutesText.j1L_eq (a : List (S44)) (b : ByteArray) (c : Int) (d : Bool) : spec_RoutesText.j1L a b c d = if d = true then (if c > 0 then (if b.size + 1 ≤ 9223372036854775807 then (if 0 ≤ c then (if c < (a.length : Int) then ((spec_l7Text.fL ((rd_T44 a c).f0)).bind fun t147 => (if (b ++ (⟨#[32]⟩ : ByteArray)).size + t147.size ≤ 9223372036854775807 then (if ((b ++ (⟨#[32]⟩ : ByteArray)) ++ t147).size + 1 ≤ 9223372036854775807 then (if (((b ++ (⟨#[32]⟩ : ByteArray)) ++ t147) ++ (⟨#[58]⟩ : ByteArray)).size + ((rd_T44 a c).f1.f0).size ≤ 9223372036854775807 then (if ((((b ++ (⟨#[32]⟩ : ByteArray)) ++ t147) ++ (⟨#[58]⟩ : ByteArray)) ++ ((rd_T44 a c).f1.f0)).size + 1 ≤ 9223372036854775807 then (if (((((b ++ (⟨#[32]⟩ : ByteArray)) ++ t147) ++ (⟨#[58]⟩ : ByteArray)) ++ ((rd_T44 a c).f1.f0)) ++ (⟨#[45]⟩ : ByteArray)).size + ((rd_T44 a c).f1.f1).size ≤ 9223372036854775807 then (spec_RoutesText.l0L a ((((((b ++ (⟨#[32]⟩ : ByteArray)) ++ t147) ++ (⟨#[58]⟩ : ByteArray)) ++ ((rd_T44 a c).f1.f0)) ++ (⟨#[45]⟩ : ByteArray)) ++ ((rd_T44 a c).f1.f1)) (wrap64 (c + 1))) else (none)) else (none)) else (none)) else (none)) else (none))) else (none)) else (none)) else (none)) else (if 0 ≤ c then (if c < (a.length : Int) then ((spec_l7Text.fL ((rd_T44 a c).f0)).bind fun t151 => (if b.size + t151.size ≤ 9223372036854775807 then (if (b ++ t151).size + 1 ≤ 9223372036854775807 then (if ((b ++ t151) ++ (⟨#[58]⟩ : ByteArray)).size + ((rd_T44 a c).f1.f0).size ≤ 9223372036854775807 then (if (((b ++ t151) ++ (⟨#[58]⟩ : ByteArray)) ++ ((rd_T44 a c).f1.f0)).size + 1 ≤ 9223372036854775807 then (if ((((b ++ t151) ++ (⟨#[58]⟩ : ByteArray)) ++ ((rd_T44 a c).f1.f0)) ++ (⟨#[45]⟩ : ByteArray)).size + ((rd_T44 a c).f1.f1).size ≤ 9223372036854775807 then (spec_RoutesText.l0L a (((((b ++ t151) ++ (⟨#[58]⟩ : ByteArray)) ++ ((rd_T44 a c).f1.f0)) ++ (⟨#[45]⟩ : ByteArray)) ++ ((rd_T44 a c).f1.f1)) (wrap64 (c + 1))) else (none)) else (none)) else (none)) else (none)) else (none))) else (none)) else (none))) else (some b) := by
  refine lU (spec_RoutesText.j1L_is a b c d) (LimIs.step1 (by simp only [spec_RoutesText.j1]) ?_)
  simp only [spec_RoutesText.j1]
  repeat' with_reducible first | exact lK _ | exact spec_RoutesText.l0L_is .. | exact spec_l7Text.fL_is .. | apply lI | apply lB | intro _
theorem spec_RoutesText.fL_eq (l0 : List (S44)) : spec_RoutesText.fL l0 = spec_RoutesText.l0L l0 (⟨#[]⟩ : ByteArray) 0 := by
  refine lU (spec_RoutesText.fL_is l0) ?_
  unfold spec_RoutesText.f
  repeat' with_reducible first | exact lK _ | exact spec_RoutesText.l0L_is .. | apply lI | apply lB | intro _
/-! ### laws_toRouteS -/
section
variable (a : List (S39)) (b : List (S44)) (c : Int)
noncomputable def laws_toRouteS.l0L : Option ((List (S44))) := Lim (laws_toRouteS.l0 · a b c)
theorem laws_toRouteS.l0L_is : LimIs (laws_toRouteS.l0 · a b c) (laws_toRouteS.l0L a b c) := lM (fun k => (laws_toRouteS.mono_l k) a b c)
end
section
variable (l0 : List (S39))
noncomputable def laws_toRouteS.fL : Option ((List (S44))) := Lim (laws_toRouteS.f · l0)
theorem laws_toRouteS.fL_is : LimIs (laws_toRouteS.f · l0) (laws_toRouteS.fL l0) := lM (fun k => laws_toRouteS.mono l0 k)
end
theorem laws_toRouteS.l0L_eq (a : List (S39)) (b : List (S44)) (c : Int) : laws_toRouteS.l0L a b c = if c < (a.length : Int) then (if 0 ≤ c then ((laws_toRoute.f ((rd_T39 a c).f0) ((rd_T39 a c).f1.f0) ((rd_T39 a c).f1.f1)).bind fun bt166 => (if c < (b.length : Int) then (laws_toRouteS.l0L a (b.set (c : Int).toNat (⟨bt166.1, (⟨bt166.2.1, bt166.2.2⟩ : S42)⟩ : S44)) (wrap64 (c + 1))) else (none))) else (none)) else (some b) := by
  refine lU (laws_toRouteS.l0L_is a b c) (LimIs.step1 (by simp only [laws_toRouteS.l0]) ?_)
  simp only [laws_toRouteS.l0]
  repeat' with_reducible first | exact lK _ | exact laws_toRouteS.l0L_is .. | apply lI | apply lB | intro _
theorem laws_toRouteS.fL_eq (l0 : List (S39)) : laws_toRouteS.fL l0 = if 0 ≤ (l0.length : Int) then (if ((l0.length : Int) : Int).toNat ≤ 7036874417766 then (laws_toRouteS.l0L l0 (List.replicate ((l0.length : Int) : Int).toNat z44) 0) else (none)) else (none) := by
  refine lU (laws_toRouteS.fL_is l0) ?_
  unfold laws_toRouteS.f
  repeat' with_reducible first | exact lK _ | exact laws_toRouteS.l0L_is .. | apply lI | apply lB | intro _
/-! ### impl_lettersOnly -/
section
variable (a0 : ByteArray)
noncomputable def impl_lettersOnly.fL : Option (Bool) := Lim (impl_lettersOnly.f · a0)
theorem impl_lettersOnly.fL_is : LimIs (impl_lettersOnly.f · a0) (impl_lettersOnly.fL a0) := lM (fun k => impl_lettersOnly.mono a0 k)
end
theorem impl_lettersOnly.fL_eq (a0 : ByteArray) : impl_lettersOnly.fL a0 = if a0.toList = ([] : List UInt8) then (some true) else (if 0 < (a0.size : Int) then (if (bt a0 0) ≥ 97 then (if (bt a0 0) ≤ 122 then (if 1 ≤ (a0.size : Int) then ((impl_lettersOnly.fL (a0.extract 1 a0.size)).bind fun t170 => (some t170)) else (none)) else (some false)) else (some false)) else (none)) := by
  refine lU (impl_lettersOnly.fL_is a0) (LimIs.step1 (by simp only [impl_lettersOnly.f]) ?_)
  simp only [impl_lettersOnly.f]
  repeat' with_reducible first | exact lK _ | exact impl_lettersOnly.fL_is .. | apply lI | apply lB | intro _
/-! ### impl_KeyValid -/
section
variable (a0 : ByteArray)
noncomputable def impl_KeyValid.fL : Option (Bool) := Lim (impl_KeyValid.f · a0)
theorem impl_KeyValid.fL_is : LimIs (impl_KeyValid.f · a0) (impl_KeyValid.fL a0) := lM (fun k => impl_KeyValid.mono a0 k)
end
theorem impl_KeyValid.fL_eq (a0 : ByteArray) : impl_KeyValid.fL a0 = if (a0.size : Int) < 1 then (some false) else (if (a0.size : Int) > 4 then (some false) else ((impl_lettersOnly.fL a0).bind fun t171 => (some t171))) := by
  refine lU (impl_KeyValid.fL_is a0) ?_
  unfold impl_KeyValid.f
  repeat' with_reducible first | exact lK _ | exact impl_lettersOnly.fL_is .. | apply lI | apply lB | intro _
/-! ### impl_IntervalValid -/
section
variable (a0_0 a0_1 : ByteArray)
noncomputable def impl_IntervalValid.fL : Option (Bool) := Lim (impl_IntervalValid.f · a0_0 a0_1)
theorem impl_IntervalValid.fL_is : LimIs (impl_IntervalValid.f · a0_0 a0_1) (impl_IntervalValid.fL a0_0 a0_1) := lM (fun k => impl_IntervalValid.mono a0_0 a0_1 k)
end
theorem impl_IntervalValid.fL_eq (a0_0 a0_1 : ByteArray) : impl_IntervalValid.fL a0_0 a0_1 = if a0_0.toList = ([] : List UInt8) then (if a0_1.toList = ([] : List UInt8) then (some true) else ((impl_KeyValid.fL a0_1).bind fun t174 => (if t174 = true then ((impl_lowestKey.f a0_0 a0_1).bind fun t175 => (some (Op.bytesLess t175.toList a0_1.toList))) else (some false)))) else ((impl_KeyValid.fL a0_0).bind fun t176 => (if t176 = true then (if a0_1.toList = ([] : List UInt8) then (some true) else ((impl_KeyValid.fL a0_1).bind fun t177 => (if t177 = true then ((impl_lowestKey.f a0_0 a0_1).bind fun t178 => (some (Op.bytesLess t178.toList a0_1.toList))) else (some false)))) else (some false))) := by
  refine lU (impl_IntervalValid.fL_is a0_0 a0_1) ?_
  unfold impl_IntervalValid.f
  repeat' with_reducible first | exact lK _ | exact impl_KeyValid.fL_is .. | apply lI | apply lB | intro _
/-! ### impl_IntervalJoin -/
section
variable (a0_0 a0_1 a1_0 a1_1 : ByteArray)
noncomputable def impl_IntervalJoin.fL : Option (ByteArray × ByteArray × Bool) := Lim (impl_IntervalJoin.f · a0_0 a0_1 a1_0 a1_1)
theorem impl_IntervalJoin.fL_is : LimIs (impl_IntervalJoin.f · a0_0 a0_1 a1_0 a1_1) (impl_IntervalJoin.fL a0_0 a0_1 a1_0 a1_1) := lM (fun k => impl_IntervalJoin.mono a0_0 a0_1 a1_0 a1_1 k)
end
theorem impl_IntervalJoin.fL_eq (a0_0 a0_1 a1_0 a1_1 : ByteArray) : impl_IntervalJoin.fL a0_0 a0_1 a1_0 a1_1 = (impl_IntervalValid.fL a0_0 a0_1).bind fun t182 => (if t182 = true then ((impl_IntervalValid.fL a1_0 a1_1).bind fun t183 => (if t183 = true then (if a0_1.toList = ([] : List UInt8) then (some ((⟨#[]⟩ : ByteArray), (⟨#[]⟩ : ByteArray), false)) else (if a0_1.toList = a1_0.toList then (some (a0_0, a1_1, true)) else (some ((⟨#[]⟩ : ByteArray), (⟨#[]⟩ : ByteArray), false)))) else (some ((⟨#[]⟩ : ByteArray), (⟨#[]⟩ : ByteArray), false)))) else (some ((⟨#[]⟩ : ByteArray), (⟨#[]⟩ : ByteArray), false))) := by
  refine lU (impl_IntervalJoin.fL_is a0_0 a0_1 a1_0 a1_1) ?_
  unfold impl_IntervalJoin.f
  repeat' with_reducible first | exact lK _ | exact impl_IntervalValid.fL_is .. | apply lI | apply lB | intro _
/-! ### impl_PartitionValid -/
section
variable (a : List (S42)) (b : Bool)
noncomputable def impl_PartitionValid.j0L : Option (Bool) := Lim (impl_PartitionValid.j0 · a b)
theorem impl_PartitionValid.j0L_is : LimIs (impl_PartitionValid.j0 · a b) (impl_PartitionValid.j0L a b) := lM (fun k => (impl_PartitionValid.mono_l k).1 a b)
end
section
variable (a b : List (S42)) (c d : Int)
noncomputable def impl_PartitionValid.l0L : Option (Bool) := Lim (impl_PartitionValid.l0 · a b c d)
theorem impl_PartitionValid.l0L_is : LimIs (impl_PartitionValid.l0 · a b c d) (impl_PartitionValid.l0L a b c d) := lM (fun k => (impl_PartitionValid.mono_l k).2 a b c d)
end
section
variable (l0 : List (S42))
noncomputable def impl_PartitionValid.fL : Option (Bool) := Lim (impl_PartitionValid.f · l0)
theorem impl_PartitionValid.fL_is : LimIs (impl_PartitionValid.f · l0) (impl_PartitionValid.fL l0) := lM (fun k => impl_PartitionValid.mono l0 k)
end
theorem impl_PartitionValid.j0L_eq (a : List (S42)) (b : Bool) : impl_PartitionValid.j0L a b = if b = true then (some false) else (impl_PartitionValid.l0L a a (a.length : Int) 0) := by
  refine lU (impl_PartitionValid.j0L_is a b) (LimIs.step1 (by simp only [impl_PartitionValid.j0]) ?_)
  simp only [impl_PartitionValid.j0]
  repeat' with_reducible first | exact lK _ | exact impl_PartitionValid.l0L_is .. | apply lI | apply lB | intro _
theorem impl_PartitionValid.l0L_eq (a b : List (S42)) (c d : Int) : impl_PartitionValid.l0L a b c d = if d < c then (if 0 ≤ d then (if d < (b.length : Int) then ((impl_IntervalValid.fL ((rd_T42 b d).f0) ((rd_T42 b d).f1)).bind fun t188 => (if t188 = true then (if d > 0 then (if 0 ≤ (wrap64 (d - 1)) then (if (wrap64 (d - 1)) < (a.length : Int) then ((impl_IntervalJoin.fL ((rd_T42 a (wrap64 (d - 1))).f0) ((rd_T42 a (wrap64 (d - 1))).f1) ((rd_T42 b d).f0) ((rd_T42 b d).f1)).bind fun bt190 => (if bt190.2.2 = true then (impl_PartitionValid.l0L a b c (wrap64 (d + 1))) else (some false))) else (none)) else (none)) else (impl_PartitionValid.l0L a b c (wrap64 (d + 1)))) else (some false))) else (none)) else (none)) else (some true) := by
  refine lU (impl_PartitionValid.l0L_is a b c d) (LimIs.step1 (by simp only [impl_PartitionValid.l0]) ?_)
  simp only [impl_PartitionValid.l0]
  repeat' with_reducible first | exact lK _ | exact impl_IntervalJoin.fL_is .. | exact impl_IntervalValid.fL_is .. | exact impl_PartitionValid.l0L_is .. | apply lI | apply lB | intro _
theorem impl_PartitionValid.fL_eq (l0 : List (S42)) : impl_PartitionValid.fL l0 = if (l0.length : Int) < 1 then (impl_PartitionValid.j0L l0 true) else (if (l0.length : Int) > 6 then (impl_PartitionValid.j0L l0 true) else (if 0 < (l0.length : Int) then (if ((rd_T42 l0 0).f0).toList = ([] : List UInt8) then (if 0 ≤ (wrap64 ((l0.length : Int) - 1)) then (if (wrap64 ((l0.length : Int) - 1)) < (l0.length : Int) then (impl_PartitionValid.j0L l0 (((rd_T42 l0 (wrap64 ((l0.length : Int) - 1))).f1).toList != ([] : List UInt8))) else (none)) else (none)) else (impl_PartitionValid.j0L l0 true)) else (none))) := by
  refine lU (impl_PartitionValid.fL_is l0) ?_
  unfold impl_PartitionValid.f
  repeat' with_reducible first | exact lK _ | exact impl_PartitionValid.j0L_is .. | apply lI | apply lB | intro _
/-! ### impl_spansOf -/
section
variable (a : List (S42)) (b : List (S44)) (c d : Int)
noncomputable def impl_spansOf.l0L : Option ((List (S42))) := Lim (impl_spansOf.l0 · a b c d)
theorem impl_spansOf.l0L_is : LimIs (impl_spansOf.l0 · a b c d) (impl_spansOf.l0L a b c d) := lM (fun k => (impl_spansOf.mono_l k) a b c d)
end
section
variable (l0 : List (S44))
noncomputable def impl_spansOf.fL : Option ((List (S42))) := Lim (impl_spansOf.f · l0)
theorem impl_spansOf.fL_is : LimIs (impl_spansOf.f · l0) (impl_spansOf.fL l0) := lM (fun k => impl_spansOf.mono l0 k)
end
theorem impl_spansOf.l0L_eq (a : List (S42)) (b : List (S44)) (c d : Int) : impl_spansOf.l0L a b c d = if d < c then (if 0 ≤ d then (if d < (b.length : Int) then (if a.length < 4398046511104 then (impl_spansOf.l0L (a ++ [(⟨(rd_T44 b d).f1.f0, (rd_T44 b d).f1.f1⟩ : S42)]) b c (wrap64 (d + 1))) else (none)) else (none)) else (none)) else (some a) := by
  refine lU (impl_spansOf.l0L_is a b c d) (LimIs.step1 (by simp only [impl_spansOf.l0]) ?_)
  simp only [impl_spansOf.l0]
  repeat' with_reducible first | exact lK _ | exact impl_spansOf.l0L_is .. | apply lI | apply lB | intro _
theorem impl_spansOf.fL_eq (l0 : List (S44)) : impl_spansOf.fL l0 = impl_spansOf.l0L ([] : List (S42)) l0 (l0.length : Int) 0 := by
  refine lU (impl_spansOf.fL_is l0) ?_
  unfold impl_spansOf.f
  repeat' with_reducible first | exact lK _ | exact impl_spansOf.l0L_is .. | apply lI | apply lB | intro _
/-! ### impl_routePlace -/
section
variable (a : Int) (b : List (S44)) (c d : Int)
noncomputable def impl_routePlace.l0L : Option (Int) := Lim (impl_routePlace.l0 · a b c d)
theorem impl_routePlace.l0L_is : LimIs (impl_routePlace.l0 · a b c d) (impl_routePlace.l0L a b c d) := lM (fun k => (impl_routePlace.mono_l k) a b c d)
end
section
variable (l0 : List (S44)) (a1 : Int)
noncomputable def impl_routePlace.fL : Option (Int) := Lim (impl_routePlace.f · l0 a1)
theorem impl_routePlace.fL_is : LimIs (impl_routePlace.f · l0 a1) (impl_routePlace.fL l0 a1) := lM (fun k => impl_routePlace.mono l0 a1 k)
end
theorem impl_routePlace.l0L_eq (a : Int) (b : List (S44)) (c d : Int) : impl_routePlace.l0L a b c d = if d < c then (if 0 ≤ d then (if d < (b.length : Int) then (if ((rd_T44 b d).f0) = a then (some d) else (impl_routePlace.l0L a b c (wrap64 (d + 1)))) else (none)) else (none)) else (some (-1)) := by
  refine lU (impl_routePlace.l0L_is a b c d) (LimIs.step1 (by simp only [impl_routePlace.l0]) ?_)
  simp only [impl_routePlace.l0]
  repeat' with_reducible first | exact lK _ | exact impl_routePlace.l0L_is .. | apply lI | apply lB | intro _
theorem impl_routePlace.fL_eq (l0 : List (S44)) (a1 : Int) : impl_routePlace.fL l0 a1 = impl_routePlace.l0L a1 l0 (l0.length : Int) 0 := by
  refine lU (impl_routePlace.fL_is l0 a1) ?_
  unfold impl_routePlace.f
  repeat' with_reducible first | exact lK _ | exact impl_routePlace.l0L_is .. | apply lI | apply lB | intro _
/-! ### impl_numbersDiffer -/
section
variable (a b : List (S44)) (c d : Int)
noncomputable def impl_numbersDiffer.l0L : Option (Bool) := Lim (impl_numbersDiffer.l0 · a b c d)
theorem impl_numbersDiffer.l0L_is : LimIs (impl_numbersDiffer.l0 · a b c d) (impl_numbersDiffer.l0L a b c d) := lM (fun k => (impl_numbersDiffer.mono_l k) a b c d)
end
section
variable (l0 : List (S44))
noncomputable def impl_numbersDiffer.fL : Option (Bool) := Lim (impl_numbersDiffer.f · l0)
theorem impl_numbersDiffer.fL_is : LimIs (impl_numbersDiffer.f · l0) (impl_numbersDiffer.fL l0) := lM (fun k => impl_numbersDiffer.mono l0 k)
end
theorem impl_numbersDiffer.l0L_eq (a b : List (S44)) (c d : Int) : impl_numbersDiffer.l0L a b c d = if d < c then (if 0 ≤ d then (if d < (b.length : Int) then ((impl_shardNumber.f ((rd_T44 b d).f0)).bind fun t203 => (if t203 = true then (if d ≤ (a.length : Int) then ((impl_routePlace.fL (a.take (d : Int).toNat) ((rd_T44 b d).f0)).bind fun t208 => (if t208 ≥ 0 then (some false) else (impl_numbersDiffer.l0L a b c (wrap64 (d + 1))))) else (none)) else (some false))) else (none)) else (none)) else (some true) := by
  refine lU (impl_numbersDiffer.l0L_is a b c d) (LimIs.step1 (by simp only [impl_numbersDiffer.l0]) ?_)
  simp only [impl_numbersDiffer.l0]
  repeat' with_reducible first | exact lK _ | exact impl_numbersDiffer.l0L_is .. | exact impl_routePlace.fL_is .. | apply lI | apply lB | intro _
theorem impl_numbersDiffer.fL_eq (l0 : List (S44)) : impl_numbersDiffer.fL l0 = impl_numbersDiffer.l0L l0 l0 (l0.length : Int) 0 := by
  refine lU (impl_numbersDiffer.fL_is l0) ?_
  unfold impl_numbersDiffer.f
  repeat' with_reducible first | exact lK _ | exact impl_numbersDiffer.l0L_is .. | apply lI | apply lB | intro _
/-! ### impl_RoutesValid -/
section
variable (l0 : List (S44))
noncomputable def impl_RoutesValid.fL : Option (Bool) := Lim (impl_RoutesValid.f · l0)
theorem impl_RoutesValid.fL_is : LimIs (impl_RoutesValid.f · l0) (impl_RoutesValid.fL l0) := lM (fun k => impl_RoutesValid.mono l0 k)
end
theorem impl_RoutesValid.fL_eq (l0 : List (S44)) : impl_RoutesValid.fL l0 = if (l0.length : Int) ≤ 6 then ((impl_spansOf.fL l0).bind fun t209 => ((impl_PartitionValid.fL t209).bind fun t212 => (if t212 = true then ((impl_numbersDiffer.fL l0).bind fun t213 => (some t213)) else (some false)))) else (some false) := by
  refine lU (impl_RoutesValid.fL_is l0) ?_
  unfold impl_RoutesValid.f
  repeat' with_reducible first | exact lK _ | exact impl_PartitionValid.fL_is .. | exact impl_numbersDiffer.fL_is .. | exact impl_spansOf.fL_is .. | apply lI | apply lB | intro _
/-! ### impl_RoutesText -/
section
variable (a : List ByteArray) (b : List (S44)) (c d : Int)
noncomputable def impl_RoutesText.l0L : Option (ByteArray) := Lim (impl_RoutesText.l0 · a b c d)
theorem impl_RoutesText.l0L_is : LimIs (impl_RoutesText.l0 · a b c d) (impl_RoutesText.l0L a b c d) := lM (fun k => (impl_RoutesText.mono_l k) a b c d)
end
section
variable (l0 : List (S44))
noncomputable def impl_RoutesText.fL : Option (ByteArray) := Lim (impl_RoutesText.f · l0)
theorem impl_RoutesText.fL_is : LimIs (impl_RoutesText.f · l0) (impl_RoutesText.fL l0) := lM (fun k => impl_RoutesText.mono l0 k)
end
theorem impl_RoutesText.l0L_eq (a : List ByteArray) (b : List (S44)) (c d : Int) : impl_RoutesText.l0L a b c d = if d < c then (if 0 ≤ d then (if d < (b.length : Int) then ((strconv_Itoa.f ((rd_T44 b d).f0)).bind fun t217 => (if t217.size + 1 ≤ 9223372036854775807 then (if (t217 ++ (⟨#[58]⟩ : ByteArray)).size + ((rd_T44 b d).f1.f0).size ≤ 9223372036854775807 then (if ((t217 ++ (⟨#[58]⟩ : ByteArray)) ++ ((rd_T44 b d).f1.f0)).size + 1 ≤ 9223372036854775807 then (if (((t217 ++ (⟨#[58]⟩ : ByteArray)) ++ ((rd_T44 b d).f1.f0)) ++ (⟨#[45]⟩ : ByteArray)).size + ((rd_T44 b d).f1.f1).size ≤ 9223372036854775807 then (if a.length < 8796093022208 then (impl_RoutesText.l0L (a ++ [(((t217 ++ (⟨#[58]⟩ : ByteArray)) ++ ((rd_T44 b d).f1.f0)) ++ (⟨#[45]⟩ : ByteArray)) ++ ((rd_T44 b d).f1.f1)]) b c (wrap64 (d + 1))) else (none)) else (none)) else (none)) else (none)) else (none))) else (none)) else (none)) else ((strings_Join.f a (⟨#[32]⟩ : ByteArray)).bind fun t221 => (some t221)) := by
  refine lU (impl_RoutesText.l0L_is a b c d) (LimIs.step1 (by simp only [impl_RoutesText.l0]) ?_)
  simp only [impl_RoutesText.l0]
  repeat' with_reducible first | exact lK _ | exact impl_RoutesText.l0L_is .. | apply lI | apply lB | intro _
theorem impl_RoutesText.fL_eq (l0 : List (S44)) : impl_RoutesText.fL l0 = (impl_RoutesValid.fL l0).bind fun t214 => (if t214 = true then (impl_RoutesText.l0L ([] : List ByteArray) l0 (l0.length : Int) 0) else (some (⟨#[]⟩ : ByteArray))) := by
  refine lU (impl_RoutesText.fL_is l0) ?_
  unfold impl_RoutesText.f
  repeat' with_reducible first | exact lK _ | exact impl_RoutesText.l0L_is .. | exact impl_RoutesValid.fL_is .. | apply lI | apply lB | intro _
/-! ### laws_eqRouteS -/
section
variable (a b : List (S44)) (c : Int)
noncomputable def laws_eqRouteS.l0L : Option (Bool) := Lim (laws_eqRouteS.l0 · a b c)
theorem laws_eqRouteS.l0L_is : LimIs (laws_eqRouteS.l0 · a b c) (laws_eqRouteS.l0L a b c) := lM (fun k => (laws_eqRouteS.mono_l k) a b c)
end
section
variable (l0 l1 : List (S44))
noncomputable def laws_eqRouteS.fL : Option (Bool) := Lim (laws_eqRouteS.f · l0 l1)
theorem laws_eqRouteS.fL_is : LimIs (laws_eqRouteS.f · l0 l1) (laws_eqRouteS.fL l0 l1) := lM (fun k => laws_eqRouteS.mono l0 l1 k)
end
theorem laws_eqRouteS.l0L_eq (a b : List (S44)) (c : Int) : laws_eqRouteS.l0L a b c = if c < (a.length : Int) then (if 0 ≤ c then (if c < (b.length : Int) then ((laws_eqRoute.f ((rd_T44 a c).f0) ((rd_T44 a c).f1.f0) ((rd_T44 a c).f1.f1) ((rd_T44 b c).f0) ((rd_T44 b c).f1.f0) ((rd_T44 b c).f1.f1)).bind fun t229 => (if t229 = true then (laws_eqRouteS.l0L a b (wrap64 (c + 1))) else (some false))) else (none)) else (none)) else (some true) := by
  refine lU (laws_eqRouteS.l0L_is a b c) (LimIs.step1 (by simp only [laws_eqRouteS.l0]) ?_)
  simp only [laws_eqRouteS.l0]
  repeat' with_reducible first | exact lK _ | exact laws_eqRouteS.l0L_is .. | apply lI | apply lB | intro _
theorem laws_eqRouteS.fL_eq (l0 l1 : List (S44)) : laws_eqRouteS.fL l0 l1 = if (l0.length : Int) = (l1.length : Int) then (laws_eqRouteS.l0L l0 l1 0) else (some false) := by
  refine lU (laws_eqRouteS.fL_is l0 l1) ?_
  unfold laws_eqRouteS.f
  repeat' with_reducible first | exact lK _ | exact laws_eqRouteS.l0L_is .. | apply lI | apply lB | intro _
/-! ### laws_FnExactRoutesText -/
section
variable (l0 : List (S39))
noncomputable def laws_FnExactRoutesText.fL : Option (Bool) := Lim (laws_FnExactRoutesText.f · l0)
theorem laws_FnExactRoutesText.fL_is : LimIs (laws_FnExactRoutesText.f · l0) (laws_FnExactRoutesText.fL l0) := lM (fun k => laws_FnExactRoutesText.mono l0 k)
end
theorem laws_FnExactRoutesText.fL_eq (l0 : List (S39)) : laws_FnExactRoutesText.fL l0 = (laws_szRouteS.fL l0 1048576).bind fun t230 => (if t230 < 0 then (some true) else ((laws_toRouteS.fL l0).bind fun t231 => ((spec_RoutesText.fL t231).bind fun t234 => ((laws_toRouteS.fL l0).bind fun t235 => ((impl_RoutesText.fL t235).bind fun t238 => (if t238.toList = t234.toList then ((laws_toRouteS.fL l0).bind fun t239 => ((laws_eqRouteS.fL t235 t239).bind fun t242 => (if t242 = true then (some true) else (some false)))) else (some false))))))) := by
  refine lU (laws_FnExactRoutesText.fL_is l0) ?_
  unfold laws_FnExactRoutesText.f
  repeat' with_reducible first | exact lK _ | exact impl_RoutesText.fL_is .. | exact laws_eqRouteS.fL_is .. | exact laws_szRouteS.fL_is .. | exact laws_toRouteS.fL_is .. | exact spec_RoutesText.fL_is .. | apply lI | apply lB | intro _
end Go.Proofs.YtcciackemicbbaaDoor.PFnExactRoutesText
