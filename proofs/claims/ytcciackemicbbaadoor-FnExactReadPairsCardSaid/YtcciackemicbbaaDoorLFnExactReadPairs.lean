/- The limits of the printed functions, and their equations. Written by lim.py out of the print. No condition. -/
import Derived.Test.YtcciackemicbbaaDoorPFnExactReadPairsx4
import Derived.Test.YtcciackemicbbaaDoorLim
namespace Go.Proofs.YtcciackemicbbaaDoor.PFnExactReadPairs
open Go.RowKit Go.Proofs.YtcciackemicbbaaDoorW.PrintWords Go.Proofs.YtcciackemicbbaaDoorW.PrintLast Go.Proofs.YtcciackemicbbaaDoorW.PrintMore Go.Proofs.YtcciackemicbbaaDoor.Lim
set_option linter.unusedVariables false

/-! ### spec_l7Words -/
section
variable (a : ByteArray) (b : List ByteArray) (c : Int)
noncomputable def spec_l7Words.l0L : Option (List ByteArray) := Lim (spec_l7Words.l0 · a b c)
theorem spec_l7Words.l0L_is : LimIs (spec_l7Words.l0 · a b c) (spec_l7Words.l0L a b c) := lM (fun k => (spec_l7Words.mono_l k) a b c)
end
section
variable (a0 : ByteArray)
noncomputable def spec_l7Words.fL : Option (List ByteArray) := Lim (spec_l7Words.f · a0)
theorem spec_l7Words.fL_is : LimIs (spec_l7Words.f · a0) (spec_l7Words.fL a0) := lM (fun k => spec_l7Words.mono a0 k)
end
theorem spec_l7Words.l0L_eq (a : ByteArray) (b : List ByteArray) (c : Int) : spec_l7Words.l0L a b c = if c < (a.size : Int) then (if 0 ≤ c then (if (bt a c) = 32 then (if b.length < 8796093022208 then (spec_l7Words.l0L a (b ++ [(⟨#[]⟩ : ByteArray)]) (wrap64 (c + 1))) else (none)) else (if 0 ≤ (wrap64 ((b.length : Int) - 1)) then (if (wrap64 ((b.length : Int) - 1)) < (b.length : Int) then (if c ≤ (wrap64 (c + 1)) then (if (wrap64 (c + 1)) ≤ (a.size : Int) then (if (rdOf ByteArray.empty b (wrap64 ((b.length : Int) - 1))).size + (a.extract (c : Int).toNat ((wrap64 (c + 1)) : Int).toNat).size ≤ 9223372036854775807 then (spec_l7Words.l0L a (b.set ((wrap64 ((b.length : Int) - 1)) : Int).toNat ((rdOf ByteArray.empty b (wrap64 ((b.length : Int) - 1))) ++ (a.extract (c : Int).toNat ((wrap64 (c + 1)) : Int).toNat))) (wrap64 (c + 1))) else (none)) else (none)) else (none)) else (none)) else (none))) else (none)) else (some b) := by
  refine lU (spec_l7Words.l0L_is a b c) (LimIs.step1 (by simp only [spec_l7Words.l0]) ?_)
  simp only [spec_l7Words.l0]
  repeat' with_reducible first | exact lK _ | exact spec_l7Words.l0L_is .. | apply lI | apply lB | intro _
theorem spec_l7Words.fL_eq (a0 : ByteArray) : spec_l7Words.fL a0 = spec_l7Words.l0L a0 (([(⟨#[]⟩ : ByteArray)] : List ByteArray)) 0 := by
  refine lU (spec_l7Words.fL_is a0) ?_
  unfold spec_l7Words.f
  repeat' with_reducible first | exact lK _ | exact spec_l7Words.l0L_is .. | apply lI | apply lB | intro _
/-! ### spec_l41Split -/
section
variable (a : ByteArray) (b c : Int)
noncomputable def spec_l41Split.l0L : Option (ByteArray × ByteArray × Bool) := Lim (spec_l41Split.l0 · a b c)
theorem spec_l41Split.l0L_is : LimIs (spec_l41Split.l0 · a b c) (spec_l41Split.l0L a b c) := lM (fun k => (spec_l41Split.mono_l k) a b c)
end
section
variable (a0 : ByteArray) (a1 : Int)
noncomputable def spec_l41Split.fL : Option (ByteArray × ByteArray × Bool) := Lim (spec_l41Split.f · a0 a1)
theorem spec_l41Split.fL_is : LimIs (spec_l41Split.f · a0 a1) (spec_l41Split.fL a0 a1) := lM (fun k => spec_l41Split.mono a0 a1 k)
end
theorem spec_l41Split.l0L_eq (a : ByteArray) (b c : Int) : spec_l41Split.l0L a b c = if c < (a.size : Int) then (if 0 ≤ c then (if (bt a c) = b then (if c ≤ (a.size : Int) then (if 0 ≤ (wrap64 (c + 1)) then (if (wrap64 (c + 1)) ≤ (a.size : Int) then (some (a.extract 0 (c : Int).toNat, a.extract ((wrap64 (c + 1)) : Int).toNat a.size, true)) else (none)) else (none)) else (none)) else (spec_l41Split.l0L a b (wrap64 (c + 1)))) else (none)) else (some (a, (⟨#[]⟩ : ByteArray), false)) := by
  refine lU (spec_l41Split.l0L_is a b c) (LimIs.step1 (by simp only [spec_l41Split.l0]) ?_)
  simp only [spec_l41Split.l0]
  repeat' with_reducible first | exact lK _ | exact spec_l41Split.l0L_is .. | apply lI | apply lB | intro _
theorem spec_l41Split.fL_eq (a0 : ByteArray) (a1 : Int) : spec_l41Split.fL a0 a1 = spec_l41Split.l0L a0 a1 0 := by
  refine lU (spec_l41Split.fL_is a0 a1) ?_
  unfold spec_l41Split.f
  repeat' with_reducible first | exact lK _ | exact spec_l41Split.l0L_is .. | apply lI | apply lB | intro _
/-! ### spec_l7Number -/
section
variable (a : ByteArray) (b c : Int)
noncomputable def spec_l7Number.l0L : Option (Int) := Lim (spec_l7Number.l0 · a b c)
theorem spec_l7Number.l0L_is : LimIs (spec_l7Number.l0 · a b c) (spec_l7Number.l0L a b c) := lM (fun k => (spec_l7Number.mono_l k) a b c)
end
section
variable (a0 : ByteArray)
noncomputable def spec_l7Number.fL : Option (Int) := Lim (spec_l7Number.f · a0)
theorem spec_l7Number.fL_is : LimIs (spec_l7Number.f · a0) (spec_l7Number.fL a0) := lM (fun k => spec_l7Number.mono a0 k)
end
theorem spec_l7Number.l0L_eq (a : ByteArray) (b c : Int) : spec_l7Number.l0L a b c = if c < (a.size : Int) then (if 0 ≤ c then (if (bt a c) < 48 then (some (-1)) else (if (bt a c) > 57 then (some (-1)) else (spec_l7Number.l0L a (wrap64 ((wrap64 (10 * b)) + (((bt a c) - 48) % 256))) (wrap64 (c + 1))))) else (none)) else (some b) := by
  refine lU (spec_l7Number.l0L_is a b c) (LimIs.step1 (by simp only [spec_l7Number.l0]) ?_)
  simp only [spec_l7Number.l0]
  repeat' with_reducible first | exact lK _ | exact spec_l7Number.l0L_is .. | apply lI | apply lB | intro _
theorem spec_l7Number.fL_eq (a0 : ByteArray) : spec_l7Number.fL a0 = (spec_l1In.f (a0.size : Int) 1 4).bind fun t109 => (if t109 = true then (spec_l7Number.l0L a0 0 0) else (some (-1))) := by
  refine lU (spec_l7Number.fL_is a0) ?_
  unfold spec_l7Number.f
  repeat' with_reducible first | exact lK _ | exact spec_l7Number.l0L_is .. | apply lI | apply lB | intro _
/-! ### spec_l7Text -/
section
variable (a : Int) (b : ByteArray)
noncomputable def spec_l7Text.l0L : Option (ByteArray) := Lim (spec_l7Text.l0 · a b)
theorem spec_l7Text.l0L_is : LimIs (spec_l7Text.l0 · a b) (spec_l7Text.l0L a b) := lM (fun k => (spec_l7Text.mono_l k) a b)
end
section
variable (a0 : Int)
noncomputable def spec_l7Text.fL : Option (ByteArray) := Lim (spec_l7Text.f · a0)
theorem spec_l7Text.fL_is : LimIs (spec_l7Text.f · a0) (spec_l7Text.fL a0) := lM (fun k => spec_l7Text.mono a0 k)
end
theorem spec_l7Text.l0L_eq (a : Int) (b : ByteArray) : spec_l7Text.l0L a b = if a > 9 then ((some (([(wrap64 (48 + (Int.tmod (wrap64 (Int.tdiv a 10)) 10))) % 256] : List Int) : List Int)).bind fun y113 => (if (strOfNums y113).size + b.size ≤ 9223372036854775807 then (spec_l7Text.l0L (wrap64 (Int.tdiv a 10)) ((strOfNums y113) ++ b)) else (none))) else (some b) := by
  refine lU (spec_l7Text.l0L_is a b) (LimIs.step1 (by simp only [spec_l7Text.l0]) ?_)
  simp only [spec_l7Text.l0]
  repeat' with_reducible first | exact lK _ | exact spec_l7Text.l0L_is .. | apply lI | apply lB | intro _
theorem spec_l7Text.fL_eq (a0 : Int) : spec_l7Text.fL a0 = if a0 < 0 then (some (⟨#[45, 49]⟩ : ByteArray)) else (spec_l7Text.l0L a0 (strOfNums (([(wrap64 (48 + (Int.tmod a0 10))) % 256] : List Int)))) := by
  refine lU (spec_l7Text.fL_is a0) ?_
  unfold spec_l7Text.f
  repeat' with_reducible first | exact lK _ | exact spec_l7Text.l0L_is .. | apply lI | apply lB | intro _
/-! ### spec_KeyValid -/
section
variable (a : ByteArray) (b : Int)
noncomputable def spec_KeyValid.l0L : Option (Bool) := Lim (spec_KeyValid.l0 · a b)
theorem spec_KeyValid.l0L_is : LimIs (spec_KeyValid.l0 · a b) (spec_KeyValid.l0L a b) := lM (fun k => (spec_KeyValid.mono_l k) a b)
end
section
variable (a0 : ByteArray)
noncomputable def spec_KeyValid.fL : Option (Bool) := Lim (spec_KeyValid.f · a0)
theorem spec_KeyValid.fL_is : LimIs (spec_KeyValid.f · a0) (spec_KeyValid.fL a0) := lM (fun k => spec_KeyValid.mono a0 k)
end
theorem spec_KeyValid.l0L_eq (a : ByteArray) (b : Int) : spec_KeyValid.l0L a b = if b < (a.size : Int) then (if 0 ≤ b then (if (bt a b) < 97 then (some false) else (if (bt a b) > 122 then (some false) else (spec_KeyValid.l0L a (wrap64 (b + 1))))) else (none)) else (some true) := by
  refine lU (spec_KeyValid.l0L_is a b) (LimIs.step1 (by simp only [spec_KeyValid.l0]) ?_)
  simp only [spec_KeyValid.l0]
  repeat' with_reducible first | exact lK _ | exact spec_KeyValid.l0L_is .. | apply lI | apply lB | intro _
theorem spec_KeyValid.fL_eq (a0 : ByteArray) : spec_KeyValid.fL a0 = (spec_l1In.f (a0.size : Int) 1 4).bind fun t116 => (if t116 = true then (spec_KeyValid.l0L a0 0) else (some false)) := by
  refine lU (spec_KeyValid.fL_is a0) ?_
  unfold spec_KeyValid.f
  repeat' with_reducible first | exact lK _ | exact spec_KeyValid.l0L_is .. | apply lI | apply lB | intro _
/-! ### spec_PairsValid -/
section
variable (a : List (S54)) (b : Int)
noncomputable def spec_PairsValid.l0L : Option (Bool) := Lim (spec_PairsValid.l0 · a b)
theorem spec_PairsValid.l0L_is : LimIs (spec_PairsValid.l0 · a b) (spec_PairsValid.l0L a b) := lM (fun k => (spec_PairsValid.mono_l k) a b)
end
section
variable (l0 : List (S54))
noncomputable def spec_PairsValid.fL : Option (Bool) := Lim (spec_PairsValid.f · l0)
theorem spec_PairsValid.fL_is : LimIs (spec_PairsValid.f · l0) (spec_PairsValid.fL l0) := lM (fun k => spec_PairsValid.mono l0 k)
end
theorem spec_PairsValid.l0L_eq (a : List (S54)) (b : Int) : spec_PairsValid.l0L a b = if b < (a.length : Int) then (if 0 ≤ b then ((spec_KeyValid.fL ((rd_T54 a b).f0)).bind fun t118 => (if t118 = true then ((spec_l1In.f ((rd_T54 a b).f1) 0 999).bind fun t120 => (if t120 = true then (if b > 0 then (if 0 ≤ (wrap64 (b - 1)) then (if (wrap64 (b - 1)) < (a.length : Int) then (if ((Op.bytesLess (((rd_T54 a (wrap64 (b - 1))).f0).toList) (((rd_T54 a b).f0).toList)) = true) then (spec_PairsValid.l0L a (wrap64 (b + 1))) else (some false)) else (none)) else (none)) else (spec_PairsValid.l0L a (wrap64 (b + 1)))) else (some false))) else (some false))) else (none)) else (some true) := by
  refine lU (spec_PairsValid.l0L_is a b) (LimIs.step1 (by simp only [spec_PairsValid.l0]) ?_)
  simp only [spec_PairsValid.l0]
  repeat' with_reducible first | exact lK _ | exact spec_KeyValid.fL_is .. | exact spec_PairsValid.l0L_is .. | apply lI | apply lB | intro _
theorem spec_PairsValid.fL_eq (l0 : List (S54)) : spec_PairsValid.fL l0 = if (l0.length : Int) > 48 then (some false) else (spec_PairsValid.l0L l0 0) := by
  refine lU (spec_PairsValid.fL_is l0) ?_
  unfold spec_PairsValid.f
  repeat' with_reducible first | exact lK _ | exact spec_PairsValid.l0L_is .. | apply lI | apply lB | intro _
/-! ### spec_PairsText -/
section
variable (a : List (S54)) (b : ByteArray) (c : Int)
noncomputable def spec_PairsText.l0L : Option (ByteArray) := Lim (spec_PairsText.l0 · a b c)
theorem spec_PairsText.l0L_is : LimIs (spec_PairsText.l0 · a b c) (spec_PairsText.l0L a b c) := lM (fun k => (spec_PairsText.mono_l k).1 a b c)
end
section
variable (a : List (S54)) (b : ByteArray) (c : Int) (d : Bool)
noncomputable def spec_PairsText.j1L : Option (ByteArray) := Lim (spec_PairsText.j1 · a b c d)
theorem spec_PairsText.j1L_is : LimIs (spec_PairsText.j1 · a b c d) (spec_PairsText.j1L a b c d) := lM (fun k => (spec_PairsText.mono_l k).2 a b c d)
end
section
variable (l0 : List (S54))
noncomputable def spec_PairsText.fL : Option (ByteArray) := Lim (spec_PairsText.f · l0)
theorem spec_PairsText.fL_is : LimIs (spec_PairsText.f · l0) (spec_PairsText.fL l0) := lM (fun k => spec_PairsText.mono l0 k)
end
theorem spec_PairsText.l0L_eq (a : List (S54)) (b : ByteArray) (c : Int) : spec_PairsText.l0L a b c = if c < (a.length : Int) then ((spec_PairsValid.fL a).bind fun t123 => (spec_PairsText.j1L a b c t123)) else (spec_PairsText.j1L a b c false) := by
  refine lU (spec_PairsText.l0L_is a b c) (LimIs.step1 (by simp only [spec_PairsText.l0]) ?_)
  simp only [spec_PairsText.l0]
  repeat' with_reducible first | exact lK _ | exact spec_PairsText.j1L_is .. | exact spec_PairsValid.fL_is .. | apply lI | apply lB | intro _
theorem spec_PairsText.j1L_eq (a : List (S54)) (b : ByteArray) (c : Int) (d : Bool) : spec_PairsText.j1L a b c d = if d = true then (if c > 0 then (if b.size + 1 ≤ 9223372036854775807 then (if 0 ≤ c then (if c < (a.length : Int) then (if (b ++ (⟨#[32]⟩ : ByteArray)).size + ((rd_T54 a c).f0).size ≤ 9223372036854775807 then (if ((b ++ (⟨#[32]⟩ : ByteArray)) ++ ((rd_T54 a c).f0)).size + 1 ≤ 9223372036854775807 then ((spec_l7Text.fL ((rd_T54 a c).f1)).bind fun t126 => (if (((b ++ (⟨#[32]⟩ : ByteArray)) ++ ((rd_T54 a c).f0)) ++ (⟨#[61]⟩ : ByteArray)).size + t126.size ≤ 9223372036854775807 then (spec_PairsText.l0L a ((((b ++ (⟨#[32]⟩ : ByteArray)) ++ ((rd_T54 a c).f0)) ++ (⟨#[61]⟩ : ByteArray)) ++ t126) (wrap64 (c + 1))) else (none))) else (none)) else (none)) else (none)) else (none)) else (none)) else (if 0 ≤ c then (if c < (a.length : Int) then (if b.size + ((rd_T54 a c).f0).size ≤ 9223372036854775807 then (if (b ++ ((rd_T54 a c).f0)).size + 1 ≤ 9223372036854775807 then ((spec_l7Text.fL ((rd_T54 a c).f1)).bind fun t129 => (if ((b ++ ((rd_T54 a c).f0)) ++ (⟨#[61]⟩ : ByteArray)).size + t129.size ≤ 9223372036854775807 then (spec_PairsText.l0L a (((b ++ ((rd_T54 a c).f0)) ++ (⟨#[61]⟩ : ByteArray)) ++ t129) (wrap64 (c + 1))) else (none))) else (none)) else (none)) else (none)) else (none))) else (some b) := by
  refine lU (spec_PairsText.j1L_is a b c d) (LimIs.step1 (by simp only [spec_PairsText.j1]) ?_)
  simp only [spec_PairsText.j1]
  repeat' with_reducible first | exact lK _ | exact spec_PairsText.l0L_is .. | exact spec_l7Text.fL_is .. | apply lI | apply lB | intro _
theorem spec_PairsText.fL_eq (l0 : List (S54)) : spec_PairsText.fL l0 = spec_PairsText.l0L l0 (⟨#[]⟩ : ByteArray) 0 := by
  refine lU (spec_PairsText.fL_is l0) ?_
  unfold spec_PairsText.f
  repeat' with_reducible first | exact lK _ | exact spec_PairsText.l0L_is .. | apply lI | apply lB | intro _
/-! ### spec_ReadPairs -/
section
variable (a : ByteArray) (b : List (S54)) (c : List ByteArray) (d : Int)
noncomputable def spec_ReadPairs.l0L : Option ((List (S54)) × Bool) := Lim (spec_ReadPairs.l0 · a b c d)
theorem spec_ReadPairs.l0L_is : LimIs (spec_ReadPairs.l0 · a b c d) (spec_ReadPairs.l0L a b c d) := lM (fun k => (spec_ReadPairs.mono_l k).1 a b c d)
end
section
variable (a : ByteArray) (b : List (S54)) (c : List ByteArray) (d : Int) (e : Bool)
noncomputable def spec_ReadPairs.j1L : Option ((List (S54)) × Bool) := Lim (spec_ReadPairs.j1 · a b c d e)
theorem spec_ReadPairs.j1L_is : LimIs (spec_ReadPairs.j1 · a b c d e) (spec_ReadPairs.j1L a b c d e) := lM (fun k => (spec_ReadPairs.mono_l k).2 a b c d e)
end
section
variable (a0 : ByteArray)
noncomputable def spec_ReadPairs.fL : Option ((List (S54)) × Bool) := Lim (spec_ReadPairs.f · a0)
theorem spec_ReadPairs.fL_is : LimIs (spec_ReadPairs.f · a0) (spec_ReadPairs.fL a0) := lM (fun k => spec_ReadPairs.mono a0 k)
end
theorem spec_ReadPairs.l0L_eq (a : ByteArray) (b : List (S54)) (c : List ByteArray) (d : Int) : spec_ReadPairs.l0L a b c d = if d < (c.length : Int) then (if a.toList = ([] : List UInt8) then (spec_ReadPairs.j1L a b c d false) else (spec_ReadPairs.j1L a b c d (decide (d ≤ 48)))) else (spec_ReadPairs.j1L a b c d false) := by
  refine lU (spec_ReadPairs.l0L_is a b c d) (LimIs.step1 (by simp only [spec_ReadPairs.l0]) ?_)
  simp only [spec_ReadPairs.l0]
  repeat' with_reducible first | exact lK _ | exact spec_ReadPairs.j1L_is .. | apply lI | apply lB | intro _
theorem spec_ReadPairs.j1L_eq (a : ByteArray) (b : List (S54)) (c : List ByteArray) (d : Int) (e : Bool) : spec_ReadPairs.j1L a b c d e = if e = true then (if 0 ≤ d then (if d < (c.length : Int) then ((spec_l41Split.fL (rdOf ByteArray.empty c d) 61).bind fun bt137 => ((spec_l7Number.fL bt137.2.1).bind fun t140 => (if b.length < 5864062014805 then (spec_ReadPairs.l0L a (b ++ [(⟨bt137.1, t140⟩ : S54)]) c (wrap64 (d + 1))) else (none)))) else (none)) else (none)) else ((spec_PairsText.fL b).bind fun t144 => (if t144.toList = a.toList then (some (b, true)) else (some ((([] : List (S54))), false)))) := by
  refine lU (spec_ReadPairs.j1L_is a b c d e) (LimIs.step1 (by simp only [spec_ReadPairs.j1]) ?_)
  simp only [spec_ReadPairs.j1]
  repeat' with_reducible first | exact lK _ | exact spec_PairsText.fL_is .. | exact spec_ReadPairs.l0L_is .. | exact spec_l41Split.fL_is .. | exact spec_l7Number.fL_is .. | apply lI | apply lB | intro _
theorem spec_ReadPairs.fL_eq (a0 : ByteArray) : spec_ReadPairs.fL a0 = (spec_l7Words.fL a0).bind fun t133 => (spec_ReadPairs.l0L a0 (([] : List (S54))) t133 0) := by
  refine lU (spec_ReadPairs.fL_is a0) ?_
  unfold spec_ReadPairs.f
  repeat' with_reducible first | exact lK _ | exact spec_ReadPairs.l0L_is .. | exact spec_l7Words.fL_is .. | apply lI | apply lB | intro _
/-! ### impl_lettersOnly -/
section
variable (a0 : ByteArray)
noncomputable def impl_lettersOnly.fL : Option (Bool) := Lim (impl_lettersOnly.f · a0)
theorem impl_lettersOnly.fL_is : LimIs (impl_lettersOnly.f · a0) (impl_lettersOnly.fL a0) := lM (fun k => impl_lettersOnly.mono a0 k)
end
theorem impl_lettersOnly.fL_eq (a0 : ByteArray) : impl_lettersOnly.fL a0 = if a0.toList = ([] : List UInt8) then (some true) else (if 0 < (a0.size : Int) then (if (bt a0 0) ≥ 97 then (if (bt a0 0) ≤ 122 then (if 1 ≤ (a0.size : Int) then ((impl_lettersOnly.fL (a0.extract 1 a0.size)).bind fun t151 => (some t151)) else (none)) else (some false)) else (some false)) else (none)) := by
  refine lU (impl_lettersOnly.fL_is a0) (LimIs.step1 (by simp only [impl_lettersOnly.f]) ?_)
  simp only [impl_lettersOnly.f]
  repeat' with_reducible first | exact lK _ | exact impl_lettersOnly.fL_is .. | apply lI | apply lB | intro _
/-! ### impl_KeyValid -/
section
variable (a0 : ByteArray)
noncomputable def impl_KeyValid.fL : Option (Bool) := Lim (impl_KeyValid.f · a0)
theorem impl_KeyValid.fL_is : LimIs (impl_KeyValid.f · a0) (impl_KeyValid.fL a0) := lM (fun k => impl_KeyValid.mono a0 k)
end
theorem impl_KeyValid.fL_eq (a0 : ByteArray) : impl_KeyValid.fL a0 = if (a0.size : Int) < 1 then (some false) else (if (a0.size : Int) > 4 then (some false) else ((impl_lettersOnly.fL a0).bind fun t152 => (some t152))) := by
  refine lU (impl_KeyValid.fL_is a0) ?_
  unfold impl_KeyValid.f
  repeat' with_reducible first | exact lK _ | exact impl_lettersOnly.fL_is .. | apply lI | apply lB | intro _
/-! ### impl_PairsValid -/
section
variable (a b : List (S54)) (c d : Int)
noncomputable def impl_PairsValid.l0L : Option (Bool) := Lim (impl_PairsValid.l0 · a b c d)
theorem impl_PairsValid.l0L_is : LimIs (impl_PairsValid.l0 · a b c d) (impl_PairsValid.l0L a b c d) := lM (fun k => (impl_PairsValid.mono_l k).1 a b c d)
end
section
variable (a : List (S54)) (b : Int) (c : List (S54)) (d e : Int) (f : Bool) (g : ByteArray) (i : Int)
noncomputable def impl_PairsValid.j1L : Option (Bool) := Lim (impl_PairsValid.j1 · a b c d e f g i)
theorem impl_PairsValid.j1L_is : LimIs (impl_PairsValid.j1 · a b c d e f g i) (impl_PairsValid.j1L a b c d e f g i) := lM (fun k => (impl_PairsValid.mono_l k).2 a b c d e f g i)
end
section
variable (l0 : List (S54))
noncomputable def impl_PairsValid.fL : Option (Bool) := Lim (impl_PairsValid.f · l0)
theorem impl_PairsValid.fL_is : LimIs (impl_PairsValid.f · l0) (impl_PairsValid.fL l0) := lM (fun k => impl_PairsValid.mono l0 k)
end
theorem impl_PairsValid.l0L_eq (a b : List (S54)) (c d : Int) : impl_PairsValid.l0L a b c d = if d < c then (if 0 ≤ d then (if d < (b.length : Int) then ((impl_KeyValid.fL ((rd_T54 b d).f0)).bind fun t155 => (if t155 = true then ((impl_valueValid.f ((rd_T54 b d).f1)).bind fun t156 => (impl_PairsValid.j1L a d b c d (!t156) ((rd_T54 b d).f0) ((rd_T54 b d).f1))) else (impl_PairsValid.j1L a d b c d true ((rd_T54 b d).f0) ((rd_T54 b d).f1)))) else (none)) else (none)) else (some true) := by
  refine lU (impl_PairsValid.l0L_is a b c d) (LimIs.step1 (by simp only [impl_PairsValid.l0]) ?_)
  simp only [impl_PairsValid.l0]
  repeat' with_reducible first | exact lK _ | exact impl_KeyValid.fL_is .. | exact impl_PairsValid.j1L_is .. | apply lI | apply lB | intro _
theorem impl_PairsValid.j1L_eq (a : List (S54)) (b : Int) (c : List (S54)) (d e : Int) (f : Bool) (g : ByteArray) (i : Int) : impl_PairsValid.j1L a b c d e f g i = if f = true then (some false) else (if b > 0 then (if 0 ≤ (wrap64 (b - 1)) then (if (wrap64 (b - 1)) < (a.length : Int) then (if ((Op.bytesLess (((rd_T54 a (wrap64 (b - 1))).f0).toList) g.toList) = true) then (impl_PairsValid.l0L a c d (wrap64 (e + 1))) else (some false)) else (none)) else (none)) else (impl_PairsValid.l0L a c d (wrap64 (e + 1)))) := by
  refine lU (impl_PairsValid.j1L_is a b c d e f g i) (LimIs.step1 (by simp only [impl_PairsValid.j1]) ?_)
  simp only [impl_PairsValid.j1]
  repeat' with_reducible first | exact lK _ | exact impl_PairsValid.l0L_is .. | apply lI | apply lB | intro _
theorem impl_PairsValid.fL_eq (l0 : List (S54)) : impl_PairsValid.fL l0 = if (l0.length : Int) > 48 then (some false) else (impl_PairsValid.l0L l0 l0 (l0.length : Int) 0) := by
  refine lU (impl_PairsValid.fL_is l0) ?_
  unfold impl_PairsValid.f
  repeat' with_reducible first | exact lK _ | exact impl_PairsValid.l0L_is .. | apply lI | apply lB | intro _
/-! ### impl_PairsText -/
section
variable (a : List ByteArray) (b : List (S54)) (c d : Int)
noncomputable def impl_PairsText.l0L : Option (ByteArray) := Lim (impl_PairsText.l0 · a b c d)
theorem impl_PairsText.l0L_is : LimIs (impl_PairsText.l0 · a b c d) (impl_PairsText.l0L a b c d) := lM (fun k => (impl_PairsText.mono_l k) a b c d)
end
section
variable (l0 : List (S54))
noncomputable def impl_PairsText.fL : Option (ByteArray) := Lim (impl_PairsText.f · l0)
theorem impl_PairsText.fL_is : LimIs (impl_PairsText.f · l0) (impl_PairsText.fL l0) := lM (fun k => impl_PairsText.mono l0 k)
end
theorem impl_PairsText.l0L_eq (a : List ByteArray) (b : List (S54)) (c d : Int) : impl_PairsText.l0L a b c d = if d < c then (if 0 ≤ d then (if d < (b.length : Int) then (if ((rd_T54 b d).f0).size + 1 ≤ 9223372036854775807 then ((strconv_Itoa.f ((rd_T54 b d).f1)).bind fun t161 => (if (((rd_T54 b d).f0) ++ (⟨#[61]⟩ : ByteArray)).size + t161.size ≤ 9223372036854775807 then (if a.length < 8796093022208 then (impl_PairsText.l0L (a ++ [(((rd_T54 b d).f0) ++ (⟨#[61]⟩ : ByteArray)) ++ t161]) b c (wrap64 (d + 1))) else (none)) else (none))) else (none)) else (none)) else (none)) else ((strings_Join.f a (⟨#[32]⟩ : ByteArray)).bind fun t165 => (some t165)) := by
  refine lU (impl_PairsText.l0L_is a b c d) (LimIs.step1 (by simp only [impl_PairsText.l0]) ?_)
  simp only [impl_PairsText.l0]
  repeat' with_reducible first | exact lK _ | exact impl_PairsText.l0L_is .. | apply lI | apply lB | intro _
theorem impl_PairsText.fL_eq (l0 : List (S54)) : impl_PairsText.fL l0 = (impl_PairsValid.fL l0).bind fun t158 => (if t158 = true then (impl_PairsText.l0L ([] : List ByteArray) l0 (l0.length : Int) 0) else (some (⟨#[]⟩ : ByteArray))) := by
  refine lU (impl_PairsText.fL_is l0) ?_
  unfold impl_PairsText.f
  repeat' with_reducible first | exact lK _ | exact impl_PairsText.l0L_is .. | exact impl_PairsValid.fL_is .. | apply lI | apply lB | intro _
/-! ### impl_ReadPairs -/
section
variable (a : ByteArray) (b : List (S54)) (c : List ByteArray) (d e : Int)
noncomputable def impl_ReadPairs.l0L : Option ((List (S54)) × Bool) := Lim (impl_ReadPairs.l0 · a b c d e)
theorem impl_ReadPairs.l0L_is : LimIs (impl_ReadPairs.l0 · a b c d e) (impl_ReadPairs.l0L a b c d e) := lM (fun k => (impl_ReadPairs.mono_l k) a b c d e)
end
section
variable (a0 : ByteArray)
noncomputable def impl_ReadPairs.fL : Option ((List (S54)) × Bool) := Lim (impl_ReadPairs.f · a0)
theorem impl_ReadPairs.fL_is : LimIs (impl_ReadPairs.f · a0) (impl_ReadPairs.fL a0) := lM (fun k => impl_ReadPairs.mono a0 k)
end
theorem impl_ReadPairs.l0L_eq (a : ByteArray) (b : List (S54)) (c : List ByteArray) (d e : Int) : impl_ReadPairs.l0L a b c d e = if e < d then (if 0 ≤ e then (if e < (c.length : Int) then ((strings_Cut.f (rdOf ByteArray.empty c e) (⟨#[61]⟩ : ByteArray)).bind fun bt170 => ((impl_numberOf.f bt170.2.1).bind fun t173 => (if b.length < 5864062014805 then (impl_ReadPairs.l0L a (b ++ [(⟨bt170.1, t173⟩ : S54)]) c d (wrap64 (e + 1))) else (none)))) else (none)) else (none)) else ((impl_PairsValid.fL b).bind fun t177 => (if t177 = true then ((impl_PairsText.fL b).bind fun t178 => (if t178.toList = a.toList then (some (b, true)) else (some (([] : List (S54)), false)))) else (some (([] : List (S54)), false)))) := by
  refine lU (impl_ReadPairs.l0L_is a b c d e) (LimIs.step1 (by simp only [impl_ReadPairs.l0]) ?_)
  simp only [impl_ReadPairs.l0]
  repeat' with_reducible first | exact lK _ | exact impl_PairsText.fL_is .. | exact impl_PairsValid.fL_is .. | exact impl_ReadPairs.l0L_is .. | apply lI | apply lB | intro _
theorem impl_ReadPairs.fL_eq (a0 : ByteArray) : impl_ReadPairs.fL a0 = if a0.toList = ([] : List UInt8) then (some (([] : List (S54)), true)) else ((strings_Split.f a0 (⟨#[32]⟩ : ByteArray)).bind fun t166 => (if (t166.length : Int) > 48 then (some (([] : List (S54)), false)) else (impl_ReadPairs.l0L a0 ([] : List (S54)) t166 (t166.length : Int) 0))) := by
  refine lU (impl_ReadPairs.fL_is a0) ?_
  unfold impl_ReadPairs.f
  repeat' with_reducible first | exact lK _ | exact impl_ReadPairs.l0L_is .. | apply lI | apply lB | intro _
/-! ### laws_eqPairS -/
section
variable (a b : List (S54)) (c : Int)
noncomputable def laws_eqPairS.l0L : Option (Bool) := Lim (laws_eqPairS.l0 · a b c)
theorem laws_eqPairS.l0L_is : LimIs (laws_eqPairS.l0 · a b c) (laws_eqPairS.l0L a b c) := lM (fun k => (laws_eqPairS.mono_l k) a b c)
end
section
variable (l0 l1 : List (S54))
noncomputable def laws_eqPairS.fL : Option (Bool) := Lim (laws_eqPairS.f · l0 l1)
theorem laws_eqPairS.fL_is : LimIs (laws_eqPairS.f · l0 l1) (laws_eqPairS.fL l0 l1) := lM (fun k => laws_eqPairS.mono l0 l1 k)
end
theorem laws_eqPairS.l0L_eq (a b : List (S54)) (c : Int) : laws_eqPairS.l0L a b c = if c < (a.length : Int) then (if 0 ≤ c then (if c < (b.length : Int) then ((laws_eqPair.f ((rd_T54 a c).f0) ((rd_T54 a c).f1) ((rd_T54 b c).f0) ((rd_T54 b c).f1)).bind fun t183 => (if t183 = true then (laws_eqPairS.l0L a b (wrap64 (c + 1))) else (some false))) else (none)) else (none)) else (some true) := by
  refine lU (laws_eqPairS.l0L_is a b c) (LimIs.step1 (by simp only [laws_eqPairS.l0]) ?_)
  simp only [laws_eqPairS.l0]
  repeat' with_reducible first | exact lK _ | exact laws_eqPairS.l0L_is .. | apply lI | apply lB | intro _
theorem laws_eqPairS.fL_eq (l0 l1 : List (S54)) : laws_eqPairS.fL l0 l1 = if (l0.length : Int) = (l1.length : Int) then (laws_eqPairS.l0L l0 l1 0) else (some false) := by
  refine lU (laws_eqPairS.fL_is l0 l1) ?_
  unfold laws_eqPairS.f
  repeat' with_reducible first | exact lK _ | exact laws_eqPairS.l0L_is .. | apply lI | apply lB | intro _
/-! ### laws_markText -/
section
variable (a : Int) (b : ByteArray)
noncomputable def laws_markText.l0L : Option (ByteArray) := Lim (laws_markText.l0 · a b)
theorem laws_markText.l0L_is : LimIs (laws_markText.l0 · a b) (laws_markText.l0L a b) := lM (fun k => (laws_markText.mono_l k) a b)
end
section
variable (a0 : Int)
noncomputable def laws_markText.fL : Option (ByteArray) := Lim (laws_markText.f · a0)
theorem laws_markText.fL_is : LimIs (laws_markText.f · a0) (laws_markText.fL a0) := lM (fun k => laws_markText.mono a0 k)
end
theorem laws_markText.l0L_eq (a : Int) (b : ByteArray) : laws_markText.l0L a b = if a > 0 then ((some (([(wrap64 (48 + (Int.tmod a 10))) % 256] : List Int) : List Int)).bind fun y184 => (if (strOfNums y184).size + b.size ≤ 9223372036854775807 then (laws_markText.l0L (wrap64 (Int.tdiv a 10)) ((strOfNums y184) ++ b)) else (none))) else (if 1 + b.size ≤ 9223372036854775807 then (some ((⟨#[109]⟩ : ByteArray) ++ b)) else (none)) := by
  refine lU (laws_markText.l0L_is a b) (LimIs.step1 (by simp only [laws_markText.l0]) ?_)
  simp only [laws_markText.l0]
  repeat' with_reducible first | exact lK _ | exact laws_markText.l0L_is .. | apply lI | apply lB | intro _
theorem laws_markText.fL_eq (a0 : Int) : laws_markText.fL a0 = if a0 ≤ 0 then (some (⟨#[109, 48]⟩ : ByteArray)) else (laws_markText.l0L a0 (⟨#[]⟩ : ByteArray)) := by
  refine lU (laws_markText.fL_is a0) ?_
  unfold laws_markText.f
  repeat' with_reducible first | exact lK _ | exact laws_markText.l0L_is .. | apply lI | apply lB | intro _
/-! ### laws_markPairS -/
section
variable (a : List (S54)) (b c : Int)
noncomputable def laws_markPairS.l0L : Option (Int × (List (S54))) := Lim (laws_markPairS.l0 · a b c)
theorem laws_markPairS.l0L_is : LimIs (laws_markPairS.l0 · a b c) (laws_markPairS.l0L a b c) := lM (fun k => (laws_markPairS.mono_l k) a b c)
end
section
variable (l0 : List (S54)) (a1 : Int)
noncomputable def laws_markPairS.fL : Option (Int × (List (S54))) := Lim (laws_markPairS.f · l0 a1)
theorem laws_markPairS.fL_is : LimIs (laws_markPairS.f · l0 a1) (laws_markPairS.fL l0 a1) := lM (fun k => laws_markPairS.mono l0 a1 k)
end
theorem laws_markPairS.l0L_eq (a : List (S54)) (b c : Int) : laws_markPairS.l0L a b c = if c < (a.length : Int) then ((laws_markText.fL b).bind fun t187 => (if 0 ≤ c then ((some (a.set (c : Int).toNat (⟨t187, (rd_T54 a c).f1⟩ : S54) : List (S54))).bind fun y188 => (laws_markPairS.l0L (y188.set (c : Int).toNat (⟨(rd_T54 y188 c).f0, wrap64 (b + 1)⟩ : S54)) (wrap64 ((wrap64 (b + 1)) + 1)) (wrap64 (c + 1)))) else (none))) else (some (b, a)) := by
  refine lU (laws_markPairS.l0L_is a b c) (LimIs.step1 (by simp only [laws_markPairS.l0]) ?_)
  simp only [laws_markPairS.l0]
  repeat' with_reducible first | exact lK _ | exact laws_markPairS.l0L_is .. | exact laws_markText.fL_is .. | apply lI | apply lB | intro _
theorem laws_markPairS.fL_eq (l0 : List (S54)) (a1 : Int) : laws_markPairS.fL l0 a1 = laws_markPairS.l0L l0 a1 0 := by
  refine lU (laws_markPairS.fL_is l0 a1) ?_
  unfold laws_markPairS.f
  repeat' with_reducible first | exact lK _ | exact laws_markPairS.l0L_is .. | apply lI | apply lB | intro _
/-! ### laws_heldPairS -/
section
variable (a : List (S54)) (b c : Int)
noncomputable def laws_heldPairS.l0L : Option (Int) := Lim (laws_heldPairS.l0 · a b c)
theorem laws_heldPairS.l0L_is : LimIs (laws_heldPairS.l0 · a b c) (laws_heldPairS.l0L a b c) := lM (fun k => (laws_heldPairS.mono_l k) a b c)
end
section
variable (l0 : List (S54)) (a1 : Int)
noncomputable def laws_heldPairS.fL : Option (Int) := Lim (laws_heldPairS.f · l0 a1)
theorem laws_heldPairS.fL_is : LimIs (laws_heldPairS.f · l0 a1) (laws_heldPairS.fL l0 a1) := lM (fun k => laws_heldPairS.mono l0 a1 k)
end
theorem laws_heldPairS.l0L_eq (a : List (S54)) (b c : Int) : laws_heldPairS.l0L a b c = if c < (a.length : Int) then (if 0 ≤ c then ((laws_markText.fL b).bind fun t191 => (if ((rd_T54 a c).f0).toList = t191.toList then (if ((rd_T54 a c).f1) = (wrap64 (b + 1)) then (laws_heldPairS.l0L a (wrap64 ((wrap64 (b + 1)) + 1)) (wrap64 (c + 1))) else (some (-1))) else (some (-1)))) else (none)) else (some b) := by
  refine lU (laws_heldPairS.l0L_is a b c) (LimIs.step1 (by simp only [laws_heldPairS.l0]) ?_)
  simp only [laws_heldPairS.l0]
  repeat' with_reducible first | exact lK _ | exact laws_heldPairS.l0L_is .. | exact laws_markText.fL_is .. | apply lI | apply lB | intro _
theorem laws_heldPairS.fL_eq (l0 : List (S54)) (a1 : Int) : laws_heldPairS.fL l0 a1 = laws_heldPairS.l0L l0 a1 0 := by
  refine lU (laws_heldPairS.fL_is l0 a1) ?_
  unfold laws_heldPairS.f
  repeat' with_reducible first | exact lK _ | exact laws_heldPairS.l0L_is .. | apply lI | apply lB | intro _
/-! ### laws_FnExactReadPairs -/
section
variable (a : ByteArray) (b : List (S54)) (c : Bool) (d : List (S54)) (e : Bool)
noncomputable def laws_FnExactReadPairs.j0L : Option (Bool) := Lim (laws_FnExactReadPairs.j0 · a b c d e)
theorem laws_FnExactReadPairs.j0L_is : LimIs (laws_FnExactReadPairs.j0 · a b c d e) (laws_FnExactReadPairs.j0L a b c d e) := lM (fun k => (laws_FnExactReadPairs.mono_l k).1 a b c d e)
end
section
variable (a : List (S54)) (b : Int) (c : Bool)
noncomputable def laws_FnExactReadPairs.j1L : Option (Bool) := Lim (laws_FnExactReadPairs.j1 · a b c)
theorem laws_FnExactReadPairs.j1L_is : LimIs (laws_FnExactReadPairs.j1 · a b c) (laws_FnExactReadPairs.j1L a b c) := lM (fun k => (laws_FnExactReadPairs.mono_l k).2 a b c)
end
section
variable (a0 : ByteArray)
noncomputable def laws_FnExactReadPairs.fL : Option (Bool) := Lim (laws_FnExactReadPairs.f · a0)
theorem laws_FnExactReadPairs.fL_is : LimIs (laws_FnExactReadPairs.f · a0) (laws_FnExactReadPairs.fL a0) := lM (fun k => laws_FnExactReadPairs.mono a0 k)
end
theorem laws_FnExactReadPairs.j0L_eq (a : ByteArray) (b : List (S54)) (c : Bool) (d : List (S54)) (e : Bool) : laws_FnExactReadPairs.j0L a b c d e = if e = true then (some false) else ((laws_markPairS.fL d 1).bind fun bt202 => ((laws_heldPairS.fL bt202.2 1).bind fun t204 => (if t204 < 0 then (some false) else (if t204 = bt202.1 then ((impl_ReadPairs.fL a).bind fun bt205 => ((laws_eqPairS.fL bt205.1 b).bind fun t209 => (if t209 = true then (laws_FnExactReadPairs.j1L bt202.2 bt202.1 (bt205.2 != c)) else (laws_FnExactReadPairs.j1L bt202.2 bt202.1 true)))) else (some false))))) := by
  refine lU (laws_FnExactReadPairs.j0L_is a b c d e) (LimIs.step1 (by simp only [laws_FnExactReadPairs.j0]) ?_)
  simp only [laws_FnExactReadPairs.j0]
  repeat' with_reducible first | exact lK _ | exact impl_ReadPairs.fL_is .. | exact laws_FnExactReadPairs.j1L_is .. | exact laws_eqPairS.fL_is .. | exact laws_heldPairS.fL_is .. | exact laws_markPairS.fL_is .. | apply lI | apply lB | intro _
theorem laws_FnExactReadPairs.j1L_eq (a : List (S54)) (b : Int) (c : Bool) : laws_FnExactReadPairs.j1L a b c = if c = true then (some false) else ((laws_heldPairS.fL a 1).bind fun t210 => (if t210 < 0 then (some false) else (if t210 = b then (some true) else (some false)))) := by
  refine lU (laws_FnExactReadPairs.j1L_is a b c) (LimIs.step1 (by simp only [laws_FnExactReadPairs.j1]) ?_)
  simp only [laws_FnExactReadPairs.j1]
  repeat' with_reducible first | exact lK _ | exact laws_heldPairS.fL_is .. | apply lI | apply lB | intro _
theorem laws_FnExactReadPairs.fL_eq (a0 : ByteArray) : laws_FnExactReadPairs.fL a0 = if (a0.size : Int) > 1048576 then (some true) else ((spec_ReadPairs.fL a0).bind fun bt193 => ((impl_ReadPairs.fL a0).bind fun bt197 => ((laws_eqPairS.fL bt197.1 bt193.1).bind fun t201 => (if t201 = true then (laws_FnExactReadPairs.j0L a0 bt193.1 bt193.2 bt197.1 (bt197.2 != bt193.2)) else (laws_FnExactReadPairs.j0L a0 bt193.1 bt193.2 bt197.1 true))))) := by
  refine lU (laws_FnExactReadPairs.fL_is a0) ?_
  unfold laws_FnExactReadPairs.f
  repeat' with_reducible first | exact lK _ | exact impl_ReadPairs.fL_is .. | exact laws_FnExactReadPairs.j0L_is .. | exact laws_eqPairS.fL_is .. | exact spec_ReadPairs.fL_is .. | apply lI | apply lB | intro _
end Go.Proofs.YtcciackemicbbaaDoor.PFnExactReadPairs
