/- The limits of the printed functions, and their equations. Written by lim.py out of the print. No condition. -/
import Derived.Test.YtfeeifefmenlmaaDoorOFnExactPairsText
import Derived.Test.YtfeeifefmenlmaaDoorLim
namespace Go.Proofs.YtfeeifefmenlmaaDoor.PFnExactPairsText
open Go.RowKit Go.Proofs.YtfeeifefmenlmaaDoorW.PrintWords Go.Proofs.YtfeeifefmenlmaaDoorW.PrintLast Go.Proofs.YtfeeifefmenlmaaDoorW.PrintMore Go.Proofs.YtfeeifefmenlmaaDoor.Lim
set_option linter.unusedVariables false

/-! ### laws_szPairS -/
section
variable (a : List (S31)) (b c : Int)
noncomputable def laws_szPairS.l0L : Option (Int) := Lim (laws_szPairS.l0 · a b c)
theorem laws_szPairS.l0L_is : LimIs (laws_szPairS.l0 · a b c) (laws_szPairS.l0L a b c) := lM (fun k => (laws_szPairS.mono_l k) a b c)
end
section
variable (l0 : List (S31)) (a1 : Int)
noncomputable def laws_szPairS.fL : Option (Int) := Lim (laws_szPairS.f · l0 a1)
theorem laws_szPairS.fL_is : LimIs (laws_szPairS.f · l0 a1) (laws_szPairS.fL l0 a1) := lM (fun k => laws_szPairS.mono l0 a1 k)
end
theorem laws_szPairS.l0L_eq (a : List (S31)) (b c : Int) : laws_szPairS.l0L a b c = if c < (a.length : Int) then (if 0 ≤ c then ((laws_szPair.f ((rd_T31 a c).f0) ((rd_T31 a c).f1) b).bind fun t103 => (if t103 < 0 then (some (-1)) else (laws_szPairS.l0L a t103 (wrap64 (c + 1))))) else (none)) else (some b) := by
  refine lU (laws_szPairS.l0L_is a b c) (LimIs.step1 (by simp only [laws_szPairS.l0]) ?_)
  simp only [laws_szPairS.l0]
  repeat' with_reducible first | exact lK _ | exact laws_szPairS.l0L_is .. | apply lI | apply lB | intro _
theorem laws_szPairS.fL_eq (l0 : List (S31)) (a1 : Int) : laws_szPairS.fL l0 a1 = if (wrap64 (a1 - (l0.length : Int))) < 0 then (some (-1)) else (laws_szPairS.l0L l0 (wrap64 (a1 - (l0.length : Int))) 0) := by
  refine lU (laws_szPairS.fL_is l0 a1) ?_
  unfold laws_szPairS.f
  repeat' with_reducible first | exact lK _ | exact laws_szPairS.l0L_is .. | apply lI | apply lB | intro _
/-! ### spec_KeyValid -/
section
variable (a : ByteArray) (b : Int)
noncomputable def spec_KeyValid.l0L : Option (Bool) := Lim (spec_KeyValid.l0 · a b)
theorem spec_KeyValid.l0L_is : LimIs (spec_KeyValid.l0 · a b) (spec_KeyValid.l0L a b) := lM (fun k => (spec_KeyValid.mono_l k) a b)
end
section
variable (a0 : ByteArray)
noncomputable def spec_KeyValid.fL : Option (Bool) := Lim (spec_KeyValid.f · a0)
theorem spec_KeyValid.fL_is : LimIs (spec_KeyValid.f · a0) (spec_KeyValid.fL a0) := lM (fun k => spec_KeyValid.mono a0 k)
end
theorem spec_KeyValid.l0L_eq (a : ByteArray) (b : Int) : spec_KeyValid.l0L a b = if b < (a.size : Int) then (if 0 ≤ b then (if (bt a b) < 97 then (some false) else (if (bt a b) > 122 then (some false) else (spec_KeyValid.l0L a (wrap64 (b + 1))))) else (none)) else (some true) := by
  refine lU (spec_KeyValid.l0L_is a b) (LimIs.step1 (by simp only [spec_KeyValid.l0]) ?_)
  simp only [spec_KeyValid.l0]
  repeat' with_reducible first | exact lK _ | exact spec_KeyValid.l0L_is .. | apply lI | apply lB | intro _
theorem spec_KeyValid.fL_eq (a0 : ByteArray) : spec_KeyValid.fL a0 = (spec_l1In.f (a0.size : Int) 1 4).bind fun t104 => (if t104 = true then (spec_KeyValid.l0L a0 0) else (some false)) := by
  refine lU (spec_KeyValid.fL_is a0) ?_
  unfold spec_KeyValid.f
  repeat' with_reducible first | exact lK _ | exact spec_KeyValid.l0L_is .. | apply lI | apply lB | intro _
/-! ### spec_PairsValid -/
section
variable (a : List (S33)) (b : Int)
noncomputable def spec_PairsValid.l0L : Option (Bool) := Lim (spec_PairsValid.l0 · a b)
theorem spec_PairsValid.l0L_is : LimIs (spec_PairsValid.l0 · a b) (spec_PairsValid.l0L a b) := lM (fun k => (spec_PairsValid.mono_l k) a b)
end
section
variable (l0 : List (S33))
noncomputable def spec_PairsValid.fL : Option (Bool) := Lim (spec_PairsValid.f · l0)
theorem spec_PairsValid.fL_is : LimIs (spec_PairsValid.f · l0) (spec_PairsValid.fL l0) := lM (fun k => spec_PairsValid.mono l0 k)
end
theorem spec_PairsValid.l0L_eq (a : List (S33)) (b : Int) : spec_PairsValid.l0L a b = if b < (a.length : Int) then (if 0 ≤ b then ((spec_KeyValid.fL ((rd_T33 a b).f0)).bind fun t106 => (if t106 = true then ((spec_l1In.f ((rd_T33 a b).f1) 0 999).bind fun t108 => (if t108 = true then (if b > 0 then (if 0 ≤ (wrap64 (b - 1)) then (if (wrap64 (b - 1)) < (a.length : Int) then (if ((Op.bytesLess (((rd_T33 a (wrap64 (b - 1))).f0).toList) (((rd_T33 a b).f0).toList)) = true) then (spec_PairsValid.l0L a (wrap64 (b + 1))) else (some false)) else (none)) else (none)) else (spec_PairsValid.l0L a (wrap64 (b + 1)))) else (some false))) else (some false))) else (none)) else (some true) := by
  refine lU (spec_PairsValid.l0L_is a b) (LimIs.step1 (by simp only [spec_PairsValid.l0]) ?_)
  simp only [spec_PairsValid.l0]
  repeat' with_reducible first | exact lK _ | exact spec_KeyValid.fL_is .. | exact spec_PairsValid.l0L_is .. | apply lI | apply lB | intro _
theorem spec_PairsValid.fL_eq (l0 : List (S33)) : spec_PairsValid.fL l0 = if (l0.length : Int) > 48 then (some false) else (spec_PairsValid.l0L l0 0) := by
  refine lU (spec_PairsValid.fL_is l0) ?_
  unfold spec_PairsValid.f
  repeat' with_reducible first | exact lK _ | exact spec_PairsValid.l0L_is .. | apply lI | apply lB | intro _
/-! ### spec_l7Text -/
section
variable (a : Int) (b : ByteArray)
noncomputable def spec_l7Text.l0L : Option (ByteArray) := Lim (spec_l7Text.l0 · a b)
theorem spec_l7Text.l0L_is : LimIs (spec_l7Text.l0 · a b) (spec_l7Text.l0L a b) := lM (fun k => (spec_l7Text.mono_l k) a b)
end
section
variable (a0 : Int)
noncomputable def spec_l7Text.fL : Option (ByteArray) := Lim (spec_l7Text.f · a0)
theorem spec_l7Text.fL_is : LimIs (spec_l7Text.f · a0) (spec_l7Text.fL a0) := lM (fun k => spec_l7Text.mono a0 k)
end
theorem spec_l7Text.l0L_eq (a : Int) (b : ByteArray) : spec_l7Text.l0L a b = if a > 9 then ((some (([(wrap64 (48 + (Int.tmod (wrap64 (Int.tdiv a 10)) 10))) % 256] : List Int) : List Int)).bind fun y114 => (if (strOfNums y114).size + b.size ≤ 9223372036854775807 then (spec_l7Text.l0L (wrap64 (Int.tdiv a 10)) ((strOfNums y114) ++ b)) else (none))) else (some b) := by
  refine lU (spec_l7Text.l0L_is a b) (LimIs.step1 (by simp only [spec_l7Text.l0]) ?_)
  simp only [spec_l7Text.l0]
  repeat' with_reducible first | exact lK _ | exact spec_l7Text.l0L_is .. | apply lI | apply lB | intro _
theorem spec_l7Text.fL_eq (a0 : Int) : spec_l7Text.fL a0 = if a0 < 0 then (some (⟨#[45, 49]⟩ : ByteArray)) else (spec_l7Text.l0L a0 (strOfNums (([(wrap64 (48 + (Int.tmod a0 10))) % 256] : List Int)))) := by
  refine lU (spec_l7Text.fL_is a0) ?_
  unfold spec_l7Text.f
  repeat' with_reducible first | exact lK _ | exact spec_l7Text.l0L_is .. | apply lI | apply lB | intro _
/-! ### spec_PairsText -/
section
variable (a : List (S33)) (b : ByteArray) (c : Int)
noncomputable def spec_PairsText.l0L : Option (ByteArray) := Lim (spec_PairsText.l0 · a b c)
theorem spec_PairsText.l0L_is : LimIs (spec_PairsText.l0 · a b c) (spec_PairsText.l0L a b c) := lM (fun k => (spec_PairsText.mono_l k).1 a b c)
end
section
variable (a : List (S33)) (b : ByteArray) (c : Int) (d : Bool)
noncomputable def spec_PairsText.j1L : Option (ByteArray) := Lim (spec_PairsText.j1 · a b c d)
theorem spec_PairsText.j1L_is : LimIs (spec_PairsText.j1 · a b c d) (spec_PairsText.j1L a b c d) := lM (fun k => (spec_PairsText.mono_l k).2 a b c d)
end
section
variable (l0 : List (S33))
noncomputable def spec_PairsText.fL : Option (ByteArray) := Lim (spec_PairsText.f · l0)
theorem spec_PairsText.fL_is : LimIs (spec_PairsText.f · l0) (spec_PairsText.fL l0) := lM (fun k => spec_PairsText.mono l0 k)
end
theorem spec_PairsText.l0L_eq (a : List (S33)) (b : ByteArray) (c : Int) : spec_PairsText.l0L a b c = if c < (a.length : Int) then ((spec_PairsValid.fL a).bind fun t117 => (spec_PairsText.j1L a b c t117)) else (spec_PairsText.j1L a b c false) := by
  refine lU (spec_PairsText.l0L_is a b c) (LimIs.step1 (by simp only [spec_PairsText.l0]) ?_)
  simp only [spec_PairsText.l0]
  repeat' with_reducible first | exact lK _ | exact spec_PairsText.j1L_is .. | exact spec_PairsValid.fL_is .. | apply lI | apply lB | intro _
theorem spec_PairsText.j1L_eq (a : List (S33)) (b : ByteArray) (c : Int) (d : Bool) : spec_PairsText.j1L a b c d = if d = true then (if c > 0 then (if b.size + 1 ≤ 9223372036854775807 then (if 0 ≤ c then (if c < (a.length : Int) then (if (b ++ (⟨#[32]⟩ : ByteArray)).size + ((rd_T33 a c).f0).size ≤ 9223372036854775807 then (if ((b ++ (⟨#[32]⟩ : ByteArray)) ++ ((rd_T33 a c).f0)).size + 1 ≤ 9223372036854775807 then ((spec_l7Text.fL ((rd_T33 a c).f1)).bind fun t120 => (if (((b ++ (⟨#[32]⟩ : ByteArray)) ++ ((rd_T33 a c).f0)) ++ (⟨#[61]⟩ : ByteArray)).size + t120.size ≤ 9223372036854775807 then (spec_PairsText.l0L a ((((b ++ (⟨#[32]⟩ : ByteArray)) ++ ((rd_T33 a c).f0)) ++ (⟨#[61]⟩ : ByteArray)) ++ t120) (wrap64 (c + 1))) else (none))) else (none)) else (none)) else (none)) else (none)) else (none)) else (if 0 ≤ c then (if c < (a.length : Int) then (if b.size + ((rd_T33 a c).f0).size ≤ 9223372036854775807 then (if (b ++ ((rd_T33 a c).f0)).size + 1 ≤ 9223372036854775807 then ((spec_l7Text.fL ((rd_T33 a c).f1)).bind fun t123 => (if ((b ++ ((rd_T33 a c).f0)) ++ (⟨#[61]⟩ : ByteArray)).size + t123.size ≤ 9223372036854775807 then (spec_PairsText.l0L a (((b ++ ((rd_T33 a c).f0)) ++ (⟨#[61]⟩ : ByteArray)) ++ t123) (wrap64 (c + 1))) else (none))) else (none)) else (none)) else (none)) else (none))) else (some b) := by
  refine lU (spec_PairsText.j1L_is a b c d) (LimIs.step1 (by simp only [spec_PairsText.j1]) ?_)
  simp only [spec_PairsText.j1]
  repeat' with_reducible first | exact lK _ | exact spec_PairsText.l0L_is .. | exact spec_l7Text.fL_is .. | apply lI | apply lB | intro _
theorem spec_PairsText.fL_eq (l0 : List (S33)) : spec_PairsText.fL l0 = spec_PairsText.l0L l0 (⟨#[]⟩ : ByteArray) 0 := by
  refine lU (spec_PairsText.fL_is l0) ?_
  unfold spec_PairsText.f
  repeat' with_reducible first | exact lK _ | exact spec_PairsText.l0L_is .. | apply lI | apply lB | intro _
/-! ### laws_toPairS -/
section
variable (a : List (S31)) (b : List (S33)) (c : Int)
noncomputable def laws_toPairS.l0L : Option ((List (S33))) := Lim (laws_toPairS.l0 · a b c)
theorem laws_toPairS.l0L_is : LimIs (laws_toPairS.l0 · a b c) (laws_toPairS.l0L a b c) := lM (fun k => (laws_toPairS.mono_l k) a b c)
end
section
variable (l0 : List (S31))
noncomputable def laws_toPairS.fL : Option ((List (S33))) := Lim (laws_toPairS.f · l0)
theorem laws_toPairS.fL_is : LimIs (laws_toPairS.f · l0) (laws_toPairS.fL l0) := lM (fun k => laws_toPairS.mono l0 k)
end
theorem laws_toPairS.l0L_eq (a : List (S31)) (b : List (S33)) (c : Int) : laws_toPairS.l0L a b c = if c < (a.length : Int) then (if 0 ≤ c then ((laws_toPair.f ((rd_T31 a c).f0) ((rd_T31 a c).f1)).bind fun bt131 => (if c < (b.length : Int) then (laws_toPairS.l0L a (b.set (c : Int).toNat (⟨bt131.1, bt131.2⟩ : S33)) (wrap64 (c + 1))) else (none))) else (none)) else (some b) := by
  refine lU (laws_toPairS.l0L_is a b c) (LimIs.step1 (by simp only [laws_toPairS.l0]) ?_)
  simp only [laws_toPairS.l0]
  repeat' with_reducible first | exact lK _ | exact laws_toPairS.l0L_is .. | apply lI | apply lB | intro _
theorem laws_toPairS.fL_eq (l0 : List (S31)) : laws_toPairS.fL l0 = if 0 ≤ (l0.length : Int) then (if ((l0.length : Int) : Int).toNat ≤ 11728124029610 then (laws_toPairS.l0L l0 (List.replicate ((l0.length : Int) : Int).toNat z33) 0) else (none)) else (none) := by
  refine lU (laws_toPairS.fL_is l0) ?_
  unfold laws_toPairS.f
  repeat' with_reducible first | exact lK _ | exact laws_toPairS.l0L_is .. | apply lI | apply lB | intro _
/-! ### impl_lettersOnly -/
section
variable (a0 : ByteArray)
noncomputable def impl_lettersOnly.fL : Option (Bool) := Lim (impl_lettersOnly.f · a0)
theorem impl_lettersOnly.fL_is : LimIs (impl_lettersOnly.f · a0) (impl_lettersOnly.fL a0) := lM (fun k => impl_lettersOnly.mono a0 k)
end
theorem impl_lettersOnly.fL_eq (a0 : ByteArray) : impl_lettersOnly.fL a0 = if a0.toList = ([] : List UInt8) then (some true) else (if 0 < (a0.size : Int) then (if (bt a0 0) ≥ 97 then (if (bt a0 0) ≤ 122 then (if 1 ≤ (a0.size : Int) then ((impl_lettersOnly.fL (a0.extract 1 a0.size)).bind fun t134 => (some t134)) else (none)) else (some false)) else (some false)) else (none)) := by
  refine lU (impl_lettersOnly.fL_is a0) (LimIs.step1 (by simp only [impl_lettersOnly.f]) ?_)
  simp only [impl_lettersOnly.f]
  repeat' with_reducible first | exact lK _ | exact impl_lettersOnly.fL_is .. | apply lI | apply lB | intro _
/-! ### impl_KeyValid -/
section
variable (a0 : ByteArray)
noncomputable def impl_KeyValid.fL : Option (Bool) := Lim (impl_KeyValid.f · a0)
theorem impl_KeyValid.fL_is : LimIs (impl_KeyValid.f · a0) (impl_KeyValid.fL a0) := lM (fun k => impl_KeyValid.mono a0 k)
end
theorem impl_KeyValid.fL_eq (a0 : ByteArray) : impl_KeyValid.fL a0 = if (a0.size : Int) < 1 then (some false) else (if (a0.size : Int) > 4 then (some false) else ((impl_lettersOnly.fL a0).bind fun t135 => (some t135))) := by
  refine lU (impl_KeyValid.fL_is a0) ?_
  unfold impl_KeyValid.f
  repeat' with_reducible first | exact lK _ | exact impl_lettersOnly.fL_is .. | apply lI | apply lB | intro _
/-! ### impl_PairsValid -/
section
variable (a b : List (S33)) (c d : Int)
noncomputable def impl_PairsValid.l0L : Option (Bool) := Lim (impl_PairsValid.l0 · a b c d)
theorem impl_PairsValid.l0L_is : LimIs (impl_PairsValid.l0 · a b c d) (impl_PairsValid.l0L a b c d) := lM (fun k => (impl_PairsValid.mono_l k).1 a b c d)
end
section
variable (a : List (S33)) (b : Int) (c : List (S33)) (d e : Int) (f : Bool) (g : ByteArray) (i : Int)
noncomputable def impl_PairsValid.j1L : Option (Bool) := Lim (impl_PairsValid.j1 · a b c d e f g i)
theorem impl_PairsValid.j1L_is : LimIs (impl_PairsValid.j1 · a b c d e f g i) (impl_PairsValid.j1L a b c d e f g i) := lM (fun k => (impl_PairsValid.mono_l k).2 a b c d e f g i)
end
section
variable (l0 : List (S33))
noncomputable def impl_PairsValid.fL : Option (Bool) := Lim (impl_PairsValid.f · l0)
theorem impl_PairsValid.fL_is : LimIs (impl_PairsValid.f · l0) (impl_PairsValid.fL l0) := lM (fun k => impl_PairsValid.mono l0 k)
end
theorem impl_PairsValid.l0L_eq (a b : List (S33)) (c d : Int) : impl_PairsValid.l0L a b c d = if d < c then (if 0 ≤ d then (if d < (b.length : Int) then ((impl_KeyValid.fL ((rd_T33 b d).f0)).bind fun t138 => (if t138 = true then ((impl_valueValid.f ((rd_T33 b d).f1)).bind fun t139 => (impl_PairsValid.j1L a d b c d (!t139) ((rd_T33 b d).f0) ((rd_T33 b d).f1))) else (impl_PairsValid.j1L a d b c d true ((rd_T33 b d).f0) ((rd_T33 b d).f1)))) else (none)) else (none)) else (some true) := by
  refine lU (impl_PairsValid.l0L_is a b c d) (LimIs.step1 (by simp only [impl_PairsValid.l0]) ?_)
  simp only [impl_PairsValid.l0]
  repeat' with_reducible first | exact lK _ | exact impl_KeyValid.fL_is .. | exact impl_PairsValid.j1L_is .. | apply lI | apply lB | intro _
theorem impl_PairsValid.j1L_eq (a : List (S33)) (b : Int) (c : List (S33)) (d e : Int) (f : Bool) (g : ByteArray) (i : Int) : impl_PairsValid.j1L a b c d e f g i = if f = true then (some false) else (if b > 0 then (if 0 ≤ (wrap64 (b - 1)) then (if (wrap64 (b - 1)) < (a.length : Int) then (if ((Op.bytesLess (((rd_T33 a (wrap64 (b - 1))).f0).toList) g.toList) = true) then (impl_PairsValid.l0L a c d (wrap64 (e + 1))) else (some false)) else (none)) else (none)) else (impl_PairsValid.l0L a c d (wrap64 (e + 1)))) := by
  refine lU (impl_PairsValid.j1L_is a b c d e f g i) (LimIs.step1 (by simp only [impl_PairsValid.j1]) ?_)
  simp only [impl_PairsValid.j1]
  repeat' with_reducible first | exact lK _ | exact impl_PairsValid.l0L_is .. | apply lI | apply lB | intro _
theorem impl_PairsValid.fL_eq (l0 : List (S33)) : impl_PairsValid.fL l0 = if (l0.length : Int) > 48 then (some false) else (impl_PairsValid.l0L l0 l0 (l0.length : Int) 0) := by
  refine lU (impl_PairsValid.fL_is l0) ?_
  unfold impl_PairsValid.f
  repeat' with_reducible first | exact lK _ | exact impl_PairsValid.l0L_is .. | apply lI | apply lB | intro _
/-! ### impl_PairsText -/
section
variable (a : List ByteArray) (b : List (S33)) (c d : Int)
noncomputable def impl_PairsText.l0L : Option (ByteArray) := Lim (impl_PairsText.l0 · a b c d)
theorem impl_PairsText.l0L_is : LimIs (impl_PairsText.l0 · a b c d) (impl_PairsText.l0L a b c d) := lM (fun k => (impl_PairsText.mono_l k) a b c d)
end
section
variable (l0 : List (S33))
noncomputable def impl_PairsText.fL : Option (ByteArray) := Lim (impl_PairsText.f · l0)
theorem impl_PairsText.fL_is : LimIs (impl_PairsText.f · l0) (impl_PairsText.fL l0) := lM (fun k => impl_PairsText.mono l0 k)
end
theorem impl_PairsText.l0L_eq (a : List ByteArray) (b : List (S33)) (c d : Int) : impl_PairsText.l0L a b c d = if d < c then (if 0 ≤ d then (if d < (b.length : Int) then (if ((rd_T33 b d).f0).size + 1 ≤ 9223372036854775807 then ((strconv_Itoa.f ((rd_T33 b d).f1)).bind fun t144 => (if (((rd_T33 b d).f0) ++ (⟨#[61]⟩ : ByteArray)).size + t144.size ≤ 9223372036854775807 then (if a.length < 8796093022208 then (impl_PairsText.l0L (a ++ [(((rd_T33 b d).f0) ++ (⟨#[61]⟩ : ByteArray)) ++ t144]) b c (wrap64 (d + 1))) else (none)) else (none))) else (none)) else (none)) else (none)) else ((strings_Join.f a (⟨#[32]⟩ : ByteArray)).bind fun t148 => (some t148)) := by
  refine lU (impl_PairsText.l0L_is a b c d) (LimIs.step1 (by simp only [impl_PairsText.l0]) ?_)
  simp only [impl_PairsText.l0]
  repeat' with_reducible first | exact lK _ | exact impl_PairsText.l0L_is .. | apply lI | apply lB | intro _
theorem impl_PairsText.fL_eq (l0 : List (S33)) : impl_PairsText.fL l0 = (impl_PairsValid.fL l0).bind fun t141 => (if t141 = true then (impl_PairsText.l0L ([] : List ByteArray) l0 (l0.length : Int) 0) else (some (⟨#[]⟩ : ByteArray))) := by
  refine lU (impl_PairsText.fL_is l0) ?_
  unfold impl_PairsText.f
  repeat' with_reducible first | exact lK _ | exact impl_PairsText.l0L_is .. | exact impl_PairsValid.fL_is .. | apply lI | apply lB | intro _
/-! ### laws_eqPairS -/
section
variable (a b : List (S33)) (c : Int)
noncomputable def laws_eqPairS.l0L : Option (Bool) := Lim (laws_eqPairS.l0 · a b c)
theorem laws_eqPairS.l0L_is : LimIs (laws_eqPairS.l0 · a b c) (laws_eqPairS.l0L a b c) := lM (fun k => (laws_eqPairS.mono_l k) a b c)
end
section
variable (l0 l1 : List (S33))
noncomputable def laws_eqPairS.fL : Option (Bool) := Lim (laws_eqPairS.f · l0 l1)
theorem laws_eqPairS.fL_is : LimIs (laws_eqPairS.f · l0 l1) (laws_eqPairS.fL l0 l1) := lM (fun k => laws_eqPairS.mono l0 l1 k)
end
theorem laws_eqPairS.l0L_eq (a b : List (S33)) (c : Int) : laws_eqPairS.l0L a b c = if c < (a.length : Int) then (if 0 ≤ c then (if c < (b.length : Int) then ((laws_eqPair.f ((rd_T33 a c).f0) ((rd_T33 a c).f1) ((rd_T33 b c).f0) ((rd_T33 b c).f1)).bind fun t153 => (if t153 = true then (laws_eqPairS.l0L a b (wrap64 (c + 1))) else (some false))) else (none)) else (none)) else (some true) := by
  refine lU (laws_eqPairS.l0L_is a b c) (LimIs.step1 (by simp only [laws_eqPairS.l0]) ?_)
  simp only [laws_eqPairS.l0]
  repeat' with_reducible first | exact lK _ | exact laws_eqPairS.l0L_is .. | apply lI | apply lB | intro _
theorem laws_eqPairS.fL_eq (l0 l1 : List (S33)) : laws_eqPairS.fL l0 l1 = if (l0.length : Int) = (l1.length : Int) then (laws_eqPairS.l0L l0 l1 0) else (some false) := by
  refine lU (laws_eqPairS.fL_is l0 l1) ?_
  unfold laws_eqPairS.f
  repeat' with_reducible first | exact lK _ | exact laws_eqPairS.l0L_is .. | apply lI | apply lB | intro _
/-! ### laws_FnExactPairsText -/
section
variable (l0 : List (S31))
noncomputable def laws_FnExactPairsText.fL : Option (Bool) := Lim (laws_FnExactPairsText.f · l0)
theorem laws_FnExactPairsText.fL_is : LimIs (laws_FnExactPairsText.f · l0) (laws_FnExactPairsText.fL l0) := lM (fun k => laws_FnExactPairsText.mono l0 k)
end
theorem laws_FnExactPairsText.fL_eq (l0 : List (S31)) : laws_FnExactPairsText.fL l0 = (laws_szPairS.fL l0 1048576).bind fun t154 => (if t154 < 0 then (some true) else ((laws_toPairS.fL l0).bind fun t155 => ((spec_PairsText.fL t155).bind fun t158 => ((laws_toPairS.fL l0).bind fun t159 => ((impl_PairsText.fL t159).bind fun t162 => (if t162.toList = t158.toList then ((laws_toPairS.fL l0).bind fun t163 => ((laws_eqPairS.fL t159 t163).bind fun t166 => (if t166 = true then (some true) else (some false)))) else (some false))))))) := by
  refine lU (laws_FnExactPairsText.fL_is l0) ?_
  unfold laws_FnExactPairsText.f
  repeat' with_reducible first | exact lK _ | exact impl_PairsText.fL_is .. | exact laws_eqPairS.fL_is .. | exact laws_szPairS.fL_is .. | exact laws_toPairS.fL_is .. | exact spec_PairsText.fL_is .. | apply lI | apply lB | intro _
end Go.Proofs.YtfeeifefmenlmaaDoor.PFnExactPairsText
