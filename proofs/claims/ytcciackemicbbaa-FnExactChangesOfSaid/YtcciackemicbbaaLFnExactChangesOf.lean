/- The limits of the printed functions, and their equations. Written by lim.py out of the print. No condition. -/
import Derived.Test.YtcciackemicbbaaOFnExactChangesOf
import Derived.Test.YtcciackemicbbaaLim
namespace Go.Proofs.Ytcciackemicbbaa.PFnExactChangesOf
open Go.RowKit Go.Proofs.YtcciackemicbbaaW.PrintWords Go.Proofs.YtcciackemicbbaaW.PrintLast Go.Proofs.YtcciackemicbbaaW.PrintMore Go.Proofs.Ytcciackemicbbaa.Lim
set_option linter.unusedVariables false

/-! ### laws_szPairS -/
section
variable (a : List (S215)) (b c : Int)
noncomputable def laws_szPairS.l0L : Option (Int) := Lim (laws_szPairS.l0 · a b c)
theorem laws_szPairS.l0L_is : LimIs (laws_szPairS.l0 · a b c) (laws_szPairS.l0L a b c) := lM (fun k => (laws_szPairS.mono_l k) a b c)
end
section
variable (l0 : List (S215)) (a1 : Int)
noncomputable def laws_szPairS.fL : Option (Int) := Lim (laws_szPairS.f · l0 a1)
theorem laws_szPairS.fL_is : LimIs (laws_szPairS.f · l0 a1) (laws_szPairS.fL l0 a1) := lM (fun k => laws_szPairS.mono l0 a1 k)
end
theorem laws_szPairS.l0L_eq (a : List (S215)) (b c : Int) : laws_szPairS.l0L a b c = if c < (a.length : Int) then (if 0 ≤ c then ((laws_szPair.f ((rd_T215 a c).f0) ((rd_T215 a c).f1) b).bind fun t104 => (if t104 < 0 then (some (-1)) else (laws_szPairS.l0L a t104 (wrap64 (c + 1))))) else (none)) else (some b) := by
  refine lU (laws_szPairS.l0L_is a b c) (LimIs.step1 (by simp only [laws_szPairS.l0]) ?_)
  simp only [laws_szPairS.l0]
  repeat' with_reducible first | exact lK _ | exact laws_szPairS.l0L_is .. | apply lI | apply lB | intro _
theorem laws_szPairS.fL_eq (l0 : List (S215)) (a1 : Int) : laws_szPairS.fL l0 a1 = if (wrap64 (a1 - (l0.length : Int))) < 0 then (some (-1)) else (laws_szPairS.l0L l0 (wrap64 (a1 - (l0.length : Int))) 0) := by
  refine lU (laws_szPairS.fL_is l0 a1) ?_
  unfold laws_szPairS.f
  repeat' with_reducible first | exact lK _ | exact laws_szPairS.l0L_is .. | apply lI | apply lB | intro _
/-! ### laws_szState -/
section
variable (a0_0 a0_1 : ByteArray) (l0_2 : List (S215)) (l0_3 : List (S225)) (a0_4 : Bool) (a0_5 : ByteArray) (a1 : Int)
noncomputable def laws_szState.fL : Option (Int) := Lim (laws_szState.f · a0_0 a0_1 l0_2 l0_3 a0_4 a0_5 a1)
theorem laws_szState.fL_is : LimIs (laws_szState.f · a0_0 a0_1 l0_2 l0_3 a0_4 a0_5 a1) (laws_szState.fL a0_0 a0_1 l0_2 l0_3 a0_4 a0_5 a1) := lM (fun k => laws_szState.mono a0_0 a0_1 l0_2 l0_3 a0_4 a0_5 a1 k)
end
theorem laws_szState.fL_eq (a0_0 a0_1 : ByteArray) (l0_2 : List (S215)) (l0_3 : List (S225)) (a0_4 : Bool) (a0_5 : ByteArray) (a1 : Int) : laws_szState.fL a0_0 a0_1 l0_2 l0_3 a0_4 a0_5 a1 = (laws_szInterval.f a0_0 a0_1 a1).bind fun t106 => (if t106 < 0 then (some (-1)) else ((laws_szPairS.fL l0_2 t106).bind fun t107 => (if t107 < 0 then (some (-1)) else ((laws_szSessionS.f l0_3 t107).bind fun t108 => (if t108 < 0 then (some (-1)) else (if (wrap64 (t108 - (a0_5.size : Int))) < 0 then (some (-1)) else (some (wrap64 (t108 - (a0_5.size : Int)))))))))) := by
  refine lU (laws_szState.fL_is a0_0 a0_1 l0_2 l0_3 a0_4 a0_5 a1) ?_
  unfold laws_szState.f
  repeat' with_reducible first | exact lK _ | exact laws_szPairS.fL_is .. | apply lI | apply lB | intro _
/-! ### laws_szEntryS -/
section
variable (a : List (S159)) (b c : Int)
noncomputable def laws_szEntryS.l0L : Option (Int) := Lim (laws_szEntryS.l0 · a b c)
theorem laws_szEntryS.l0L_is : LimIs (laws_szEntryS.l0 · a b c) (laws_szEntryS.l0L a b c) := lM (fun k => (laws_szEntryS.mono_l k) a b c)
end
section
variable (l0 : List (S159)) (a1 : Int)
noncomputable def laws_szEntryS.fL : Option (Int) := Lim (laws_szEntryS.f · l0 a1)
theorem laws_szEntryS.fL_is : LimIs (laws_szEntryS.f · l0 a1) (laws_szEntryS.fL l0 a1) := lM (fun k => laws_szEntryS.mono l0 a1 k)
end
theorem laws_szEntryS.l0L_eq (a : List (S159)) (b c : Int) : laws_szEntryS.l0L a b c = if c < (a.length : Int) then (if 0 ≤ c then ((laws_szEntry.f ((rd_T159 a c).f0) ((rd_T159 a c).f1) ((rd_T159 a c).f2.f0) ((rd_T159 a c).f2.f1) ((rd_T159 a c).f2.f2) ((rd_T159 a c).f2.f3) b).bind fun t113 => (if t113 < 0 then (some (-1)) else (laws_szEntryS.l0L a t113 (wrap64 (c + 1))))) else (none)) else (some b) := by
  refine lU (laws_szEntryS.l0L_is a b c) (LimIs.step1 (by simp only [laws_szEntryS.l0]) ?_)
  simp only [laws_szEntryS.l0]
  repeat' with_reducible first | exact lK _ | exact laws_szEntryS.l0L_is .. | apply lI | apply lB | intro _
theorem laws_szEntryS.fL_eq (l0 : List (S159)) (a1 : Int) : laws_szEntryS.fL l0 a1 = if (wrap64 (a1 - (l0.length : Int))) < 0 then (some (-1)) else (laws_szEntryS.l0L l0 (wrap64 (a1 - (l0.length : Int))) 0) := by
  refine lU (laws_szEntryS.fL_is l0 a1) ?_
  unfold laws_szEntryS.f
  repeat' with_reducible first | exact lK _ | exact laws_szEntryS.l0L_is .. | apply lI | apply lB | intro _
/-! ### spec_KeyValid -/
section
variable (a : ByteArray) (b : Int)
noncomputable def spec_KeyValid.l0L : Option (Bool) := Lim (spec_KeyValid.l0 · a b)
theorem spec_KeyValid.l0L_is : LimIs (spec_KeyValid.l0 · a b) (spec_KeyValid.l0L a b) := lM (fun k => (spec_KeyValid.mono_l k) a b)
end
section
variable (a0 : ByteArray)
noncomputable def spec_KeyValid.fL : Option (Bool) := Lim (spec_KeyValid.f · a0)
theorem spec_KeyValid.fL_is : LimIs (spec_KeyValid.f · a0) (spec_KeyValid.fL a0) := lM (fun k => spec_KeyValid.mono a0 k)
end
theorem spec_KeyValid.l0L_eq (a : ByteArray) (b : Int) : spec_KeyValid.l0L a b = if b < (a.size : Int) then (if 0 ≤ b then (if (bt a b) < 97 then (some false) else (if (bt a b) > 122 then (some false) else (spec_KeyValid.l0L a (wrap64 (b + 1))))) else (none)) else (some true) := by
  refine lU (spec_KeyValid.l0L_is a b) (LimIs.step1 (by simp only [spec_KeyValid.l0]) ?_)
  simp only [spec_KeyValid.l0]
  repeat' with_reducible first | exact lK _ | exact spec_KeyValid.l0L_is .. | apply lI | apply lB | intro _
theorem spec_KeyValid.fL_eq (a0 : ByteArray) : spec_KeyValid.fL a0 = (spec_l1In.f (a0.size : Int) 1 4).bind fun t114 => (if t114 = true then (spec_KeyValid.l0L a0 0) else (some false)) := by
  refine lU (spec_KeyValid.fL_is a0) ?_
  unfold spec_KeyValid.f
  repeat' with_reducible first | exact lK _ | exact spec_KeyValid.l0L_is .. | apply lI | apply lB | intro _
/-! ### spec_PairsValid -/
section
variable (a : List (S181)) (b : Int)
noncomputable def spec_PairsValid.l0L : Option (Bool) := Lim (spec_PairsValid.l0 · a b)
theorem spec_PairsValid.l0L_is : LimIs (spec_PairsValid.l0 · a b) (spec_PairsValid.l0L a b) := lM (fun k => (spec_PairsValid.mono_l k) a b)
end
section
variable (l0 : List (S181))
noncomputable def spec_PairsValid.fL : Option (Bool) := Lim (spec_PairsValid.f · l0)
theorem spec_PairsValid.fL_is : LimIs (spec_PairsValid.f · l0) (spec_PairsValid.fL l0) := lM (fun k => spec_PairsValid.mono l0 k)
end
theorem spec_PairsValid.l0L_eq (a : List (S181)) (b : Int) : spec_PairsValid.l0L a b = if b < (a.length : Int) then (if 0 ≤ b then ((spec_KeyValid.fL ((rd_T181 a b).f0)).bind fun t116 => (if t116 = true then ((spec_l1In.f ((rd_T181 a b).f1) 0 999).bind fun t118 => (if t118 = true then (if b > 0 then (if 0 ≤ (wrap64 (b - 1)) then (if (wrap64 (b - 1)) < (a.length : Int) then (if ((Op.bytesLess (((rd_T181 a (wrap64 (b - 1))).f0).toList) (((rd_T181 a b).f0).toList)) = true) then (spec_PairsValid.l0L a (wrap64 (b + 1))) else (some false)) else (none)) else (none)) else (spec_PairsValid.l0L a (wrap64 (b + 1)))) else (some false))) else (some false))) else (none)) else (some true) := by
  refine lU (spec_PairsValid.l0L_is a b) (LimIs.step1 (by simp only [spec_PairsValid.l0]) ?_)
  simp only [spec_PairsValid.l0]
  repeat' with_reducible first | exact lK _ | exact spec_KeyValid.fL_is .. | exact spec_PairsValid.l0L_is .. | apply lI | apply lB | intro _
theorem spec_PairsValid.fL_eq (l0 : List (S181)) : spec_PairsValid.fL l0 = if (l0.length : Int) > 48 then (some false) else (spec_PairsValid.l0L l0 0) := by
  refine lU (spec_PairsValid.fL_is l0) ?_
  unfold spec_PairsValid.f
  repeat' with_reducible first | exact lK _ | exact spec_PairsValid.l0L_is .. | apply lI | apply lB | intro _
/-! ### spec_IntervalValid -/
section
variable (a0_0 a0_1 : ByteArray)
noncomputable def spec_IntervalValid.fL : Option (Bool) := Lim (spec_IntervalValid.f · a0_0 a0_1)
theorem spec_IntervalValid.fL_is : LimIs (spec_IntervalValid.f · a0_0 a0_1) (spec_IntervalValid.fL a0_0 a0_1) := lM (fun k => spec_IntervalValid.mono a0_0 a0_1 k)
end
theorem spec_IntervalValid.fL_eq (a0_0 a0_1 : ByteArray) : spec_IntervalValid.fL a0_0 a0_1 = if a0_0.toList = ([] : List UInt8) then (if a0_1.toList = ([] : List UInt8) then (some true) else ((spec_KeyValid.fL a0_1).bind fun t122 => (if t122 = true then (if (Op.bytesLess a0_0.toList a0_1.toList) = true then (some (a0_1.toList != ([97] : List UInt8))) else (some false)) else (some false)))) else ((spec_KeyValid.fL a0_0).bind fun t123 => (if t123 = true then (if a0_1.toList = ([] : List UInt8) then (some true) else ((spec_KeyValid.fL a0_1).bind fun t124 => (if t124 = true then (if (Op.bytesLess a0_0.toList a0_1.toList) = true then (some true) else (some false)) else (some false)))) else (some false))) := by
  refine lU (spec_IntervalValid.fL_is a0_0 a0_1) ?_
  unfold spec_IntervalValid.f
  repeat' with_reducible first | exact lK _ | exact spec_KeyValid.fL_is .. | apply lI | apply lB | intro _
/-! ### spec_IntervalCut -/
section
variable (a0_0 a0_1 a1 : ByteArray)
noncomputable def spec_IntervalCut.fL : Option (ByteArray × ByteArray × ByteArray × ByteArray × Bool) := Lim (spec_IntervalCut.f · a0_0 a0_1 a1)
theorem spec_IntervalCut.fL_is : LimIs (spec_IntervalCut.f · a0_0 a0_1 a1) (spec_IntervalCut.fL a0_0 a0_1 a1) := lM (fun k => spec_IntervalCut.mono a0_0 a0_1 a1 k)
end
theorem spec_IntervalCut.fL_eq (a0_0 a0_1 a1 : ByteArray) : spec_IntervalCut.fL a0_0 a0_1 a1 = (spec_IntervalValid.fL a0_0 a0_1).bind fun t130 => (if t130 = true then ((spec_KeyValid.fL a1).bind fun t131 => (if t131 = true then ((spec_IntervalValid.fL a0_0 a1).bind fun t132 => (if t132 = true then ((spec_IntervalValid.fL a1 a0_1).bind fun t133 => (if t133 = true then (some (a0_0, a1, a1, a0_1, true)) else (some ((⟨#[]⟩ : ByteArray), (⟨#[]⟩ : ByteArray), (⟨#[]⟩ : ByteArray), (⟨#[]⟩ : ByteArray), false)))) else (some ((⟨#[]⟩ : ByteArray), (⟨#[]⟩ : ByteArray), (⟨#[]⟩ : ByteArray), (⟨#[]⟩ : ByteArray), false)))) else (some ((⟨#[]⟩ : ByteArray), (⟨#[]⟩ : ByteArray), (⟨#[]⟩ : ByteArray), (⟨#[]⟩ : ByteArray), false)))) else (some ((⟨#[]⟩ : ByteArray), (⟨#[]⟩ : ByteArray), (⟨#[]⟩ : ByteArray), (⟨#[]⟩ : ByteArray), false))) := by
  refine lU (spec_IntervalCut.fL_is a0_0 a0_1 a1) ?_
  unfold spec_IntervalCut.f
  repeat' with_reducible first | exact lK _ | exact spec_IntervalValid.fL_is .. | exact spec_KeyValid.fL_is .. | apply lI | apply lB | intro _
/-! ### spec_SessionsValid -/
section
variable (a : List (S217)) (b : Int)
noncomputable def spec_SessionsValid.l0L : Option (Bool) := Lim (spec_SessionsValid.l0 · a b)
theorem spec_SessionsValid.l0L_is : LimIs (spec_SessionsValid.l0 · a b) (spec_SessionsValid.l0L a b) := lM (fun k => (spec_SessionsValid.mono_l k) a b)
end
section
variable (l0 : List (S217))
noncomputable def spec_SessionsValid.fL : Option (Bool) := Lim (spec_SessionsValid.f · l0)
theorem spec_SessionsValid.fL_is : LimIs (spec_SessionsValid.f · l0) (spec_SessionsValid.fL l0) := lM (fun k => spec_SessionsValid.mono l0 k)
end
theorem spec_SessionsValid.l0L_eq (a : List (S217)) (b : Int) : spec_SessionsValid.l0L a b = if b < (a.length : Int) then (if 0 ≤ b then ((spec_l1In.f ((rd_T217 a b).f0) 0 3).bind fun t136 => (if t136 = true then ((spec_l1In.f ((rd_T217 a b).f1) 1 999).bind fun t137 => (if t137 = true then ((spec_l1In.f ((rd_T217 a b).f2) (-2) 999).bind fun t138 => (if t138 = true then (if b > 0 then (if 0 ≤ (wrap64 (b - 1)) then (if (wrap64 (b - 1)) < (a.length : Int) then (if ((rd_T217 a b).f0) ≤ ((rd_T217 a (wrap64 (b - 1))).f0) then (some false) else (spec_SessionsValid.l0L a (wrap64 (b + 1)))) else (none)) else (none)) else (spec_SessionsValid.l0L a (wrap64 (b + 1)))) else (some false))) else (some false))) else (some false))) else (none)) else (some true) := by
  refine lU (spec_SessionsValid.l0L_is a b) (LimIs.step1 (by simp only [spec_SessionsValid.l0]) ?_)
  simp only [spec_SessionsValid.l0]
  repeat' with_reducible first | exact lK _ | exact spec_SessionsValid.l0L_is .. | apply lI | apply lB | intro _
theorem spec_SessionsValid.fL_eq (l0 : List (S217)) : spec_SessionsValid.fL l0 = spec_SessionsValid.l0L l0 0 := by
  refine lU (spec_SessionsValid.fL_is l0) ?_
  unfold spec_SessionsValid.f
  repeat' with_reducible first | exact lK _ | exact spec_SessionsValid.l0L_is .. | apply lI | apply lB | intro _
/-! ### spec_IntervalHas -/
section
variable (a0_0 a0_1 a1 : ByteArray)
noncomputable def spec_IntervalHas.fL : Option (Bool) := Lim (spec_IntervalHas.f · a0_0 a0_1 a1)
theorem spec_IntervalHas.fL_is : LimIs (spec_IntervalHas.f · a0_0 a0_1 a1) (spec_IntervalHas.fL a0_0 a0_1 a1) := lM (fun k => spec_IntervalHas.mono a0_0 a0_1 a1 k)
end
theorem spec_IntervalHas.fL_eq (a0_0 a0_1 a1 : ByteArray) : spec_IntervalHas.fL a0_0 a0_1 a1 = (spec_IntervalValid.fL a0_0 a0_1).bind fun t141 => (if t141 = true then ((spec_KeyValid.fL a1).bind fun t142 => (if t142 = true then (if ((Op.bytesLess a1.toList a0_0.toList) = true) then (some false) else (if a0_1.toList = ([] : List UInt8) then (some true) else (some (Op.bytesLess a1.toList a0_1.toList)))) else (some false))) else (some false)) := by
  refine lU (spec_IntervalHas.fL_is a0_0 a0_1 a1) ?_
  unfold spec_IntervalHas.f
  repeat' with_reducible first | exact lK _ | exact spec_IntervalValid.fL_is .. | exact spec_KeyValid.fL_is .. | apply lI | apply lB | intro _
/-! ### spec_StateValid -/
section
variable (a : Bool) (b c : ByteArray) (d : List (S181)) (e : List (S217)) (f : Bool) (g : ByteArray)
noncomputable def spec_StateValid.j0L : Option (Bool) := Lim (spec_StateValid.j0 · a b c d e f g)
theorem spec_StateValid.j0L_is : LimIs (spec_StateValid.j0 · a b c d e f g) (spec_StateValid.j0L a b c d e f g) := lM (fun k => (spec_StateValid.mono_l k).1 a b c d e f g)
end
section
variable (a : Int) (b c : ByteArray) (d : List (S181)) (e : List (S217)) (g : Bool) (i : ByteArray)
noncomputable def spec_StateValid.l0L : Option (Bool) := Lim (spec_StateValid.l0 · a b c d e g i)
theorem spec_StateValid.l0L_is : LimIs (spec_StateValid.l0 · a b c d e g i) (spec_StateValid.l0L a b c d e g i) := lM (fun k => (spec_StateValid.mono_l k).2 a b c d e g i)
end
section
variable (a0_0 a0_1 : ByteArray) (l0_2 : List (S181)) (l0_3 : List (S217)) (a0_4 : Bool) (a0_5 : ByteArray)
noncomputable def spec_StateValid.fL : Option (Bool) := Lim (spec_StateValid.f · a0_0 a0_1 l0_2 l0_3 a0_4 a0_5)
theorem spec_StateValid.fL_is : LimIs (spec_StateValid.f · a0_0 a0_1 l0_2 l0_3 a0_4 a0_5) (spec_StateValid.fL a0_0 a0_1 l0_2 l0_3 a0_4 a0_5) := lM (fun k => spec_StateValid.mono a0_0 a0_1 l0_2 l0_3 a0_4 a0_5 k)
end
theorem spec_StateValid.j0L_eq (a : Bool) (b c : ByteArray) (d : List (S181)) (e : List (S217)) (f : Bool) (g : ByteArray) : spec_StateValid.j0L a b c d e f g = if a = true then (some false) else (spec_StateValid.l0L 0 b c d e f g) := by
  refine lU (spec_StateValid.j0L_is a b c d e f g) (LimIs.step1 (by simp only [spec_StateValid.j0]) ?_)
  simp only [spec_StateValid.j0]
  repeat' with_reducible first | exact lK _ | exact spec_StateValid.l0L_is .. | apply lI | apply lB | intro _
theorem spec_StateValid.l0L_eq (a : Int) (b c : ByteArray) (d : List (S181)) (e : List (S217)) (g : Bool) (i : ByteArray) : spec_StateValid.l0L a b c d e g i = if a < (d.length : Int) then (if 0 ≤ a then ((spec_IntervalHas.fL b c ((rd_T181 d a).f0)).bind fun t148 => (if t148 = true then (spec_StateValid.l0L (wrap64 (a + 1)) b c d e g i) else (some false))) else (none)) else ((spec_IntervalCut.fL b c i).bind fun bt149 => (if i.toList = ([] : List UInt8) then (some true) else (if g = true then (some bt149.2.2.2.2) else (some false)))) := by
  refine lU (spec_StateValid.l0L_is a b c d e g i) (LimIs.step1 (by simp only [spec_StateValid.l0]) ?_)
  simp only [spec_StateValid.l0]
  repeat' with_reducible first | exact lK _ | exact spec_IntervalCut.fL_is .. | exact spec_IntervalHas.fL_is .. | exact spec_StateValid.l0L_is .. | apply lI | apply lB | intro _
theorem spec_StateValid.fL_eq (a0_0 a0_1 : ByteArray) (l0_2 : List (S181)) (l0_3 : List (S217)) (a0_4 : Bool) (a0_5 : ByteArray) : spec_StateValid.fL a0_0 a0_1 l0_2 l0_3 a0_4 a0_5 = (spec_IntervalValid.fL a0_0 a0_1).bind fun t144 => (if t144 = true then ((spec_PairsValid.fL l0_2).bind fun t145 => (if t145 = true then ((spec_SessionsValid.fL l0_3).bind fun t146 => (spec_StateValid.j0L (!t146) a0_0 a0_1 l0_2 l0_3 a0_4 a0_5)) else (spec_StateValid.j0L true a0_0 a0_1 l0_2 l0_3 a0_4 a0_5))) else (spec_StateValid.j0L true a0_0 a0_1 l0_2 l0_3 a0_4 a0_5)) := by
  refine lU (spec_StateValid.fL_is a0_0 a0_1 l0_2 l0_3 a0_4 a0_5) ?_
  unfold spec_StateValid.f
  repeat' with_reducible first | exact lK _ | exact spec_IntervalValid.fL_is .. | exact spec_PairsValid.fL_is .. | exact spec_SessionsValid.fL_is .. | exact spec_StateValid.j0L_is .. | apply lI | apply lB | intro _
/-! ### spec_CommandValid -/
section
variable (a : Bool) (b : Int) (c : ByteArray) (d e : Int)
noncomputable def spec_CommandValid.j0L : Option (Bool) := Lim (spec_CommandValid.j0 · a b c d e)
theorem spec_CommandValid.j0L_is : LimIs (spec_CommandValid.j0 · a b c d e) (spec_CommandValid.j0L a b c d e) := lM (fun k => (spec_CommandValid.mono_l k).1 a b c d e)
end
section
variable (a : Int) (b : Bool) (c : Int) (d : ByteArray) (e g : Int)
noncomputable def spec_CommandValid.j1L : Option (Bool) := Lim (spec_CommandValid.j1 · a b c d e g)
theorem spec_CommandValid.j1L_is : LimIs (spec_CommandValid.j1 · a b c d e g) (spec_CommandValid.j1L a b c d e g) := lM (fun k => (spec_CommandValid.mono_l k).2 a b c d e g)
end
section
variable (a0_0 : Int) (a0_1 : ByteArray) (a0_2 a0_3 : Int)
noncomputable def spec_CommandValid.fL : Option (Bool) := Lim (spec_CommandValid.f · a0_0 a0_1 a0_2 a0_3)
theorem spec_CommandValid.fL_is : LimIs (spec_CommandValid.f · a0_0 a0_1 a0_2 a0_3) (spec_CommandValid.fL a0_0 a0_1 a0_2 a0_3) := lM (fun k => spec_CommandValid.mono a0_0 a0_1 a0_2 a0_3 k)
end
theorem spec_CommandValid.j0L_eq (a : Bool) (b : Int) (c : ByteArray) (d e : Int) : spec_CommandValid.j0L a b c d e = if a = true then (some false) else (if b = 1 then (spec_CommandValid.j1L b (b == 1) b c d e) else (if b = 3 then (spec_CommandValid.j1L b (b == 3) b c d e) else (spec_CommandValid.j1L b (b == 5) b c d e))) := by
  refine lU (spec_CommandValid.j0L_is a b c d e) (LimIs.step1 (by simp only [spec_CommandValid.j0]) ?_)
  simp only [spec_CommandValid.j0]
  repeat' with_reducible first | exact lK _ | exact spec_CommandValid.j1L_is .. | apply lI | apply lB | intro _
theorem spec_CommandValid.j1L_eq (a : Int) (b : Bool) (c : Int) (d : ByteArray) (e g : Int) : spec_CommandValid.j1L a b c d e g = if b = true then (if e = 0 then (some (g == 0)) else (some false)) else (if a = 2 then ((spec_l1In.f e 0 999).bind fun t158 => (if t158 = true then (some (g == 0)) else (some false))) else (if a = 4 then ((spec_l1In.f e 0 999).bind fun t159 => (if t159 = true then ((spec_l1In.f g (-1) 999).bind fun t160 => (some t160)) else (some false))) else (some false))) := by
  refine lU (spec_CommandValid.j1L_is a b c d e g) (LimIs.step1 (by simp only [spec_CommandValid.j1]) ?_)
  simp only [spec_CommandValid.j1]
  repeat' with_reducible first | exact lK _ | apply lI | apply lB | intro _
theorem spec_CommandValid.fL_eq (a0_0 : Int) (a0_1 : ByteArray) (a0_2 a0_3 : Int) : spec_CommandValid.fL a0_0 a0_1 a0_2 a0_3 = (spec_KeyValid.fL a0_1).bind fun t157 => (if t157 = true then (spec_CommandValid.j0L false a0_0 a0_1 a0_2 a0_3) else (if a0_0 = 5 then (spec_CommandValid.j0L (a0_1.toList != ([] : List UInt8)) a0_0 a0_1 a0_2 a0_3) else (spec_CommandValid.j0L true a0_0 a0_1 a0_2 a0_3))) := by
  refine lU (spec_CommandValid.fL_is a0_0 a0_1 a0_2 a0_3) ?_
  unfold spec_CommandValid.f
  repeat' with_reducible first | exact lK _ | exact spec_CommandValid.j0L_is .. | exact spec_KeyValid.fL_is .. | apply lI | apply lB | intro _
/-! ### spec_EntryValid -/
section
variable (a0_0 a0_1 a0_2 : Int) (a0_3 : ByteArray) (a0_4 a0_5 : Int)
noncomputable def spec_EntryValid.fL : Option (Bool) := Lim (spec_EntryValid.f · a0_0 a0_1 a0_2 a0_3 a0_4 a0_5)
theorem spec_EntryValid.fL_is : LimIs (spec_EntryValid.f · a0_0 a0_1 a0_2 a0_3 a0_4 a0_5) (spec_EntryValid.fL a0_0 a0_1 a0_2 a0_3 a0_4 a0_5) := lM (fun k => spec_EntryValid.mono a0_0 a0_1 a0_2 a0_3 a0_4 a0_5 k)
end
theorem spec_EntryValid.fL_eq (a0_0 a0_1 a0_2 : Int) (a0_3 : ByteArray) (a0_4 a0_5 : Int) : spec_EntryValid.fL a0_0 a0_1 a0_2 a0_3 a0_4 a0_5 = (spec_l1In.f a0_0 0 3).bind fun t162 => (if t162 = true then ((spec_l1In.f a0_1 1 999).bind fun t163 => (if t163 = true then ((spec_CommandValid.fL a0_2 a0_3 a0_4 a0_5).bind fun t164 => (some t164)) else (some false))) else (some false)) := by
  refine lU (spec_EntryValid.fL_is a0_0 a0_1 a0_2 a0_3 a0_4 a0_5) ?_
  unfold spec_EntryValid.f
  repeat' with_reducible first | exact lK _ | exact spec_CommandValid.fL_is .. | apply lI | apply lB | intro _
/-! ### spec_l10Log -/
section
variable (a : List (S118)) (b : Int)
noncomputable def spec_l10Log.l0L : Option (Bool) := Lim (spec_l10Log.l0 · a b)
theorem spec_l10Log.l0L_is : LimIs (spec_l10Log.l0 · a b) (spec_l10Log.l0L a b) := lM (fun k => (spec_l10Log.mono_l k) a b)
end
section
variable (l0 : List (S118))
noncomputable def spec_l10Log.fL : Option (Bool) := Lim (spec_l10Log.f · l0)
theorem spec_l10Log.fL_is : LimIs (spec_l10Log.f · l0) (spec_l10Log.fL l0) := lM (fun k => spec_l10Log.mono l0 k)
end
theorem spec_l10Log.l0L_eq (a : List (S118)) (b : Int) : spec_l10Log.l0L a b = if b < (a.length : Int) then (if b ≥ 24 then (some false) else (if 0 ≤ b then ((spec_EntryValid.fL ((rd_T118 a b).f0) ((rd_T118 a b).f1) ((rd_T118 a b).f2.f0) ((rd_T118 a b).f2.f1) ((rd_T118 a b).f2.f2) ((rd_T118 a b).f2.f3)).bind fun t166 => (if t166 = true then (spec_l10Log.l0L a (wrap64 (b + 1))) else (some false))) else (none))) else (some true) := by
  refine lU (spec_l10Log.l0L_is a b) (LimIs.step1 (by simp only [spec_l10Log.l0]) ?_)
  simp only [spec_l10Log.l0]
  repeat' with_reducible first | exact lK _ | exact spec_EntryValid.fL_is .. | exact spec_l10Log.l0L_is .. | apply lI | apply lB | intro _
theorem spec_l10Log.fL_eq (l0 : List (S118)) : spec_l10Log.fL l0 = spec_l10Log.l0L l0 0 := by
  refine lU (spec_l10Log.fL_is l0) ?_
  unfold spec_l10Log.f
  repeat' with_reducible first | exact lK _ | exact spec_l10Log.l0L_is .. | apply lI | apply lB | intro _
/-! ### spec_l9Find -/
section
variable (a : List (S217)) (b c : Int)
noncomputable def spec_l9Find.l0L : Option (Int × Int × Int) := Lim (spec_l9Find.l0 · a b c)
theorem spec_l9Find.l0L_is : LimIs (spec_l9Find.l0 · a b c) (spec_l9Find.l0L a b c) := lM (fun k => (spec_l9Find.mono_l k) a b c)
end
section
variable (l0 : List (S217)) (a1 : Int)
noncomputable def spec_l9Find.fL : Option (Int × Int × Int) := Lim (spec_l9Find.f · l0 a1)
theorem spec_l9Find.fL_is : LimIs (spec_l9Find.f · l0 a1) (spec_l9Find.fL l0 a1) := lM (fun k => spec_l9Find.mono l0 a1 k)
end
theorem spec_l9Find.l0L_eq (a : List (S217)) (b c : Int) : spec_l9Find.l0L a b c = if c < (a.length : Int) then (if 0 ≤ c then (if ((rd_T217 a c).f0) = b then (some ((rd_T217 a c).f0, (rd_T217 a c).f1, (rd_T217 a c).f2)) else (spec_l9Find.l0L a b (wrap64 (c + 1)))) else (none)) else (some (0, 0, 0)) := by
  refine lU (spec_l9Find.l0L_is a b c) (LimIs.step1 (by simp only [spec_l9Find.l0]) ?_)
  simp only [spec_l9Find.l0]
  repeat' with_reducible first | exact lK _ | exact spec_l9Find.l0L_is .. | apply lI | apply lB | intro _
theorem spec_l9Find.fL_eq (l0 : List (S217)) (a1 : Int) : spec_l9Find.fL l0 a1 = spec_l9Find.l0L l0 a1 0 := by
  refine lU (spec_l9Find.fL_is l0 a1) ?_
  unfold spec_l9Find.f
  repeat' with_reducible first | exact lK _ | exact spec_l9Find.l0L_is .. | apply lI | apply lB | intro _
/-! ### spec_l4Place -/
section
variable (a : List (S181)) (b : ByteArray) (c : Int)
noncomputable def spec_l4Place.l0L : Option (Int) := Lim (spec_l4Place.l0 · a b c)
theorem spec_l4Place.l0L_is : LimIs (spec_l4Place.l0 · a b c) (spec_l4Place.l0L a b c) := lM (fun k => (spec_l4Place.mono_l k) a b c)
end
section
variable (l0 : List (S181)) (a1 : ByteArray)
noncomputable def spec_l4Place.fL : Option (Int) := Lim (spec_l4Place.f · l0 a1)
theorem spec_l4Place.fL_is : LimIs (spec_l4Place.f · l0 a1) (spec_l4Place.fL l0 a1) := lM (fun k => spec_l4Place.mono l0 a1 k)
end
theorem spec_l4Place.l0L_eq (a : List (S181)) (b : ByteArray) (c : Int) : spec_l4Place.l0L a b c = if c < (a.length : Int) then (if 0 ≤ c then (if (Op.bytesLess (((rd_T181 a c).f0).toList) b.toList) = true then (spec_l4Place.l0L a b (wrap64 (c + 1))) else (some c)) else (none)) else (some c) := by
  refine lU (spec_l4Place.l0L_is a b c) (LimIs.step1 (by simp only [spec_l4Place.l0]) ?_)
  simp only [spec_l4Place.l0]
  repeat' with_reducible first | exact lK _ | exact spec_l4Place.l0L_is .. | apply lI | apply lB | intro _
theorem spec_l4Place.fL_eq (l0 : List (S181)) (a1 : ByteArray) : spec_l4Place.fL l0 a1 = spec_l4Place.l0L l0 a1 0 := by
  refine lU (spec_l4Place.fL_is l0 a1) ?_
  unfold spec_l4Place.f
  repeat' with_reducible first | exact lK _ | exact spec_l4Place.l0L_is .. | apply lI | apply lB | intro _
/-! ### spec_PairGet -/
section
variable (l0 : List (S181)) (a1 : ByteArray)
noncomputable def spec_PairGet.fL : Option (Int) := Lim (spec_PairGet.f · l0 a1)
theorem spec_PairGet.fL_is : LimIs (spec_PairGet.f · l0 a1) (spec_PairGet.fL l0 a1) := lM (fun k => spec_PairGet.mono l0 a1 k)
end
theorem spec_PairGet.fL_eq (l0 : List (S181)) (a1 : ByteArray) : spec_PairGet.fL l0 a1 = (spec_l4Place.fL l0 a1).bind fun t185 => ((spec_PairsValid.fL l0).bind fun t186 => (if t186 = true then (if t185 = (l0.length : Int) then (some (-1)) else (if 0 ≤ t185 then (if t185 < (l0.length : Int) then (if ((rd_T181 l0 t185).f0).toList = a1.toList then (some ((rd_T181 l0 t185).f1)) else (some (-1))) else (none)) else (none))) else (some (-1)))) := by
  refine lU (spec_PairGet.fL_is l0 a1) ?_
  unfold spec_PairGet.f
  repeat' with_reducible first | exact lK _ | exact spec_PairsValid.fL_is .. | exact spec_l4Place.fL_is .. | apply lI | apply lB | intro _
/-! ### spec_PairDrop -/
section
variable (l0 : List (S181)) (a1 : ByteArray)
noncomputable def spec_PairDrop.fL : Option ((List (S181)) × Bool) := Lim (spec_PairDrop.f · l0 a1)
theorem spec_PairDrop.fL_is : LimIs (spec_PairDrop.f · l0 a1) (spec_PairDrop.fL l0 a1) := lM (fun k => spec_PairDrop.mono l0 a1 k)
end
theorem spec_PairDrop.fL_eq (l0 : List (S181)) (a1 : ByteArray) : spec_PairDrop.fL l0 a1 = (some (([] : List (S181)) : List (S181))).bind fun y189 => ((spec_PairsValid.fL l0).bind fun t192 => (if t192 = true then ((spec_l4Place.fL l0 a1).bind fun t193 => (if t193 = (l0.length : Int) then (if y189.length + l0.length < 5864062014805 then (some ((y189 ++ l0), false)) else (none)) else (if 0 ≤ t193 then (if t193 < (l0.length : Int) then (if ((rd_T181 l0 t193).f0).toList = a1.toList then (if t193 ≤ (l0.length : Int) then ((some (l0.take (t193 : Int).toNat : List (S181))).bind fun y198 => (if y189.length + y198.length < 5864062014805 then ((some (y189 ++ y198 : List (S181))).bind fun y202 => (if 0 ≤ (wrap64 (t193 + 1)) then (if (wrap64 (t193 + 1)) ≤ (l0.length : Int) then ((some (l0.drop ((wrap64 (t193 + 1)) : Int).toNat : List (S181))).bind fun y205 => (if y202.length + y205.length < 5864062014805 then (some ((y202 ++ y205), true)) else (none))) else (none)) else (none))) else (none))) else (none)) else (if y189.length + l0.length < 5864062014805 then (some ((y189 ++ l0), false)) else (none))) else (none)) else (none)))) else (some (y189, false)))) := by
  refine lU (spec_PairDrop.fL_is l0 a1) ?_
  unfold spec_PairDrop.f
  repeat' with_reducible first | exact lK _ | exact spec_PairsValid.fL_is .. | exact spec_l4Place.fL_is .. | apply lI | apply lB | intro _
/-! ### spec_PairPut -/
section
variable (a : List (S181)) (b : ByteArray) (c : Int) (d : List (S181)) (e : Bool)
noncomputable def spec_PairPut.j0L : Option ((List (S181)) × Bool) := Lim (spec_PairPut.j0 · a b c d e)
theorem spec_PairPut.j0L_is : LimIs (spec_PairPut.j0 · a b c d e) (spec_PairPut.j0L a b c d e) := lM (fun k => (spec_PairPut.mono_l k).1 a b c d e)
end
section
variable (a : List (S181)) (b : ByteArray) (c : Int) (d : List (S181)) (e : Int) (f : Bool)
noncomputable def spec_PairPut.j1L : Option ((List (S181)) × Bool) := Lim (spec_PairPut.j1 · a b c d e f)
theorem spec_PairPut.j1L_is : LimIs (spec_PairPut.j1 · a b c d e f) (spec_PairPut.j1L a b c d e f) := lM (fun k => (spec_PairPut.mono_l k).2 a b c d e f)
end
section
variable (l0 : List (S181)) (a1 : ByteArray) (a2 : Int)
noncomputable def spec_PairPut.fL : Option ((List (S181)) × Bool) := Lim (spec_PairPut.f · l0 a1 a2)
theorem spec_PairPut.fL_is : LimIs (spec_PairPut.f · l0 a1 a2) (spec_PairPut.fL l0 a1 a2) := lM (fun k => spec_PairPut.mono l0 a1 a2 k)
end
theorem spec_PairPut.j0L_eq (a : List (S181)) (b : ByteArray) (c : Int) (d : List (S181)) (e : Bool) : spec_PairPut.j0L a b c d e = if e = true then (some (d, false)) else ((spec_l4Place.fL a b).bind fun t221 => (if t221 < (a.length : Int) then (if 0 ≤ t221 then (spec_PairPut.j1L a b c d t221 (((rd_T181 a t221).f0).toList == b.toList)) else (none)) else (spec_PairPut.j1L a b c d t221 false))) := by
  refine lU (spec_PairPut.j0L_is a b c d e) (LimIs.step1 (by simp only [spec_PairPut.j0]) ?_)
  simp only [spec_PairPut.j0]
  repeat' with_reducible first | exact lK _ | exact spec_PairPut.j1L_is .. | exact spec_l4Place.fL_is .. | apply lI | apply lB | intro _
theorem spec_PairPut.j1L_eq (a : List (S181)) (b : ByteArray) (c : Int) (d : List (S181)) (e : Int) (f : Bool) : spec_PairPut.j1L a b c d e f = if f = true then (if d.length + a.length < 5864062014805 then ((some (d ++ a : List (S181))).bind fun y223 => (if 0 ≤ e then (if e < (y223.length : Int) then (some ((y223.set (e : Int).toNat (⟨(rd_T181 y223 e).f0, c⟩ : S181)), true)) else (none)) else (none))) else (none)) else (if (a.length : Int) ≥ 48 then (if d.length + a.length < 5864062014805 then (some ((d ++ a), false)) else (none)) else (if 0 ≤ e then (if e ≤ (a.length : Int) then ((some (a.take (e : Int).toNat : List (S181))).bind fun y230 => (if d.length + y230.length < 5864062014805 then ((some (d ++ y230 : List (S181))).bind fun y234 => (if y234.length < 5864062014805 then ((some (y234 ++ [(⟨b, c⟩ : S181)] : List (S181))).bind fun y237 => ((some (a.drop (e : Int).toNat : List (S181))).bind fun y240 => (if y237.length + y240.length < 5864062014805 then (some ((y237 ++ y240), true)) else (none)))) else (none))) else (none))) else (none)) else (none))) := by
  refine lU (spec_PairPut.j1L_is a b c d e f) (LimIs.step1 (by simp only [spec_PairPut.j1]) ?_)
  simp only [spec_PairPut.j1]
  repeat' with_reducible first | exact lK _ | apply lI | apply lB | intro _
theorem spec_PairPut.fL_eq (l0 : List (S181)) (a1 : ByteArray) (a2 : Int) : spec_PairPut.fL l0 a1 a2 = (some (([] : List (S181)) : List (S181))).bind fun y215 => ((spec_PairsValid.fL l0).bind fun t218 => (if t218 = true then ((spec_KeyValid.fL a1).bind fun t219 => (if t219 = true then ((spec_l1In.f a2 0 999).bind fun t220 => (spec_PairPut.j0L l0 a1 a2 y215 (!t220))) else (spec_PairPut.j0L l0 a1 a2 y215 true))) else (spec_PairPut.j0L l0 a1 a2 y215 true))) := by
  refine lU (spec_PairPut.fL_is l0 a1 a2) ?_
  unfold spec_PairPut.f
  repeat' with_reducible first | exact lK _ | exact spec_KeyValid.fL_is .. | exact spec_PairPut.j0L_is .. | exact spec_PairsValid.fL_is .. | apply lI | apply lB | intro _
/-! ### spec_ApplyCommand -/
section
variable (a : List (S181)) (b : Bool) (c : Int) (d : ByteArray) (e g : Int)
noncomputable def spec_ApplyCommand.j0L : Option ((List (S181)) × Int) := Lim (spec_ApplyCommand.j0 · a b c d e g)
theorem spec_ApplyCommand.j0L_is : LimIs (spec_ApplyCommand.j0 · a b c d e g) (spec_ApplyCommand.j0L a b c d e g) := lM (fun k => (spec_ApplyCommand.mono_l k).1 a b c d e g)
end
section
variable (a b : List (S181)) (c : Int) (d : Bool) (e : Int) (g : ByteArray) (i j : Int)
noncomputable def spec_ApplyCommand.j1L : Option ((List (S181)) × Int) := Lim (spec_ApplyCommand.j1 · a b c d e g i j)
theorem spec_ApplyCommand.j1L_is : LimIs (spec_ApplyCommand.j1 · a b c d e g i j) (spec_ApplyCommand.j1L a b c d e g i j) := lM (fun k => (spec_ApplyCommand.mono_l k).2 a b c d e g i j)
end
section
variable (l0 : List (S181)) (a1_0 : Int) (a1_1 : ByteArray) (a1_2 a1_3 : Int)
noncomputable def spec_ApplyCommand.fL : Option ((List (S181)) × Int) := Lim (spec_ApplyCommand.f · l0 a1_0 a1_1 a1_2 a1_3)
theorem spec_ApplyCommand.fL_is : LimIs (spec_ApplyCommand.f · l0 a1_0 a1_1 a1_2 a1_3) (spec_ApplyCommand.fL l0 a1_0 a1_1 a1_2 a1_3) := lM (fun k => spec_ApplyCommand.mono l0 a1_0 a1_1 a1_2 a1_3 k)
end
theorem spec_ApplyCommand.j0L_eq (a : List (S181)) (b : Bool) (c : Int) (d : ByteArray) (e g : Int) : spec_ApplyCommand.j0L a b c d e g = if b = true then (some ((([] : List (S181))), (-3))) else ((some (([] : List (S181)) : List (S181))).bind fun y253 => (if y253.length + a.length < 5864062014805 then ((some (y253 ++ a : List (S181))).bind fun y256 => ((spec_PairGet.fL a d).bind fun t259 => (if c = 1 then (spec_ApplyCommand.j1L a y256 t259 true c d e g) else (if c = 4 then (spec_ApplyCommand.j1L a y256 t259 (g != t259) c d e g) else (spec_ApplyCommand.j1L a y256 t259 false c d e g))))) else (none))) := by
  refine lU (spec_ApplyCommand.j0L_is a b c d e g) (LimIs.step1 (by simp only [spec_ApplyCommand.j0]) ?_)
  simp only [spec_ApplyCommand.j0]
  repeat' with_reducible first | exact lK _ | exact spec_ApplyCommand.j1L_is .. | exact spec_PairGet.fL_is .. | apply lI | apply lB | intro _
theorem spec_ApplyCommand.j1L_eq (a b : List (S181)) (c : Int) (d : Bool) (e : Int) (g : ByteArray) (i j : Int) : spec_ApplyCommand.j1L a b c d e g i j = if d = true then (some (b, c)) else (if e = 3 then ((spec_PairDrop.fL a g).bind fun bt260 => (some (bt260.1, c))) else (if c < 0 then (if (a.length : Int) ≥ 8 then (some (b, (-2))) else ((spec_PairPut.fL a g i).bind fun bt264 => (some (bt264.1, c)))) else ((spec_PairPut.fL a g i).bind fun bt268 => (some (bt268.1, c))))) := by
  refine lU (spec_ApplyCommand.j1L_is a b c d e g i j) (LimIs.step1 (by simp only [spec_ApplyCommand.j1]) ?_)
  simp only [spec_ApplyCommand.j1]
  repeat' with_reducible first | exact lK _ | exact spec_PairDrop.fL_is .. | exact spec_PairPut.fL_is .. | apply lI | apply lB | intro _
theorem spec_ApplyCommand.fL_eq (l0 : List (S181)) (a1_0 : Int) (a1_1 : ByteArray) (a1_2 a1_3 : Int) : spec_ApplyCommand.fL l0 a1_0 a1_1 a1_2 a1_3 = (spec_PairsValid.fL l0).bind fun t248 => (if t248 = true then ((spec_CommandValid.fL a1_0 a1_1 a1_2 a1_3).bind fun t249 => (if t249 = true then (spec_ApplyCommand.j0L l0 (a1_0 == 5) a1_0 a1_1 a1_2 a1_3) else (spec_ApplyCommand.j0L l0 true a1_0 a1_1 a1_2 a1_3))) else (spec_ApplyCommand.j0L l0 true a1_0 a1_1 a1_2 a1_3)) := by
  refine lU (spec_ApplyCommand.fL_is l0 a1_0 a1_1 a1_2 a1_3) ?_
  unfold spec_ApplyCommand.f
  repeat' with_reducible first | exact lK _ | exact spec_ApplyCommand.j0L_is .. | exact spec_CommandValid.fL_is .. | exact spec_PairsValid.fL_is .. | apply lI | apply lB | intro _
/-! ### spec_SessionSeq -/
section
variable (l0 : List (S217)) (a1 : Int)
noncomputable def spec_SessionSeq.fL : Option (Int) := Lim (spec_SessionSeq.f · l0 a1)
theorem spec_SessionSeq.fL_is : LimIs (spec_SessionSeq.f · l0 a1) (spec_SessionSeq.fL l0 a1) := lM (fun k => spec_SessionSeq.mono l0 a1 k)
end
theorem spec_SessionSeq.fL_eq (l0 : List (S217)) (a1 : Int) : spec_SessionSeq.fL l0 a1 = (spec_SessionsValid.fL l0).bind fun t272 => (if t272 = true then ((spec_l1In.f a1 0 3).bind fun t273 => (if t273 = true then ((spec_l9Find.fL l0 a1).bind fun bt274 => (some bt274.2.1)) else (some (-1)))) else (some (-1))) := by
  refine lU (spec_SessionSeq.fL_is l0 a1) ?_
  unfold spec_SessionSeq.f
  repeat' with_reducible first | exact lK _ | exact spec_SessionsValid.fL_is .. | exact spec_l9Find.fL_is .. | apply lI | apply lB | intro _
/-! ### spec_SessionPut -/
section
variable (a b : List (S217)) (c : Bool) (d e g : Int)
noncomputable def spec_SessionPut.j0L : Option ((List (S217)) × Bool) := Lim (spec_SessionPut.j0 · a b c d e g)
theorem spec_SessionPut.j0L_is : LimIs (spec_SessionPut.j0 · a b c d e g) (spec_SessionPut.j0L a b c d e g) := lM (fun k => (spec_SessionPut.mono_l k).1 a b c d e g)
end
section
variable (a b : List (S217)) (c : Bool) (d e f g : Int)
noncomputable def spec_SessionPut.l0L : Option ((List (S217)) × Bool) := Lim (spec_SessionPut.l0 · a b c d e f g)
theorem spec_SessionPut.l0L_is : LimIs (spec_SessionPut.l0 · a b c d e f g) (spec_SessionPut.l0L a b c d e f g) := lM (fun k => (spec_SessionPut.mono_l k).2.1 a b c d e f g)
end
section
variable (a b : List (S217)) (c : Bool) (d : Int) (e : Bool) (f g i : Int)
noncomputable def spec_SessionPut.j2L : Option ((List (S217)) × Bool) := Lim (spec_SessionPut.j2 · a b c d e f g i)
theorem spec_SessionPut.j2L_is : LimIs (spec_SessionPut.j2 · a b c d e f g i) (spec_SessionPut.j2L a b c d e f g i) := lM (fun k => (spec_SessionPut.mono_l k).2.2 a b c d e f g i)
end
section
variable (l0 : List (S217)) (a1_0 a1_1 a1_2 : Int)
noncomputable def spec_SessionPut.fL : Option ((List (S217)) × Bool) := Lim (spec_SessionPut.f · l0 a1_0 a1_1 a1_2)
theorem spec_SessionPut.fL_is : LimIs (spec_SessionPut.f · l0 a1_0 a1_1 a1_2) (spec_SessionPut.fL l0 a1_0 a1_1 a1_2) := lM (fun k => spec_SessionPut.mono l0 a1_0 a1_1 a1_2 k)
end
theorem spec_SessionPut.j0L_eq (a b : List (S217)) (c : Bool) (d e g : Int) : spec_SessionPut.j0L a b c d e g = if c = true then (some (b, false)) else ((spec_SessionSeq.fL a d).bind fun t286 => (if t286 ≥ e then (if b.length + a.length < 5864062014805 then (some ((b ++ a), false)) else (none)) else (spec_SessionPut.l0L a b false 0 d e g))) := by
  refine lU (spec_SessionPut.j0L_is a b c d e g) (LimIs.step1 (by simp only [spec_SessionPut.j0]) ?_)
  simp only [spec_SessionPut.j0]
  repeat' with_reducible first | exact lK _ | exact spec_SessionPut.l0L_is .. | exact spec_SessionSeq.fL_is .. | apply lI | apply lB | intro _
theorem spec_SessionPut.l0L_eq (a b : List (S217)) (c : Bool) (d e f g : Int) : spec_SessionPut.l0L a b c d e f g = if d < (a.length : Int) then (if c = true then (spec_SessionPut.j2L a b c d false e f g) else (if 0 ≤ d then (spec_SessionPut.j2L a b c d (decide (((rd_T217 a d).f0) ≥ e)) e f g) else (none))) else (if c = true then (some (b, true)) else (if b.length < 5864062014805 then (some ((b ++ [(⟨e, f, g⟩ : S217)]), true)) else (none))) := by
  refine lU (spec_SessionPut.l0L_is a b c d e f g) (LimIs.step1 (by simp only [spec_SessionPut.l0]) ?_)
  simp only [spec_SessionPut.l0]
  repeat' with_reducible first | exact lK _ | exact spec_SessionPut.j2L_is .. | apply lI | apply lB | intro _
theorem spec_SessionPut.j2L_eq (a b : List (S217)) (c : Bool) (d : Int) (e : Bool) (f g i : Int) : spec_SessionPut.j2L a b c d e f g i = if e = true then (if b.length < 5864062014805 then ((some (b ++ [(⟨f, g, i⟩ : S217)] : List (S217))).bind fun y294 => (if 0 ≤ d then (if d < (a.length : Int) then (if ((rd_T217 a d).f0) = f then (spec_SessionPut.l0L a y294 true (wrap64 (d + 1)) f g i) else (if y294.length < 5864062014805 then (spec_SessionPut.l0L a (y294 ++ [(⟨(rd_T217 a d).f0, (rd_T217 a d).f1, (rd_T217 a d).f2⟩ : S217)]) true (wrap64 (d + 1)) f g i) else (none))) else (none)) else (none))) else (none)) else (if 0 ≤ d then (if d < (a.length : Int) then (if ((rd_T217 a d).f0) = f then (spec_SessionPut.l0L a b c (wrap64 (d + 1)) f g i) else (if b.length < 5864062014805 then (spec_SessionPut.l0L a (b ++ [(⟨(rd_T217 a d).f0, (rd_T217 a d).f1, (rd_T217 a d).f2⟩ : S217)]) c (wrap64 (d + 1)) f g i) else (none))) else (none)) else (none)) := by
  refine lU (spec_SessionPut.j2L_is a b c d e f g i) (LimIs.step1 (by simp only [spec_SessionPut.j2]) ?_)
  simp only [spec_SessionPut.j2]
  repeat' with_reducible first | exact lK _ | exact spec_SessionPut.l0L_is .. | apply lI | apply lB | intro _
theorem spec_SessionPut.fL_eq (l0 : List (S217)) (a1_0 a1_1 a1_2 : Int) : spec_SessionPut.fL l0 a1_0 a1_1 a1_2 = (some (([] : List (S217)) : List (S217))).bind fun y278 => ((spec_SessionsValid.fL l0).bind fun t281 => (if t281 = true then ((spec_SessionsValid.fL (([(⟨a1_0, a1_1, a1_2⟩ : S217)] : List (S217)))).bind fun t285 => (spec_SessionPut.j0L l0 y278 (!t285) a1_0 a1_1 a1_2)) else (spec_SessionPut.j0L l0 y278 true a1_0 a1_1 a1_2))) := by
  refine lU (spec_SessionPut.fL_is l0 a1_0 a1_1 a1_2) ?_
  unfold spec_SessionPut.f
  repeat' with_reducible first | exact lK _ | exact spec_SessionPut.j0L_is .. | exact spec_SessionsValid.fL_is .. | apply lI | apply lB | intro _
/-! ### spec_ApplyEntry -/
section
variable (a : Bool) (b c : ByteArray) (d : List (S181)) (e : List (S217)) (g : Bool) (i : ByteArray) (j l m : Int) (n : ByteArray) (o p : Int)
noncomputable def spec_ApplyEntry.j0L : Option (ByteArray × ByteArray × (List (S181)) × (List (S217)) × Bool × ByteArray × Int) := Lim (spec_ApplyEntry.j0 · a b c d e g i j l m n o p)
theorem spec_ApplyEntry.j0L_is : LimIs (spec_ApplyEntry.j0 · a b c d e g i j l m n o p) (spec_ApplyEntry.j0L a b c d e g i j l m n o p) := lM (fun k => (spec_ApplyEntry.mono_l k).1 a b c d e g i j l m n o p)
end
section
variable (a b : Bool) (c d : ByteArray) (e : List (S181)) (g : List (S217)) (i : Bool) (j : ByteArray) (l m n : Int) (o : ByteArray) (p q : Int) (s u : ByteArray) (v : List (S181)) (w : List (S217)) (x : Bool) (y : ByteArray)
noncomputable def spec_ApplyEntry.j1L : Option (ByteArray × ByteArray × (List (S181)) × (List (S217)) × Bool × ByteArray × Int) := Lim (spec_ApplyEntry.j1 · a b c d e g i j l m n o p q s u v w x y)
theorem spec_ApplyEntry.j1L_is : LimIs (spec_ApplyEntry.j1 · a b c d e g i j l m n o p q s u v w x y) (spec_ApplyEntry.j1L a b c d e g i j l m n o p q s u v w x y) := lM (fun k => (spec_ApplyEntry.mono_l k).2 a b c d e g i j l m n o p q s u v w x y)
end
section
variable (a0_0 a0_1 : ByteArray) (l0_2 : List (S181)) (l0_3 : List (S217)) (a0_4 : Bool) (a0_5 : ByteArray) (a1_0 a1_1 a1_2 : Int) (a1_3 : ByteArray) (a1_4 a1_5 : Int)
noncomputable def spec_ApplyEntry.fL : Option (ByteArray × ByteArray × (List (S181)) × (List (S217)) × Bool × ByteArray × Int) := Lim (spec_ApplyEntry.f · a0_0 a0_1 l0_2 l0_3 a0_4 a0_5 a1_0 a1_1 a1_2 a1_3 a1_4 a1_5)
theorem spec_ApplyEntry.fL_is : LimIs (spec_ApplyEntry.f · a0_0 a0_1 l0_2 l0_3 a0_4 a0_5 a1_0 a1_1 a1_2 a1_3 a1_4 a1_5) (spec_ApplyEntry.fL a0_0 a0_1 l0_2 l0_3 a0_4 a0_5 a1_0 a1_1 a1_2 a1_3 a1_4 a1_5) := lM (fun k => spec_ApplyEntry.mono a0_0 a0_1 l0_2 l0_3 a0_4 a0_5 a1_0 a1_1 a1_2 a1_3 a1_4 a1_5 k)
end
theorem spec_ApplyEntry.j0L_eq (a : Bool) (b c : ByteArray) (d : List (S181)) (e : List (S217)) (g : Bool) (i : ByteArray) (j l m : Int) (n : ByteArray) (o p : Int) : spec_ApplyEntry.j0L a b c d e g i j l m n o p = if a = true then (some ((⟨#[]⟩ : ByteArray), (⟨#[]⟩ : ByteArray), ([] : List (S181)), ([] : List (S217)), false, (⟨#[]⟩ : ByteArray), (-3))) else ((spec_l10Copy.f b c d e g i).bind fun bt312 => ((spec_l9Find.fL e j).bind fun bt323 => (if bt323.2.1 = l then (some (bt312.1, bt312.2.1, bt312.2.2.1, bt312.2.2.2.1, bt312.2.2.2.2.1, bt312.2.2.2.2.2, bt323.2.2)) else (if bt323.2.1 > l then (some (bt312.1, bt312.2.1, bt312.2.2.1, bt312.2.2.2.1, bt312.2.2.2.2.1, bt312.2.2.2.2.2, (-4))) else (if g = true then (some (bt312.1, bt312.2.1, bt312.2.2.1, bt312.2.2.2.1, bt312.2.2.2.2.1, bt312.2.2.2.2.2, (-3))) else ((spec_IntervalCut.fL b c n).bind fun bt327 => (if m = 5 then (if n.toList = ([] : List UInt8) then (spec_ApplyEntry.j1L (m == 5) false b c d e g i j l m n o p bt312.1 bt312.2.1 bt312.2.2.1 bt312.2.2.2.1 bt312.2.2.2.2.1 bt312.2.2.2.2.2) else (if bt327.2.2.2.2 = true then (spec_ApplyEntry.j1L (m == 5) false b c d e g i j l m n o p bt312.1 bt312.2.1 bt312.2.2.1 bt312.2.2.2.1 bt312.2.2.2.2.1 bt312.2.2.2.2.2) else (spec_ApplyEntry.j1L (m == 5) true b c d e g i j l m n o p bt312.1 bt312.2.1 bt312.2.2.1 bt312.2.2.2.1 bt312.2.2.2.2.1 bt312.2.2.2.2.2))) else ((spec_IntervalHas.fL b c n).bind fun t334 => (spec_ApplyEntry.j1L (m == 5) (!t334) b c d e g i j l m n o p bt312.1 bt312.2.1 bt312.2.2.1 bt312.2.2.2.1 bt312.2.2.2.2.1 bt312.2.2.2.2.2))))))))) := by
  refine lU (spec_ApplyEntry.j0L_is a b c d e g i j l m n o p) (LimIs.step1 (by simp only [spec_ApplyEntry.j0]) ?_)
  simp only [spec_ApplyEntry.j0]
  repeat' with_reducible first | exact lK _ | exact spec_ApplyEntry.j1L_is .. | exact spec_IntervalCut.fL_is .. | exact spec_IntervalHas.fL_is .. | exact spec_l9Find.fL_is .. | apply lI | apply lB | intro _
theorem spec_ApplyEntry.j1L_eq (a b : Bool) (c d : ByteArray) (e : List (S181)) (g : List (S217)) (i : Bool) (j : ByteArray) (l m n : Int) (o : ByteArray) (p q : Int) (s u : ByteArray) (v : List (S181)) (w : List (S217)) (x : Bool) (y : ByteArray) : spec_ApplyEntry.j1L a b c d e g i j l m n o p q s u v w x y = if b = true then (some (s, u, v, w, x, y, (-3))) else (if a = true then ((spec_SessionPut.fL w l m 0).bind fun bt335 => (some (s, u, v, bt335.1, true, o, 0))) else ((spec_ApplyCommand.fL e n o p q).bind fun bt339 => ((spec_SessionPut.fL w l m bt339.2).bind fun bt343 => (some (s, u, bt339.1, bt343.1, x, y, bt339.2))))) := by
  refine lU (spec_ApplyEntry.j1L_is a b c d e g i j l m n o p q s u v w x y) (LimIs.step1 (by simp only [spec_ApplyEntry.j1]) ?_)
  simp only [spec_ApplyEntry.j1]
  repeat' with_reducible first | exact lK _ | exact spec_ApplyCommand.fL_is .. | exact spec_SessionPut.fL_is .. | apply lI | apply lB | intro _
theorem spec_ApplyEntry.fL_eq (a0_0 a0_1 : ByteArray) (l0_2 : List (S181)) (l0_3 : List (S217)) (a0_4 : Bool) (a0_5 : ByteArray) (a1_0 a1_1 a1_2 : Int) (a1_3 : ByteArray) (a1_4 a1_5 : Int) : spec_ApplyEntry.fL a0_0 a0_1 l0_2 l0_3 a0_4 a0_5 a1_0 a1_1 a1_2 a1_3 a1_4 a1_5 = (spec_StateValid.fL a0_0 a0_1 l0_2 l0_3 a0_4 a0_5).bind fun t310 => (if t310 = true then ((spec_EntryValid.fL a1_0 a1_1 a1_2 a1_3 a1_4 a1_5).bind fun t311 => (spec_ApplyEntry.j0L (!t311) a0_0 a0_1 l0_2 l0_3 a0_4 a0_5 a1_0 a1_1 a1_2 a1_3 a1_4 a1_5)) else (spec_ApplyEntry.j0L true a0_0 a0_1 l0_2 l0_3 a0_4 a0_5 a1_0 a1_1 a1_2 a1_3 a1_4 a1_5)) := by
  refine lU (spec_ApplyEntry.fL_is a0_0 a0_1 l0_2 l0_3 a0_4 a0_5 a1_0 a1_1 a1_2 a1_3 a1_4 a1_5) ?_
  unfold spec_ApplyEntry.f
  repeat' with_reducible first | exact lK _ | exact spec_ApplyEntry.j0L_is .. | exact spec_EntryValid.fL_is .. | exact spec_StateValid.fL_is .. | apply lI | apply lB | intro _
/-! ### spec_ChangesOf -/
section
variable (a : List (S118)) (b : List (S106)) (c : Bool) (d e : ByteArray) (g : List (S181)) (i : List (S217)) (j : Bool) (l : ByteArray)
noncomputable def spec_ChangesOf.j0L : Option ((List (S106))) := Lim (spec_ChangesOf.j0 · a b c d e g i j l)
theorem spec_ChangesOf.j0L_is : LimIs (spec_ChangesOf.j0 · a b c d e g i j l) (spec_ChangesOf.j0L a b c d e g i j l) := lM (fun k => (spec_ChangesOf.mono_l k).1 a b c d e g i j l)
end
section
variable (a : List (S118)) (b : List (S106)) (c : Int) (d e : ByteArray) (g : List (S181)) (i : List (S217)) (j : Bool) (l : ByteArray)
noncomputable def spec_ChangesOf.l0L : Option ((List (S106))) := Lim (spec_ChangesOf.l0 · a b c d e g i j l)
theorem spec_ChangesOf.l0L_is : LimIs (spec_ChangesOf.l0 · a b c d e g i j l) (spec_ChangesOf.l0L a b c d e g i j l) := lM (fun k => (spec_ChangesOf.mono_l k).2 a b c d e g i j l)
end
section
variable (a0_0 a0_1 : ByteArray) (l0_2 : List (S181)) (l0_3 : List (S217)) (a0_4 : Bool) (a0_5 : ByteArray) (l1 : List (S118))
noncomputable def spec_ChangesOf.fL : Option ((List (S106))) := Lim (spec_ChangesOf.f · a0_0 a0_1 l0_2 l0_3 a0_4 a0_5 l1)
theorem spec_ChangesOf.fL_is : LimIs (spec_ChangesOf.f · a0_0 a0_1 l0_2 l0_3 a0_4 a0_5 l1) (spec_ChangesOf.fL a0_0 a0_1 l0_2 l0_3 a0_4 a0_5 l1) := lM (fun k => spec_ChangesOf.mono a0_0 a0_1 l0_2 l0_3 a0_4 a0_5 l1 k)
end
theorem spec_ChangesOf.j0L_eq (a : List (S118)) (b : List (S106)) (c : Bool) (d e : ByteArray) (g : List (S181)) (i : List (S217)) (j : Bool) (l : ByteArray) : spec_ChangesOf.j0L a b c d e g i j l = if c = true then (some b) else ((spec_l10Copy.f d e g i j l).bind fun bt353 => (spec_ChangesOf.l0L a b 0 bt353.1 bt353.2.1 bt353.2.2.1 bt353.2.2.2.1 bt353.2.2.2.2.1 bt353.2.2.2.2.2)) := by
  refine lU (spec_ChangesOf.j0L_is a b c d e g i j l) (LimIs.step1 (by simp only [spec_ChangesOf.j0]) ?_)
  simp only [spec_ChangesOf.j0]
  repeat' with_reducible first | exact lK _ | exact spec_ChangesOf.l0L_is .. | apply lI | apply lB | intro _
theorem spec_ChangesOf.l0L_eq (a : List (S118)) (b : List (S106)) (c : Int) (d e : ByteArray) (g : List (S181)) (i : List (S217)) (j : Bool) (l : ByteArray) : spec_ChangesOf.l0L a b c d e g i j l = if c < (a.length : Int) then (if 0 ≤ c then ((spec_ApplyEntry.fL d e g i j l ((rd_T118 a c).f0) ((rd_T118 a c).f1) ((rd_T118 a c).f2.f0) ((rd_T118 a c).f2.f1) ((rd_T118 a c).f2.f2) ((rd_T118 a c).f2.f3)).bind fun bt366 => ((spec_PairGet.fL g ((rd_T118 a c).f2.f1)).bind fun t378 => ((spec_PairGet.fL bt366.2.2.1 ((rd_T118 a c).f2.f1)).bind fun t379 => (if t378 = t379 then (spec_ChangesOf.l0L a b (wrap64 (c + 1)) bt366.1 bt366.2.1 bt366.2.2.1 bt366.2.2.2.1 bt366.2.2.2.2.1 bt366.2.2.2.2.2.1) else (if b.length < 3518437208883 then (spec_ChangesOf.l0L a (b ++ [(⟨c, (rd_T118 a c).f2.f1, t378, t379⟩ : S106)]) (wrap64 (c + 1)) bt366.1 bt366.2.1 bt366.2.2.1 bt366.2.2.2.1 bt366.2.2.2.2.1 bt366.2.2.2.2.2.1) else (none)))))) else (none)) else (some b) := by
  refine lU (spec_ChangesOf.l0L_is a b c d e g i j l) (LimIs.step1 (by simp only [spec_ChangesOf.l0]) ?_)
  simp only [spec_ChangesOf.l0]
  repeat' with_reducible first | exact lK _ | exact spec_ApplyEntry.fL_is .. | exact spec_ChangesOf.l0L_is .. | exact spec_PairGet.fL_is .. | apply lI | apply lB | intro _
theorem spec_ChangesOf.fL_eq (a0_0 a0_1 : ByteArray) (l0_2 : List (S181)) (l0_3 : List (S217)) (a0_4 : Bool) (a0_5 : ByteArray) (l1 : List (S118)) : spec_ChangesOf.fL a0_0 a0_1 l0_2 l0_3 a0_4 a0_5 l1 = (some (([] : List (S106)) : List (S106))).bind fun y348 => ((spec_StateValid.fL a0_0 a0_1 l0_2 l0_3 a0_4 a0_5).bind fun t351 => (if t351 = true then ((spec_l10Log.fL l1).bind fun t352 => (spec_ChangesOf.j0L l1 y348 (!t352) a0_0 a0_1 l0_2 l0_3 a0_4 a0_5)) else (spec_ChangesOf.j0L l1 y348 true a0_0 a0_1 l0_2 l0_3 a0_4 a0_5))) := by
  refine lU (spec_ChangesOf.fL_is a0_0 a0_1 l0_2 l0_3 a0_4 a0_5 l1) ?_
  unfold spec_ChangesOf.f
  repeat' with_reducible first | exact lK _ | exact spec_ChangesOf.j0L_is .. | exact spec_StateValid.fL_is .. | exact spec_l10Log.fL_is .. | apply lI | apply lB | intro _
/-! ### laws_toPairS -/
section
variable (a : List (S215)) (b : List (S181)) (c : Int)
noncomputable def laws_toPairS.l0L : Option ((List (S181))) := Lim (laws_toPairS.l0 · a b c)
theorem laws_toPairS.l0L_is : LimIs (laws_toPairS.l0 · a b c) (laws_toPairS.l0L a b c) := lM (fun k => (laws_toPairS.mono_l k) a b c)
end
section
variable (l0 : List (S215))
noncomputable def laws_toPairS.fL : Option ((List (S181))) := Lim (laws_toPairS.f · l0)
theorem laws_toPairS.fL_is : LimIs (laws_toPairS.f · l0) (laws_toPairS.fL l0) := lM (fun k => laws_toPairS.mono l0 k)
end
theorem laws_toPairS.l0L_eq (a : List (S215)) (b : List (S181)) (c : Int) : laws_toPairS.l0L a b c = if c < (a.length : Int) then (if 0 ≤ c then ((laws_toPair.f ((rd_T215 a c).f0) ((rd_T215 a c).f1)).bind fun bt393 => (if c < (b.length : Int) then (laws_toPairS.l0L a (b.set (c : Int).toNat (⟨bt393.1, bt393.2⟩ : S181)) (wrap64 (c + 1))) else (none))) else (none)) else (some b) := by
  refine lU (laws_toPairS.l0L_is a b c) (LimIs.step1 (by simp only [laws_toPairS.l0]) ?_)
  simp only [laws_toPairS.l0]
  repeat' with_reducible first | exact lK _ | exact laws_toPairS.l0L_is .. | apply lI | apply lB | intro _
theorem laws_toPairS.fL_eq (l0 : List (S215)) : laws_toPairS.fL l0 = if 0 ≤ (l0.length : Int) then (if ((l0.length : Int) : Int).toNat ≤ 11728124029610 then (laws_toPairS.l0L l0 (List.replicate ((l0.length : Int) : Int).toNat z181) 0) else (none)) else (none) := by
  refine lU (laws_toPairS.fL_is l0) ?_
  unfold laws_toPairS.f
  repeat' with_reducible first | exact lK _ | exact laws_toPairS.l0L_is .. | apply lI | apply lB | intro _
/-! ### laws_toSessionS -/
section
variable (a : List (S225)) (b : List (S217)) (c : Int)
noncomputable def laws_toSessionS.l0L : Option ((List (S217))) := Lim (laws_toSessionS.l0 · a b c)
theorem laws_toSessionS.l0L_is : LimIs (laws_toSessionS.l0 · a b c) (laws_toSessionS.l0L a b c) := lM (fun k => (laws_toSessionS.mono_l k) a b c)
end
section
variable (l0 : List (S225))
noncomputable def laws_toSessionS.fL : Option ((List (S217))) := Lim (laws_toSessionS.f · l0)
theorem laws_toSessionS.fL_is : LimIs (laws_toSessionS.f · l0) (laws_toSessionS.fL l0) := lM (fun k => laws_toSessionS.mono l0 k)
end
theorem laws_toSessionS.l0L_eq (a : List (S225)) (b : List (S217)) (c : Int) : laws_toSessionS.l0L a b c = if c < (a.length : Int) then (if 0 ≤ c then ((laws_toSession.f ((rd_T225 a c).f0) ((rd_T225 a c).f1) ((rd_T225 a c).f2)).bind fun bt403 => (if c < (b.length : Int) then (laws_toSessionS.l0L a (b.set (c : Int).toNat (⟨bt403.1, bt403.2.1, bt403.2.2⟩ : S217)) (wrap64 (c + 1))) else (none))) else (none)) else (some b) := by
  refine lU (laws_toSessionS.l0L_is a b c) (LimIs.step1 (by simp only [laws_toSessionS.l0]) ?_)
  simp only [laws_toSessionS.l0]
  repeat' with_reducible first | exact lK _ | exact laws_toSessionS.l0L_is .. | apply lI | apply lB | intro _
theorem laws_toSessionS.fL_eq (l0 : List (S225)) : laws_toSessionS.fL l0 = if 0 ≤ (l0.length : Int) then (if ((l0.length : Int) : Int).toNat ≤ 11728124029610 then (laws_toSessionS.l0L l0 (List.replicate ((l0.length : Int) : Int).toNat z217) 0) else (none)) else (none) := by
  refine lU (laws_toSessionS.fL_is l0) ?_
  unfold laws_toSessionS.f
  repeat' with_reducible first | exact lK _ | exact laws_toSessionS.l0L_is .. | apply lI | apply lB | intro _
/-! ### laws_toState -/
section
variable (a0_0 a0_1 : ByteArray) (l0_2 : List (S215)) (l0_3 : List (S225)) (a0_4 : Bool) (a0_5 : ByteArray)
noncomputable def laws_toState.fL : Option (ByteArray × ByteArray × (List (S181)) × (List (S217)) × Bool × ByteArray) := Lim (laws_toState.f · a0_0 a0_1 l0_2 l0_3 a0_4 a0_5)
theorem laws_toState.fL_is : LimIs (laws_toState.f · a0_0 a0_1 l0_2 l0_3 a0_4 a0_5) (laws_toState.fL a0_0 a0_1 l0_2 l0_3 a0_4 a0_5) := lM (fun k => laws_toState.mono a0_0 a0_1 l0_2 l0_3 a0_4 a0_5 k)
end
theorem laws_toState.fL_eq (a0_0 a0_1 : ByteArray) (l0_2 : List (S215)) (l0_3 : List (S225)) (a0_4 : Bool) (a0_5 : ByteArray) : laws_toState.fL a0_0 a0_1 l0_2 l0_3 a0_4 a0_5 = (laws_toInterval.f a0_0 a0_1).bind fun bt410 => ((laws_toPairS.fL l0_2).bind fun t412 => ((laws_toSessionS.fL l0_3).bind fun t415 => (some (bt410.1, bt410.2, t412, t415, a0_4, a0_5)))) := by
  refine lU (laws_toState.fL_is a0_0 a0_1 l0_2 l0_3 a0_4 a0_5) ?_
  unfold laws_toState.f
  repeat' with_reducible first | exact lK _ | exact laws_toPairS.fL_is .. | exact laws_toSessionS.fL_is .. | apply lI | apply lB | intro _
/-! ### laws_toEntryS -/
section
variable (a : List (S159)) (b : List (S118)) (c : Int)
noncomputable def laws_toEntryS.l0L : Option ((List (S118))) := Lim (laws_toEntryS.l0 · a b c)
theorem laws_toEntryS.l0L_is : LimIs (laws_toEntryS.l0 · a b c) (laws_toEntryS.l0L a b c) := lM (fun k => (laws_toEntryS.mono_l k) a b c)
end
section
variable (l0 : List (S159))
noncomputable def laws_toEntryS.fL : Option ((List (S118))) := Lim (laws_toEntryS.f · l0)
theorem laws_toEntryS.fL_is : LimIs (laws_toEntryS.f · l0) (laws_toEntryS.fL l0) := lM (fun k => laws_toEntryS.mono l0 k)
end
theorem laws_toEntryS.l0L_eq (a : List (S159)) (b : List (S118)) (c : Int) : laws_toEntryS.l0L a b c = if c < (a.length : Int) then (if 0 ≤ c then ((laws_toEntry.f ((rd_T159 a c).f0) ((rd_T159 a c).f1) ((rd_T159 a c).f2.f0) ((rd_T159 a c).f2.f1) ((rd_T159 a c).f2.f2) ((rd_T159 a c).f2.f3)).bind fun bt432 => (if c < (b.length : Int) then (laws_toEntryS.l0L a (b.set (c : Int).toNat (⟨bt432.1, bt432.2.1, (⟨bt432.2.2.1, bt432.2.2.2.1, bt432.2.2.2.2.1, bt432.2.2.2.2.2⟩ : S30)⟩ : S118)) (wrap64 (c + 1))) else (none))) else (none)) else (some b) := by
  refine lU (laws_toEntryS.l0L_is a b c) (LimIs.step1 (by simp only [laws_toEntryS.l0]) ?_)
  simp only [laws_toEntryS.l0]
  repeat' with_reducible first | exact lK _ | exact laws_toEntryS.l0L_is .. | apply lI | apply lB | intro _
theorem laws_toEntryS.fL_eq (l0 : List (S159)) : laws_toEntryS.fL l0 = if 0 ≤ (l0.length : Int) then (if ((l0.length : Int) : Int).toNat ≤ 5026338869833 then (laws_toEntryS.l0L l0 (List.replicate ((l0.length : Int) : Int).toNat z118) 0) else (none)) else (none) := by
  refine lU (laws_toEntryS.fL_is l0) ?_
  unfold laws_toEntryS.f
  repeat' with_reducible first | exact lK _ | exact laws_toEntryS.l0L_is .. | apply lI | apply lB | intro _
/-! ### impl_lettersOnly -/
section
variable (a0 : ByteArray)
noncomputable def impl_lettersOnly.fL : Option (Bool) := Lim (impl_lettersOnly.f · a0)
theorem impl_lettersOnly.fL_is : LimIs (impl_lettersOnly.f · a0) (impl_lettersOnly.fL a0) := lM (fun k => impl_lettersOnly.mono a0 k)
end
theorem impl_lettersOnly.fL_eq (a0 : ByteArray) : impl_lettersOnly.fL a0 = if a0.toList = ([] : List UInt8) then (some true) else (if 0 < (a0.size : Int) then (if (bt a0 0) ≥ 97 then (if (bt a0 0) ≤ 122 then (if 1 ≤ (a0.size : Int) then ((impl_lettersOnly.fL (a0.extract 1 a0.size)).bind fun t439 => (some t439)) else (none)) else (some false)) else (some false)) else (none)) := by
  refine lU (impl_lettersOnly.fL_is a0) (LimIs.step1 (by simp only [impl_lettersOnly.f]) ?_)
  simp only [impl_lettersOnly.f]
  repeat' with_reducible first | exact lK _ | exact impl_lettersOnly.fL_is .. | apply lI | apply lB | intro _
/-! ### impl_KeyValid -/
section
variable (a0 : ByteArray)
noncomputable def impl_KeyValid.fL : Option (Bool) := Lim (impl_KeyValid.f · a0)
theorem impl_KeyValid.fL_is : LimIs (impl_KeyValid.f · a0) (impl_KeyValid.fL a0) := lM (fun k => impl_KeyValid.mono a0 k)
end
theorem impl_KeyValid.fL_eq (a0 : ByteArray) : impl_KeyValid.fL a0 = if (a0.size : Int) < 1 then (some false) else (if (a0.size : Int) > 4 then (some false) else ((impl_lettersOnly.fL a0).bind fun t440 => (some t440))) := by
  refine lU (impl_KeyValid.fL_is a0) ?_
  unfold impl_KeyValid.f
  repeat' with_reducible first | exact lK _ | exact impl_lettersOnly.fL_is .. | apply lI | apply lB | intro _
/-! ### impl_PairsValid -/
section
variable (a b : List (S181)) (c d : Int)
noncomputable def impl_PairsValid.l0L : Option (Bool) := Lim (impl_PairsValid.l0 · a b c d)
theorem impl_PairsValid.l0L_is : LimIs (impl_PairsValid.l0 · a b c d) (impl_PairsValid.l0L a b c d) := lM (fun k => (impl_PairsValid.mono_l k).1 a b c d)
end
section
variable (a : List (S181)) (b : Int) (c : List (S181)) (d e : Int) (f : Bool) (g : ByteArray) (i : Int)
noncomputable def impl_PairsValid.j1L : Option (Bool) := Lim (impl_PairsValid.j1 · a b c d e f g i)
theorem impl_PairsValid.j1L_is : LimIs (impl_PairsValid.j1 · a b c d e f g i) (impl_PairsValid.j1L a b c d e f g i) := lM (fun k => (impl_PairsValid.mono_l k).2 a b c d e f g i)
end
section
variable (l0 : List (S181))
noncomputable def impl_PairsValid.fL : Option (Bool) := Lim (impl_PairsValid.f · l0)
theorem impl_PairsValid.fL_is : LimIs (impl_PairsValid.f · l0) (impl_PairsValid.fL l0) := lM (fun k => impl_PairsValid.mono l0 k)
end
theorem impl_PairsValid.l0L_eq (a b : List (S181)) (c d : Int) : impl_PairsValid.l0L a b c d = if d < c then (if 0 ≤ d then (if d < (b.length : Int) then ((impl_KeyValid.fL ((rd_T181 b d).f0)).bind fun t443 => (if t443 = true then ((impl_valueValid.f ((rd_T181 b d).f1)).bind fun t444 => (impl_PairsValid.j1L a d b c d (!t444) ((rd_T181 b d).f0) ((rd_T181 b d).f1))) else (impl_PairsValid.j1L a d b c d true ((rd_T181 b d).f0) ((rd_T181 b d).f1)))) else (none)) else (none)) else (some true) := by
  refine lU (impl_PairsValid.l0L_is a b c d) (LimIs.step1 (by simp only [impl_PairsValid.l0]) ?_)
  simp only [impl_PairsValid.l0]
  repeat' with_reducible first | exact lK _ | exact impl_KeyValid.fL_is .. | exact impl_PairsValid.j1L_is .. | apply lI | apply lB | intro _
theorem impl_PairsValid.j1L_eq (a : List (S181)) (b : Int) (c : List (S181)) (d e : Int) (f : Bool) (g : ByteArray) (i : Int) : impl_PairsValid.j1L a b c d e f g i = if f = true then (some false) else (if b > 0 then (if 0 ≤ (wrap64 (b - 1)) then (if (wrap64 (b - 1)) < (a.length : Int) then (if ((Op.bytesLess (((rd_T181 a (wrap64 (b - 1))).f0).toList) g.toList) = true) then (impl_PairsValid.l0L a c d (wrap64 (e + 1))) else (some false)) else (none)) else (none)) else (impl_PairsValid.l0L a c d (wrap64 (e + 1)))) := by
  refine lU (impl_PairsValid.j1L_is a b c d e f g i) (LimIs.step1 (by simp only [impl_PairsValid.j1]) ?_)
  simp only [impl_PairsValid.j1]
  repeat' with_reducible first | exact lK _ | exact impl_PairsValid.l0L_is .. | apply lI | apply lB | intro _
theorem impl_PairsValid.fL_eq (l0 : List (S181)) : impl_PairsValid.fL l0 = if (l0.length : Int) > 48 then (some false) else (impl_PairsValid.l0L l0 l0 (l0.length : Int) 0) := by
  refine lU (impl_PairsValid.fL_is l0) ?_
  unfold impl_PairsValid.f
  repeat' with_reducible first | exact lK _ | exact impl_PairsValid.l0L_is .. | apply lI | apply lB | intro _
/-! ### impl_IntervalValid -/
section
variable (a0_0 a0_1 : ByteArray)
noncomputable def impl_IntervalValid.fL : Option (Bool) := Lim (impl_IntervalValid.f · a0_0 a0_1)
theorem impl_IntervalValid.fL_is : LimIs (impl_IntervalValid.f · a0_0 a0_1) (impl_IntervalValid.fL a0_0 a0_1) := lM (fun k => impl_IntervalValid.mono a0_0 a0_1 k)
end
theorem impl_IntervalValid.fL_eq (a0_0 a0_1 : ByteArray) : impl_IntervalValid.fL a0_0 a0_1 = if a0_0.toList = ([] : List UInt8) then (if a0_1.toList = ([] : List UInt8) then (some true) else ((impl_KeyValid.fL a0_1).bind fun t448 => (if t448 = true then ((impl_lowestKey.f a0_0 a0_1).bind fun t449 => (some (Op.bytesLess t449.toList a0_1.toList))) else (some false)))) else ((impl_KeyValid.fL a0_0).bind fun t450 => (if t450 = true then (if a0_1.toList = ([] : List UInt8) then (some true) else ((impl_KeyValid.fL a0_1).bind fun t451 => (if t451 = true then ((impl_lowestKey.f a0_0 a0_1).bind fun t452 => (some (Op.bytesLess t452.toList a0_1.toList))) else (some false)))) else (some false))) := by
  refine lU (impl_IntervalValid.fL_is a0_0 a0_1) ?_
  unfold impl_IntervalValid.f
  repeat' with_reducible first | exact lK _ | exact impl_KeyValid.fL_is .. | apply lI | apply lB | intro _
/-! ### impl_SessionsValid -/
section
variable (a b : List (S217)) (c d : Int)
noncomputable def impl_SessionsValid.l0L : Option (Bool) := Lim (impl_SessionsValid.l0 · a b c d)
theorem impl_SessionsValid.l0L_is : LimIs (impl_SessionsValid.l0 · a b c d) (impl_SessionsValid.l0L a b c d) := lM (fun k => (impl_SessionsValid.mono_l k).1 a b c d)
end
section
variable (a : List (S217)) (b : Int) (c : List (S217)) (d e : Int) (f : Bool) (g i j : Int)
noncomputable def impl_SessionsValid.j1L : Option (Bool) := Lim (impl_SessionsValid.j1 · a b c d e f g i j)
theorem impl_SessionsValid.j1L_is : LimIs (impl_SessionsValid.j1 · a b c d e f g i j) (impl_SessionsValid.j1L a b c d e f g i j) := lM (fun k => (impl_SessionsValid.mono_l k).2 a b c d e f g i j)
end
section
variable (l0 : List (S217))
noncomputable def impl_SessionsValid.fL : Option (Bool) := Lim (impl_SessionsValid.f · l0)
theorem impl_SessionsValid.fL_is : LimIs (impl_SessionsValid.f · l0) (impl_SessionsValid.fL l0) := lM (fun k => impl_SessionsValid.mono l0 k)
end
theorem impl_SessionsValid.l0L_eq (a b : List (S217)) (c d : Int) : impl_SessionsValid.l0L a b c d = if d < c then (if 0 ≤ d then (if d < (b.length : Int) then (if ((rd_T217 b d).f0) < 0 then (impl_SessionsValid.j1L a d b c d true ((rd_T217 b d).f0) ((rd_T217 b d).f1) ((rd_T217 b d).f2)) else (if ((rd_T217 b d).f0) ≥ 4 then (impl_SessionsValid.j1L a d b c d true ((rd_T217 b d).f0) ((rd_T217 b d).f1) ((rd_T217 b d).f2)) else ((impl_seqValid.f ((rd_T217 b d).f1)).bind fun t455 => (if t455 = true then (if ((rd_T217 b d).f2) < (-2) then (impl_SessionsValid.j1L a d b c d true ((rd_T217 b d).f0) ((rd_T217 b d).f1) ((rd_T217 b d).f2)) else (impl_SessionsValid.j1L a d b c d (decide (((rd_T217 b d).f2) > 999)) ((rd_T217 b d).f0) ((rd_T217 b d).f1) ((rd_T217 b d).f2))) else (impl_SessionsValid.j1L a d b c d true ((rd_T217 b d).f0) ((rd_T217 b d).f1) ((rd_T217 b d).f2)))))) else (none)) else (none)) else (some true) := by
  refine lU (impl_SessionsValid.l0L_is a b c d) (LimIs.step1 (by simp only [impl_SessionsValid.l0]) ?_)
  simp only [impl_SessionsValid.l0]
  repeat' with_reducible first | exact lK _ | exact impl_SessionsValid.j1L_is .. | apply lI | apply lB | intro _
theorem impl_SessionsValid.j1L_eq (a : List (S217)) (b : Int) (c : List (S217)) (d e : Int) (f : Bool) (g i j : Int) : impl_SessionsValid.j1L a b c d e f g i j = if f = true then (some false) else (if b > 0 then (if 0 ≤ (wrap64 (b - 1)) then (if (wrap64 (b - 1)) < (a.length : Int) then (if ((rd_T217 a (wrap64 (b - 1))).f0) ≥ g then (some false) else (impl_SessionsValid.l0L a c d (wrap64 (e + 1)))) else (none)) else (none)) else (impl_SessionsValid.l0L a c d (wrap64 (e + 1)))) := by
  refine lU (impl_SessionsValid.j1L_is a b c d e f g i j) (LimIs.step1 (by simp only [impl_SessionsValid.j1]) ?_)
  simp only [impl_SessionsValid.j1]
  repeat' with_reducible first | exact lK _ | exact impl_SessionsValid.l0L_is .. | apply lI | apply lB | intro _
theorem impl_SessionsValid.fL_eq (l0 : List (S217)) : impl_SessionsValid.fL l0 = impl_SessionsValid.l0L l0 l0 (l0.length : Int) 0 := by
  refine lU (impl_SessionsValid.fL_is l0) ?_
  unfold impl_SessionsValid.f
  repeat' with_reducible first | exact lK _ | exact impl_SessionsValid.l0L_is .. | apply lI | apply lB | intro _
/-! ### impl_IntervalCut -/
section
variable (a : ByteArray) (b : Bool) (c d : ByteArray)
noncomputable def impl_IntervalCut.j0L : Option (ByteArray × ByteArray × ByteArray × ByteArray × Bool) := Lim (impl_IntervalCut.j0 · a b c d)
theorem impl_IntervalCut.j0L_is : LimIs (impl_IntervalCut.j0 · a b c d) (impl_IntervalCut.j0L a b c d) := lM (fun k => (impl_IntervalCut.mono_l k) a b c d)
end
section
variable (a0_0 a0_1 a1 : ByteArray)
noncomputable def impl_IntervalCut.fL : Option (ByteArray × ByteArray × ByteArray × ByteArray × Bool) := Lim (impl_IntervalCut.f · a0_0 a0_1 a1)
theorem impl_IntervalCut.fL_is : LimIs (impl_IntervalCut.f · a0_0 a0_1 a1) (impl_IntervalCut.fL a0_0 a0_1 a1) := lM (fun k => impl_IntervalCut.mono a0_0 a0_1 a1 k)
end
theorem impl_IntervalCut.j0L_eq (a : ByteArray) (b : Bool) (c d : ByteArray) : impl_IntervalCut.j0L a b c d = if b = true then (some ((⟨#[]⟩ : ByteArray), (⟨#[]⟩ : ByteArray), (⟨#[]⟩ : ByteArray), (⟨#[]⟩ : ByteArray), false)) else ((impl_IntervalValid.fL c a).bind fun t465 => (if t465 = true then ((impl_IntervalValid.fL a d).bind fun t466 => (if t466 = true then (some (c, a, a, d, true)) else (some ((⟨#[]⟩ : ByteArray), (⟨#[]⟩ : ByteArray), (⟨#[]⟩ : ByteArray), (⟨#[]⟩ : ByteArray), false)))) else (some ((⟨#[]⟩ : ByteArray), (⟨#[]⟩ : ByteArray), (⟨#[]⟩ : ByteArray), (⟨#[]⟩ : ByteArray), false)))) := by
  refine lU (impl_IntervalCut.j0L_is a b c d) (LimIs.step1 (by simp only [impl_IntervalCut.j0]) ?_)
  simp only [impl_IntervalCut.j0]
  repeat' with_reducible first | exact lK _ | exact impl_IntervalValid.fL_is .. | apply lI | apply lB | intro _
theorem impl_IntervalCut.fL_eq (a0_0 a0_1 a1 : ByteArray) : impl_IntervalCut.fL a0_0 a0_1 a1 = (impl_IntervalValid.fL a0_0 a0_1).bind fun t461 => (if t461 = true then ((impl_KeyValid.fL a1).bind fun t462 => (impl_IntervalCut.j0L a1 (!t462) a0_0 a0_1)) else (impl_IntervalCut.j0L a1 true a0_0 a0_1)) := by
  refine lU (impl_IntervalCut.fL_is a0_0 a0_1 a1) ?_
  unfold impl_IntervalCut.f
  repeat' with_reducible first | exact lK _ | exact impl_IntervalCut.j0L_is .. | exact impl_IntervalValid.fL_is .. | exact impl_KeyValid.fL_is .. | apply lI | apply lB | intro _
/-! ### impl_StateValid -/
section
variable (a : Bool) (b c : ByteArray) (d : List (S181)) (e : List (S217)) (f : Bool) (g : ByteArray)
noncomputable def impl_StateValid.j0L : Option (Bool) := Lim (impl_StateValid.j0 · a b c d e f g)
theorem impl_StateValid.j0L_is : LimIs (impl_StateValid.j0 · a b c d e f g) (impl_StateValid.j0L a b c d e f g) := lM (fun k => (impl_StateValid.mono_l k).1 a b c d e f g)
end
section
variable (a : List (S181)) (b c : Int) (d e : ByteArray) (g : List (S181)) (i : List (S217)) (j : Bool) (l : ByteArray)
noncomputable def impl_StateValid.l0L : Option (Bool) := Lim (impl_StateValid.l0 · a b c d e g i j l)
theorem impl_StateValid.l0L_is : LimIs (impl_StateValid.l0 · a b c d e g i j l) (impl_StateValid.l0L a b c d e g i j l) := lM (fun k => (impl_StateValid.mono_l k).2 a b c d e g i j l)
end
section
variable (a0_0 a0_1 : ByteArray) (l0_2 : List (S181)) (l0_3 : List (S217)) (a0_4 : Bool) (a0_5 : ByteArray)
noncomputable def impl_StateValid.fL : Option (Bool) := Lim (impl_StateValid.f · a0_0 a0_1 l0_2 l0_3 a0_4 a0_5)
theorem impl_StateValid.fL_is : LimIs (impl_StateValid.f · a0_0 a0_1 l0_2 l0_3 a0_4 a0_5) (impl_StateValid.fL a0_0 a0_1 l0_2 l0_3 a0_4 a0_5) := lM (fun k => impl_StateValid.mono a0_0 a0_1 l0_2 l0_3 a0_4 a0_5 k)
end
theorem impl_StateValid.j0L_eq (a : Bool) (b c : ByteArray) (d : List (S181)) (e : List (S217)) (f : Bool) (g : ByteArray) : impl_StateValid.j0L a b c d e f g = if a = true then (some false) else (impl_StateValid.l0L d (d.length : Int) 0 b c d e f g) := by
  refine lU (impl_StateValid.j0L_is a b c d e f g) (LimIs.step1 (by simp only [impl_StateValid.j0]) ?_)
  simp only [impl_StateValid.j0]
  repeat' with_reducible first | exact lK _ | exact impl_StateValid.l0L_is .. | apply lI | apply lB | intro _
theorem impl_StateValid.l0L_eq (a : List (S181)) (b c : Int) (d e : ByteArray) (g : List (S181)) (i : List (S217)) (j : Bool) (l : ByteArray) : impl_StateValid.l0L a b c d e g i j l = if c < b then (if 0 ≤ c then (if c < (a.length : Int) then ((impl_inside.f d e ((rd_T181 a c).f0)).bind fun t473 => (if t473 = true then (impl_StateValid.l0L a b (wrap64 (c + 1)) d e g i j l) else (some false))) else (none)) else (none)) else (if l.toList = ([] : List UInt8) then (some true) else ((impl_IntervalCut.fL d e l).bind fun bt474 => (if j = true then (some bt474.2.2.2.2) else (some false)))) := by
  refine lU (impl_StateValid.l0L_is a b c d e g i j l) (LimIs.step1 (by simp only [impl_StateValid.l0]) ?_)
  simp only [impl_StateValid.l0]
  repeat' with_reducible first | exact lK _ | exact impl_IntervalCut.fL_is .. | exact impl_StateValid.l0L_is .. | apply lI | apply lB | intro _
theorem impl_StateValid.fL_eq (a0_0 a0_1 : ByteArray) (l0_2 : List (S181)) (l0_3 : List (S217)) (a0_4 : Bool) (a0_5 : ByteArray) : impl_StateValid.fL a0_0 a0_1 l0_2 l0_3 a0_4 a0_5 = (impl_IntervalValid.fL a0_0 a0_1).bind fun t468 => (if t468 = true then ((impl_PairsValid.fL l0_2).bind fun t469 => (if t469 = true then ((impl_SessionsValid.fL l0_3).bind fun t470 => (impl_StateValid.j0L (!t470) a0_0 a0_1 l0_2 l0_3 a0_4 a0_5)) else (impl_StateValid.j0L true a0_0 a0_1 l0_2 l0_3 a0_4 a0_5))) else (impl_StateValid.j0L true a0_0 a0_1 l0_2 l0_3 a0_4 a0_5)) := by
  refine lU (impl_StateValid.fL_is a0_0 a0_1 l0_2 l0_3 a0_4 a0_5) ?_
  unfold impl_StateValid.f
  repeat' with_reducible first | exact lK _ | exact impl_IntervalValid.fL_is .. | exact impl_PairsValid.fL_is .. | exact impl_SessionsValid.fL_is .. | exact impl_StateValid.j0L_is .. | apply lI | apply lB | intro _
/-! ### impl_CommandValid -/
section
variable (a : Bool) (b : Int) (c : ByteArray) (d e : Int)
noncomputable def impl_CommandValid.j0L : Option (Bool) := Lim (impl_CommandValid.j0 · a b c d e)
theorem impl_CommandValid.j0L_is : LimIs (impl_CommandValid.j0 · a b c d e) (impl_CommandValid.j0L a b c d e) := lM (fun k => (impl_CommandValid.mono_l k).1 a b c d e)
end
section
variable (a : Bool) (b : Int) (c : ByteArray) (d e : Int)
noncomputable def impl_CommandValid.j1L : Option (Bool) := Lim (impl_CommandValid.j1 · a b c d e)
theorem impl_CommandValid.j1L_is : LimIs (impl_CommandValid.j1 · a b c d e) (impl_CommandValid.j1L a b c d e) := lM (fun k => (impl_CommandValid.mono_l k).2 a b c d e)
end
section
variable (a0_0 : Int) (a0_1 : ByteArray) (a0_2 a0_3 : Int)
noncomputable def impl_CommandValid.fL : Option (Bool) := Lim (impl_CommandValid.f · a0_0 a0_1 a0_2 a0_3)
theorem impl_CommandValid.fL_is : LimIs (impl_CommandValid.f · a0_0 a0_1 a0_2 a0_3) (impl_CommandValid.fL a0_0 a0_1 a0_2 a0_3) := lM (fun k => impl_CommandValid.mono a0_0 a0_1 a0_2 a0_3 k)
end
theorem impl_CommandValid.j0L_eq (a : Bool) (b : Int) (c : ByteArray) (d e : Int) : impl_CommandValid.j0L a b c d e = if a = true then (some false) else ((impl_KeyValid.fL c).bind fun t482 => (if t482 = true then (impl_CommandValid.j1L false b c d e) else (if b = 5 then (impl_CommandValid.j1L (c.toList != ([] : List UInt8)) b c d e) else (impl_CommandValid.j1L true b c d e)))) := by
  refine lU (impl_CommandValid.j0L_is a b c d e) (LimIs.step1 (by simp only [impl_CommandValid.j0]) ?_)
  simp only [impl_CommandValid.j0]
  repeat' with_reducible first | exact lK _ | exact impl_CommandValid.j1L_is .. | exact impl_KeyValid.fL_is .. | apply lI | apply lB | intro _
theorem impl_CommandValid.j1L_eq (a : Bool) (b : Int) (c : ByteArray) (d e : Int) : impl_CommandValid.j1L a b c d e = if a = true then (some false) else (if b = 2 then ((impl_valueValid.f d).bind fun t483 => (if t483 = true then (some (e == 0)) else (some false))) else (if b = 4 then ((impl_valueValid.f d).bind fun t484 => (if t484 = true then (if e = (-1) then (some true) else ((impl_valueValid.f e).bind fun t485 => (some t485))) else (some false))) else (if d = 0 then (some (e == 0)) else (some false)))) := by
  refine lU (impl_CommandValid.j1L_is a b c d e) (LimIs.step1 (by simp only [impl_CommandValid.j1]) ?_)
  simp only [impl_CommandValid.j1]
  repeat' with_reducible first | exact lK _ | apply lI | apply lB | intro _
theorem impl_CommandValid.fL_eq (a0_0 : Int) (a0_1 : ByteArray) (a0_2 a0_3 : Int) : impl_CommandValid.fL a0_0 a0_1 a0_2 a0_3 = if a0_0 < 1 then (impl_CommandValid.j0L true a0_0 a0_1 a0_2 a0_3) else (impl_CommandValid.j0L (decide (a0_0 > 5)) a0_0 a0_1 a0_2 a0_3) := by
  refine lU (impl_CommandValid.fL_is a0_0 a0_1 a0_2 a0_3) ?_
  unfold impl_CommandValid.f
  repeat' with_reducible first | exact lK _ | exact impl_CommandValid.j0L_is .. | apply lI | apply lB | intro _
/-! ### impl_EntryValid -/
section
variable (a0_0 a0_1 a0_2 : Int) (a0_3 : ByteArray) (a0_4 a0_5 : Int)
noncomputable def impl_EntryValid.fL : Option (Bool) := Lim (impl_EntryValid.f · a0_0 a0_1 a0_2 a0_3 a0_4 a0_5)
theorem impl_EntryValid.fL_is : LimIs (impl_EntryValid.f · a0_0 a0_1 a0_2 a0_3 a0_4 a0_5) (impl_EntryValid.fL a0_0 a0_1 a0_2 a0_3 a0_4 a0_5) := lM (fun k => impl_EntryValid.mono a0_0 a0_1 a0_2 a0_3 a0_4 a0_5 k)
end
theorem impl_EntryValid.fL_eq (a0_0 a0_1 a0_2 : Int) (a0_3 : ByteArray) (a0_4 a0_5 : Int) : impl_EntryValid.fL a0_0 a0_1 a0_2 a0_3 a0_4 a0_5 = if a0_0 ≥ 0 then (if a0_0 < 4 then ((impl_seqValid.f a0_1).bind fun t487 => (if t487 = true then ((impl_CommandValid.fL a0_2 a0_3 a0_4 a0_5).bind fun t488 => (some t488)) else (some false))) else (some false)) else (some false) := by
  refine lU (impl_EntryValid.fL_is a0_0 a0_1 a0_2 a0_3 a0_4 a0_5) ?_
  unfold impl_EntryValid.f
  repeat' with_reducible first | exact lK _ | exact impl_CommandValid.fL_is .. | apply lI | apply lB | intro _
/-! ### impl_entriesValid -/
section
variable (a : List (S118)) (b c : Int)
noncomputable def impl_entriesValid.l0L : Option (Bool) := Lim (impl_entriesValid.l0 · a b c)
theorem impl_entriesValid.l0L_is : LimIs (impl_entriesValid.l0 · a b c) (impl_entriesValid.l0L a b c) := lM (fun k => (impl_entriesValid.mono_l k) a b c)
end
section
variable (l0 : List (S118))
noncomputable def impl_entriesValid.fL : Option (Bool) := Lim (impl_entriesValid.f · l0)
theorem impl_entriesValid.fL_is : LimIs (impl_entriesValid.f · l0) (impl_entriesValid.fL l0) := lM (fun k => impl_entriesValid.mono l0 k)
end
theorem impl_entriesValid.l0L_eq (a : List (S118)) (b c : Int) : impl_entriesValid.l0L a b c = if c < b then (if 0 ≤ c then (if c < (a.length : Int) then ((impl_EntryValid.fL ((rd_T118 a c).f0) ((rd_T118 a c).f1) ((rd_T118 a c).f2.f0) ((rd_T118 a c).f2.f1) ((rd_T118 a c).f2.f2) ((rd_T118 a c).f2.f3)).bind fun t491 => (if t491 = true then (impl_entriesValid.l0L a b (wrap64 (c + 1))) else (some false))) else (none)) else (none)) else (some true) := by
  refine lU (impl_entriesValid.l0L_is a b c) (LimIs.step1 (by simp only [impl_entriesValid.l0]) ?_)
  simp only [impl_entriesValid.l0]
  repeat' with_reducible first | exact lK _ | exact impl_EntryValid.fL_is .. | exact impl_entriesValid.l0L_is .. | apply lI | apply lB | intro _
theorem impl_entriesValid.fL_eq (l0 : List (S118)) : impl_entriesValid.fL l0 = if (l0.length : Int) > 24 then (some false) else (impl_entriesValid.l0L l0 (l0.length : Int) 0) := by
  refine lU (impl_entriesValid.fL_is l0) ?_
  unfold impl_entriesValid.f
  repeat' with_reducible first | exact lK _ | exact impl_entriesValid.l0L_is .. | apply lI | apply lB | intro _
/-! ### impl_Pair_string -/
section
variable (a : List (S181)) (b : ByteArray) (c d e : Int)
noncomputable def impl_Pair_string.l0L : Option (Int × Bool) := Lim (impl_Pair_string.l0 · a b c d e)
theorem impl_Pair_string.l0L_is : LimIs (impl_Pair_string.l0 · a b c d e) (impl_Pair_string.l0L a b c d e) := lM (fun k => (impl_Pair_string.mono_l k) a b c d e)
end
section
variable (l0 : List (S181)) (a1 : ByteArray) (a2 : Unit)
noncomputable def impl_Pair_string.fL : Option (Int × Bool) := Lim (impl_Pair_string.f · l0 a1 a2)
theorem impl_Pair_string.fL_is : LimIs (impl_Pair_string.f · l0 a1 a2) (impl_Pair_string.fL l0 a1 a2) := lM (fun k => impl_Pair_string.mono l0 a1 a2 k)
end
theorem impl_Pair_string.l0L_eq (a : List (S181)) (b : ByteArray) (c d e : Int) : impl_Pair_string.l0L a b c d e = if d < e then (if 0 ≤ (wrap64 ((IntKind.u64.wrap (wrap64 (d + e))) / 2)) then (if (wrap64 ((IntKind.u64.wrap (wrap64 (d + e))) / 2)) < (a.length : Int) then ((impl_pairPlace_1.f ((rd_T181 a (wrap64 ((IntKind.u64.wrap (wrap64 (d + e))) / 2))).f0) ((rd_T181 a (wrap64 ((IntKind.u64.wrap (wrap64 (d + e))) / 2))).f1) b).bind fun t511 => (if t511 < 0 then (impl_Pair_string.l0L a b c (wrap64 ((wrap64 ((IntKind.u64.wrap (wrap64 (d + e))) / 2)) + 1)) e) else (impl_Pair_string.l0L a b c d (wrap64 ((IntKind.u64.wrap (wrap64 (d + e))) / 2))))) else (none)) else (none)) else (if d < c then (if 0 ≤ d then (if d < (a.length : Int) then ((impl_pairPlace_1.f ((rd_T181 a d).f0) ((rd_T181 a d).f1) b).bind fun t513 => (some (d, (t513 == 0)))) else (none)) else (none)) else (some (d, false))) := by
  refine lU (impl_Pair_string.l0L_is a b c d e) (LimIs.step1 (by simp only [impl_Pair_string.l0]) ?_)
  simp only [impl_Pair_string.l0]
  repeat' with_reducible first | exact lK _ | exact impl_Pair_string.l0L_is .. | apply lI | apply lB | intro _
theorem impl_Pair_string.fL_eq (l0 : List (S181)) (a1 : ByteArray) (a2 : Unit) : impl_Pair_string.fL l0 a1 a2 = impl_Pair_string.l0L l0 a1 (l0.length : Int) 0 (l0.length : Int) := by
  refine lU (impl_Pair_string.fL_is l0 a1 a2) ?_
  unfold impl_Pair_string.f
  repeat' with_reducible first | exact lK _ | exact impl_Pair_string.l0L_is .. | apply lI | apply lB | intro _
/-! ### impl_pairPlace -/
section
variable (l0 : List (S181)) (a1 : ByteArray)
noncomputable def impl_pairPlace.fL : Option (Int × Bool) := Lim (impl_pairPlace.f · l0 a1)
theorem impl_pairPlace.fL_is : LimIs (impl_pairPlace.f · l0 a1) (impl_pairPlace.fL l0 a1) := lM (fun k => impl_pairPlace.mono l0 a1 k)
end
theorem impl_pairPlace.fL_eq (l0 : List (S181)) (a1 : ByteArray) : impl_pairPlace.fL l0 a1 = (impl_Pair_string.fL l0 a1 ()).bind fun bt514 => (some (bt514.1, bt514.2)) := by
  refine lU (impl_pairPlace.fL_is l0 a1) ?_
  unfold impl_pairPlace.f
  repeat' with_reducible first | exact lK _ | exact impl_Pair_string.fL_is .. | apply lI | apply lB | intro _
/-! ### impl_PairGet -/
section
variable (l0 : List (S181)) (a1 : ByteArray)
noncomputable def impl_PairGet.fL : Option (Int) := Lim (impl_PairGet.f · l0 a1)
theorem impl_PairGet.fL_is : LimIs (impl_PairGet.f · l0 a1) (impl_PairGet.fL l0 a1) := lM (fun k => impl_PairGet.mono l0 a1 k)
end
theorem impl_PairGet.fL_eq (l0 : List (S181)) (a1 : ByteArray) : impl_PairGet.fL l0 a1 = (impl_PairsValid.fL l0).bind fun t516 => (if t516 = true then ((impl_pairPlace.fL l0 a1).bind fun bt517 => (if bt517.2 = true then (if 0 ≤ bt517.1 then (if bt517.1 < (l0.length : Int) then (some ((rd_T181 l0 bt517.1).f1)) else (none)) else (none)) else (some (-1)))) else (some (-1))) := by
  refine lU (impl_PairGet.fL_is l0 a1) ?_
  unfold impl_PairGet.f
  repeat' with_reducible first | exact lK _ | exact impl_PairsValid.fL_is .. | exact impl_pairPlace.fL_is .. | apply lI | apply lB | intro _
/-! ### impl_Session_int -/
section
variable (a : List (S217)) (b c d e : Int)
noncomputable def impl_Session_int.l0L : Option (Int × Bool) := Lim (impl_Session_int.l0 · a b c d e)
theorem impl_Session_int.l0L_is : LimIs (impl_Session_int.l0 · a b c d e) (impl_Session_int.l0L a b c d e) := lM (fun k => (impl_Session_int.mono_l k) a b c d e)
end
section
variable (l0 : List (S217)) (a1 : Int) (a2 : Unit)
noncomputable def impl_Session_int.fL : Option (Int × Bool) := Lim (impl_Session_int.f · l0 a1 a2)
theorem impl_Session_int.fL_is : LimIs (impl_Session_int.f · l0 a1 a2) (impl_Session_int.fL l0 a1 a2) := lM (fun k => impl_Session_int.mono l0 a1 a2 k)
end
theorem impl_Session_int.l0L_eq (a : List (S217)) (b c d e : Int) : impl_Session_int.l0L a b c d e = if d < e then (if 0 ≤ (wrap64 ((IntKind.u64.wrap (wrap64 (d + e))) / 2)) then (if (wrap64 ((IntKind.u64.wrap (wrap64 (d + e))) / 2)) < (a.length : Int) then ((impl_sessionPlace_1.f ((rd_T217 a (wrap64 ((IntKind.u64.wrap (wrap64 (d + e))) / 2))).f0) ((rd_T217 a (wrap64 ((IntKind.u64.wrap (wrap64 (d + e))) / 2))).f1) ((rd_T217 a (wrap64 ((IntKind.u64.wrap (wrap64 (d + e))) / 2))).f2) b).bind fun t525 => (if t525 < 0 then (impl_Session_int.l0L a b c (wrap64 ((wrap64 ((IntKind.u64.wrap (wrap64 (d + e))) / 2)) + 1)) e) else (impl_Session_int.l0L a b c d (wrap64 ((IntKind.u64.wrap (wrap64 (d + e))) / 2))))) else (none)) else (none)) else (if d < c then (if 0 ≤ d then (if d < (a.length : Int) then ((impl_sessionPlace_1.f ((rd_T217 a d).f0) ((rd_T217 a d).f1) ((rd_T217 a d).f2) b).bind fun t527 => (some (d, (t527 == 0)))) else (none)) else (none)) else (some (d, false))) := by
  refine lU (impl_Session_int.l0L_is a b c d e) (LimIs.step1 (by simp only [impl_Session_int.l0]) ?_)
  simp only [impl_Session_int.l0]
  repeat' with_reducible first | exact lK _ | exact impl_Session_int.l0L_is .. | apply lI | apply lB | intro _
theorem impl_Session_int.fL_eq (l0 : List (S217)) (a1 : Int) (a2 : Unit) : impl_Session_int.fL l0 a1 a2 = impl_Session_int.l0L l0 a1 (l0.length : Int) 0 (l0.length : Int) := by
  refine lU (impl_Session_int.fL_is l0 a1 a2) ?_
  unfold impl_Session_int.f
  repeat' with_reducible first | exact lK _ | exact impl_Session_int.l0L_is .. | apply lI | apply lB | intro _
/-! ### impl_sessionPlace -/
section
variable (l0 : List (S217)) (a1 : Int)
noncomputable def impl_sessionPlace.fL : Option (Int × Bool) := Lim (impl_sessionPlace.f · l0 a1)
theorem impl_sessionPlace.fL_is : LimIs (impl_sessionPlace.f · l0 a1) (impl_sessionPlace.fL l0 a1) := lM (fun k => impl_sessionPlace.mono l0 a1 k)
end
theorem impl_sessionPlace.fL_eq (l0 : List (S217)) (a1 : Int) : impl_sessionPlace.fL l0 a1 = (impl_Session_int.fL l0 a1 ()).bind fun bt528 => (some (bt528.1, bt528.2)) := by
  refine lU (impl_sessionPlace.fL_is l0 a1) ?_
  unfold impl_sessionPlace.f
  repeat' with_reducible first | exact lK _ | exact impl_Session_int.fL_is .. | apply lI | apply lB | intro _
/-! ### impl_stateTakes -/
section
variable (a0_0 a0_1 : ByteArray) (l0_2 : List (S181)) (l0_3 : List (S217)) (a0_4 : Bool) (a0_5 : ByteArray) (a1_0 : Int) (a1_1 : ByteArray) (a1_2 a1_3 : Int)
noncomputable def impl_stateTakes.fL : Option (Bool) := Lim (impl_stateTakes.f · a0_0 a0_1 l0_2 l0_3 a0_4 a0_5 a1_0 a1_1 a1_2 a1_3)
theorem impl_stateTakes.fL_is : LimIs (impl_stateTakes.f · a0_0 a0_1 l0_2 l0_3 a0_4 a0_5 a1_0 a1_1 a1_2 a1_3) (impl_stateTakes.fL a0_0 a0_1 l0_2 l0_3 a0_4 a0_5 a1_0 a1_1 a1_2 a1_3) := lM (fun k => impl_stateTakes.mono a0_0 a0_1 l0_2 l0_3 a0_4 a0_5 a1_0 a1_1 a1_2 a1_3 k)
end
theorem impl_stateTakes.fL_eq (a0_0 a0_1 : ByteArray) (l0_2 : List (S181)) (l0_3 : List (S217)) (a0_4 : Bool) (a0_5 : ByteArray) (a1_0 : Int) (a1_1 : ByteArray) (a1_2 a1_3 : Int) : impl_stateTakes.fL a0_0 a0_1 l0_2 l0_3 a0_4 a0_5 a1_0 a1_1 a1_2 a1_3 = if a1_0 = 5 then (if a1_1.toList = ([] : List UInt8) then (some true) else ((impl_IntervalCut.fL a0_0 a0_1 a1_1).bind fun bt532 => (some bt532.2.2.2.2))) else ((impl_inside.f a0_0 a0_1 a1_1).bind fun t539 => (some t539)) := by
  refine lU (impl_stateTakes.fL_is a0_0 a0_1 l0_2 l0_3 a0_4 a0_5 a1_0 a1_1 a1_2 a1_3) ?_
  unfold impl_stateTakes.f
  repeat' with_reducible first | exact lK _ | exact impl_IntervalCut.fL_is .. | apply lI | apply lB | intro _
/-! ### impl_PairDrop -/
section
variable (l0 : List (S181)) (a1 : ByteArray)
noncomputable def impl_PairDrop.fL : Option ((List (S181)) × Bool) := Lim (impl_PairDrop.f · l0 a1)
theorem impl_PairDrop.fL_is : LimIs (impl_PairDrop.f · l0 a1) (impl_PairDrop.fL l0 a1) := lM (fun k => impl_PairDrop.mono l0 a1 k)
end
theorem impl_PairDrop.fL_eq (l0 : List (S181)) (a1 : ByteArray) : impl_PairDrop.fL l0 a1 = (impl_PairsValid.fL l0).bind fun t560 => (if t560 = true then ((impl_pairPlace.fL l0 a1).bind fun bt561 => (if bt561.2 = true then ((impl_Pair_192.f l0 bt561.1 1 ([] : List (S181))).bind fun t563 => (some (t563, true))) else ((impl_Pair_126.f l0).bind fun t566 => (some (t566, false))))) else (some (([] : List (S181)), false))) := by
  refine lU (impl_PairDrop.fL_is l0 a1) ?_
  unfold impl_PairDrop.f
  repeat' with_reducible first | exact lK _ | exact impl_PairsValid.fL_is .. | exact impl_pairPlace.fL_is .. | apply lI | apply lB | intro _
/-! ### impl_PairPut -/
section
variable (a : List (S181)) (b : ByteArray) (c : Int) (d : Bool)
noncomputable def impl_PairPut.j0L : Option ((List (S181)) × Bool) := Lim (impl_PairPut.j0 · a b c d)
theorem impl_PairPut.j0L_is : LimIs (impl_PairPut.j0 · a b c d) (impl_PairPut.j0L a b c d) := lM (fun k => (impl_PairPut.mono_l k) a b c d)
end
section
variable (l0 : List (S181)) (a1 : ByteArray) (a2 : Int)
noncomputable def impl_PairPut.fL : Option ((List (S181)) × Bool) := Lim (impl_PairPut.f · l0 a1 a2)
theorem impl_PairPut.fL_is : LimIs (impl_PairPut.f · l0 a1 a2) (impl_PairPut.fL l0 a1 a2) := lM (fun k => impl_PairPut.mono l0 a1 a2 k)
end
theorem impl_PairPut.j0L_eq (a : List (S181)) (b : ByteArray) (c : Int) (d : Bool) : impl_PairPut.j0L a b c d = if d = true then (some (([] : List (S181)), false)) else ((impl_pairPlace.fL a b).bind fun bt572 => (if bt572.2 = true then ((impl_Pair_192.f a bt572.1 1 (([(⟨b, c⟩ : S181)] : List (S181)))).bind fun t577 => (some (t577, true))) else (if (a.length : Int) ≥ 48 then ((impl_Pair_126.f a).bind fun t580 => (some (t580, false))) else ((impl_Pair_192.f a bt572.1 0 (([(⟨b, c⟩ : S181)] : List (S181)))).bind fun t586 => (some (t586, true)))))) := by
  refine lU (impl_PairPut.j0L_is a b c d) (LimIs.step1 (by simp only [impl_PairPut.j0]) ?_)
  simp only [impl_PairPut.j0]
  repeat' with_reducible first | exact lK _ | exact impl_pairPlace.fL_is .. | apply lI | apply lB | intro _
theorem impl_PairPut.fL_eq (l0 : List (S181)) (a1 : ByteArray) (a2 : Int) : impl_PairPut.fL l0 a1 a2 = (impl_PairsValid.fL l0).bind fun t569 => (if t569 = true then ((impl_KeyValid.fL a1).bind fun t570 => (if t570 = true then ((impl_valueValid.f a2).bind fun t571 => (impl_PairPut.j0L l0 a1 a2 (!t571))) else (impl_PairPut.j0L l0 a1 a2 true))) else (impl_PairPut.j0L l0 a1 a2 true)) := by
  refine lU (impl_PairPut.fL_is l0 a1 a2) ?_
  unfold impl_PairPut.f
  repeat' with_reducible first | exact lK _ | exact impl_KeyValid.fL_is .. | exact impl_PairPut.j0L_is .. | exact impl_PairsValid.fL_is .. | apply lI | apply lB | intro _
/-! ### impl_ApplyCommand -/
section
variable (a : List (S181)) (b : Bool) (c : Int) (d : ByteArray) (e g : Int)
noncomputable def impl_ApplyCommand.j0L : Option ((List (S181)) × Int) := Lim (impl_ApplyCommand.j0 · a b c d e g)
theorem impl_ApplyCommand.j0L_is : LimIs (impl_ApplyCommand.j0 · a b c d e g) (impl_ApplyCommand.j0L a b c d e g) := lM (fun k => (impl_ApplyCommand.mono_l k).1 a b c d e g)
end
section
variable (a : List (S181)) (b c : Int) (d : ByteArray) (e f : Int)
noncomputable def impl_ApplyCommand.j1L : Option ((List (S181)) × Int) := Lim (impl_ApplyCommand.j1 · a b c d e f)
theorem impl_ApplyCommand.j1L_is : LimIs (impl_ApplyCommand.j1 · a b c d e f) (impl_ApplyCommand.j1L a b c d e f) := lM (fun k => (impl_ApplyCommand.mono_l k).2.1 a b c d e f)
end
section
variable (a : List (S181)) (b : Int) (c : Bool) (d : Int) (e : ByteArray) (g i : Int)
noncomputable def impl_ApplyCommand.j2L : Option ((List (S181)) × Int) := Lim (impl_ApplyCommand.j2 · a b c d e g i)
theorem impl_ApplyCommand.j2L_is : LimIs (impl_ApplyCommand.j2 · a b c d e g i) (impl_ApplyCommand.j2L a b c d e g i) := lM (fun k => (impl_ApplyCommand.mono_l k).2.2 a b c d e g i)
end
section
variable (l0 : List (S181)) (a1_0 : Int) (a1_1 : ByteArray) (a1_2 a1_3 : Int)
noncomputable def impl_ApplyCommand.fL : Option ((List (S181)) × Int) := Lim (impl_ApplyCommand.f · l0 a1_0 a1_1 a1_2 a1_3)
theorem impl_ApplyCommand.fL_is : LimIs (impl_ApplyCommand.f · l0 a1_0 a1_1 a1_2 a1_3) (impl_ApplyCommand.fL l0 a1_0 a1_1 a1_2 a1_3) := lM (fun k => impl_ApplyCommand.mono l0 a1_0 a1_1 a1_2 a1_3 k)
end
theorem impl_ApplyCommand.j0L_eq (a : List (S181)) (b : Bool) (c : Int) (d : ByteArray) (e g : Int) : impl_ApplyCommand.j0L a b c d e g = if b = true then (some (([] : List (S181)), (-3))) else ((impl_PairGet.fL a d).bind fun t592 => (if c = 3 then ((impl_PairDrop.fL a d).bind fun bt593 => (some (bt593.1, t592))) else (if c = 1 then ((impl_Pair_126.f a).bind fun t597 => (some (t597, t592))) else (if c = 4 then (if g = t592 then (impl_ApplyCommand.j1L a t592 c d e g) else ((impl_Pair_126.f a).bind fun t600 => (some (t600, t592)))) else (impl_ApplyCommand.j1L a t592 c d e g))))) := by
  refine lU (impl_ApplyCommand.j0L_is a b c d e g) (LimIs.step1 (by simp only [impl_ApplyCommand.j0]) ?_)
  simp only [impl_ApplyCommand.j0]
  repeat' with_reducible first | exact lK _ | exact impl_ApplyCommand.j1L_is .. | exact impl_PairDrop.fL_is .. | exact impl_PairGet.fL_is .. | apply lI | apply lB | intro _
theorem impl_ApplyCommand.j1L_eq (a : List (S181)) (b c : Int) (d : ByteArray) (e f : Int) : impl_ApplyCommand.j1L a b c d e f = if b = (-1) then (impl_ApplyCommand.j2L a b (decide ((a.length : Int) ≥ 8)) c d e f) else (impl_ApplyCommand.j2L a b false c d e f) := by
  refine lU (impl_ApplyCommand.j1L_is a b c d e f) (LimIs.step1 (by simp only [impl_ApplyCommand.j1]) ?_)
  simp only [impl_ApplyCommand.j1]
  repeat' with_reducible first | exact lK _ | exact impl_ApplyCommand.j2L_is .. | apply lI | apply lB | intro _
theorem impl_ApplyCommand.j2L_eq (a : List (S181)) (b : Int) (c : Bool) (d : Int) (e : ByteArray) (g i : Int) : impl_ApplyCommand.j2L a b c d e g i = if c = true then ((impl_Pair_126.f a).bind fun t603 => (some (t603, (-2)))) else ((impl_PairPut.fL a e g).bind fun bt606 => (some (bt606.1, b))) := by
  refine lU (impl_ApplyCommand.j2L_is a b c d e g i) (LimIs.step1 (by simp only [impl_ApplyCommand.j2]) ?_)
  simp only [impl_ApplyCommand.j2]
  repeat' with_reducible first | exact lK _ | exact impl_PairPut.fL_is .. | apply lI | apply lB | intro _
theorem impl_ApplyCommand.fL_eq (l0 : List (S181)) (a1_0 : Int) (a1_1 : ByteArray) (a1_2 a1_3 : Int) : impl_ApplyCommand.fL l0 a1_0 a1_1 a1_2 a1_3 = (impl_PairsValid.fL l0).bind fun t590 => (if t590 = true then ((impl_CommandValid.fL a1_0 a1_1 a1_2 a1_3).bind fun t591 => (if t591 = true then (impl_ApplyCommand.j0L l0 (a1_0 == 5) a1_0 a1_1 a1_2 a1_3) else (impl_ApplyCommand.j0L l0 true a1_0 a1_1 a1_2 a1_3))) else (impl_ApplyCommand.j0L l0 true a1_0 a1_1 a1_2 a1_3)) := by
  refine lU (impl_ApplyCommand.fL_is l0 a1_0 a1_1 a1_2 a1_3) ?_
  unfold impl_ApplyCommand.f
  repeat' with_reducible first | exact lK _ | exact impl_ApplyCommand.j0L_is .. | exact impl_CommandValid.fL_is .. | exact impl_PairsValid.fL_is .. | apply lI | apply lB | intro _
/-! ### impl_SessionPut -/
section
variable (a : List (S217)) (b : Bool) (c d e : Int)
noncomputable def impl_SessionPut.j0L : Option ((List (S217)) × Bool) := Lim (impl_SessionPut.j0 · a b c d e)
theorem impl_SessionPut.j0L_is : LimIs (impl_SessionPut.j0 · a b c d e) (impl_SessionPut.j0L a b c d e) := lM (fun k => (impl_SessionPut.mono_l k) a b c d e)
end
section
variable (l0 : List (S217)) (a1_0 a1_1 a1_2 : Int)
noncomputable def impl_SessionPut.fL : Option ((List (S217)) × Bool) := Lim (impl_SessionPut.f · l0 a1_0 a1_1 a1_2)
theorem impl_SessionPut.fL_is : LimIs (impl_SessionPut.f · l0 a1_0 a1_1 a1_2) (impl_SessionPut.fL l0 a1_0 a1_1 a1_2) := lM (fun k => impl_SessionPut.mono l0 a1_0 a1_1 a1_2 k)
end
theorem impl_SessionPut.j0L_eq (a : List (S217)) (b : Bool) (c d e : Int) : impl_SessionPut.j0L a b c d e = if b = true then (some (([] : List (S217)), false)) else ((impl_sessionPlace.fL a c).bind fun bt636 => (if bt636.2 = true then (if 0 ≤ bt636.1 then (if bt636.1 < (a.length : Int) then (if ((rd_T217 a bt636.1).f1) ≥ d then ((impl_Session_180.f a).bind fun t645 => (some (t645, false))) else ((impl_Session_223.f a bt636.1 1 (([(⟨c, d, e⟩ : S217)] : List (S217)))).bind fun t651 => (some (t651, true)))) else (none)) else (none)) else ((impl_Session_223.f a bt636.1 0 (([(⟨c, d, e⟩ : S217)] : List (S217)))).bind fun t641 => (some (t641, true))))) := by
  refine lU (impl_SessionPut.j0L_is a b c d e) (LimIs.step1 (by simp only [impl_SessionPut.j0]) ?_)
  simp only [impl_SessionPut.j0]
  repeat' with_reducible first | exact lK _ | exact impl_sessionPlace.fL_is .. | apply lI | apply lB | intro _
theorem impl_SessionPut.fL_eq (l0 : List (S217)) (a1_0 a1_1 a1_2 : Int) : impl_SessionPut.fL l0 a1_0 a1_1 a1_2 = (impl_SessionsValid.fL l0).bind fun t631 => (if t631 = true then ((impl_SessionsValid.fL (([(⟨a1_0, a1_1, a1_2⟩ : S217)] : List (S217)))).bind fun t635 => (impl_SessionPut.j0L l0 (!t635) a1_0 a1_1 a1_2)) else (impl_SessionPut.j0L l0 true a1_0 a1_1 a1_2)) := by
  refine lU (impl_SessionPut.fL_is l0 a1_0 a1_1 a1_2) ?_
  unfold impl_SessionPut.f
  repeat' with_reducible first | exact lK _ | exact impl_SessionPut.j0L_is .. | exact impl_SessionsValid.fL_is .. | apply lI | apply lB | intro _
/-! ### impl_ApplyEntry -/
section
variable (a : Bool) (b c : ByteArray) (d : List (S181)) (e : List (S217)) (g : Bool) (i : ByteArray) (j l m : Int) (n : ByteArray) (o p : Int)
noncomputable def impl_ApplyEntry.j0L : Option (ByteArray × ByteArray × (List (S181)) × (List (S217)) × Bool × ByteArray × Int) := Lim (impl_ApplyEntry.j0 · a b c d e g i j l m n o p)
theorem impl_ApplyEntry.j0L_is : LimIs (impl_ApplyEntry.j0 · a b c d e g i j l m n o p) (impl_ApplyEntry.j0L a b c d e g i j l m n o p) := lM (fun k => (impl_ApplyEntry.mono_l k).1 a b c d e g i j l m n o p)
end
section
variable (a : Int) (b : Bool) (c d : ByteArray) (e : List (S181)) (g : List (S217)) (i : Bool) (j : ByteArray) (l m n : Int) (o : ByteArray) (p q : Int) (s u : ByteArray) (v : List (S181)) (w : List (S217)) (x : Bool) (y : ByteArray)
noncomputable def impl_ApplyEntry.j1L : Option (ByteArray × ByteArray × (List (S181)) × (List (S217)) × Bool × ByteArray × Int) := Lim (impl_ApplyEntry.j1 · a b c d e g i j l m n o p q s u v w x y)
theorem impl_ApplyEntry.j1L_is : LimIs (impl_ApplyEntry.j1 · a b c d e g i j l m n o p q s u v w x y) (impl_ApplyEntry.j1L a b c d e g i j l m n o p q s u v w x y) := lM (fun k => (impl_ApplyEntry.mono_l k).2.1 a b c d e g i j l m n o p q s u v w x y)
end
section
variable (a : Bool) (b c : ByteArray) (d : List (S181)) (e : List (S217)) (g : Bool) (i : ByteArray) (j l m : Int) (n : ByteArray) (o p : Int) (q s : ByteArray) (u : List (S181)) (v : List (S217)) (w : Bool) (x : ByteArray)
noncomputable def impl_ApplyEntry.j2L : Option (ByteArray × ByteArray × (List (S181)) × (List (S217)) × Bool × ByteArray × Int) := Lim (impl_ApplyEntry.j2 · a b c d e g i j l m n o p q s u v w x)
theorem impl_ApplyEntry.j2L_is : LimIs (impl_ApplyEntry.j2 · a b c d e g i j l m n o p q s u v w x) (impl_ApplyEntry.j2L a b c d e g i j l m n o p q s u v w x) := lM (fun k => (impl_ApplyEntry.mono_l k).2.2 a b c d e g i j l m n o p q s u v w x)
end
section
variable (a0_0 a0_1 : ByteArray) (l0_2 : List (S181)) (l0_3 : List (S217)) (a0_4 : Bool) (a0_5 : ByteArray) (a1_0 a1_1 a1_2 : Int) (a1_3 : ByteArray) (a1_4 a1_5 : Int)
noncomputable def impl_ApplyEntry.fL : Option (ByteArray × ByteArray × (List (S181)) × (List (S217)) × Bool × ByteArray × Int) := Lim (impl_ApplyEntry.f · a0_0 a0_1 l0_2 l0_3 a0_4 a0_5 a1_0 a1_1 a1_2 a1_3 a1_4 a1_5)
theorem impl_ApplyEntry.fL_is : LimIs (impl_ApplyEntry.f · a0_0 a0_1 l0_2 l0_3 a0_4 a0_5 a1_0 a1_1 a1_2 a1_3 a1_4 a1_5) (impl_ApplyEntry.fL a0_0 a0_1 l0_2 l0_3 a0_4 a0_5 a1_0 a1_1 a1_2 a1_3 a1_4 a1_5) := lM (fun k => impl_ApplyEntry.mono a0_0 a0_1 l0_2 l0_3 a0_4 a0_5 a1_0 a1_1 a1_2 a1_3 a1_4 a1_5 k)
end
theorem impl_ApplyEntry.j0L_eq (a : Bool) (b c : ByteArray) (d : List (S181)) (e : List (S217)) (g : Bool) (i : ByteArray) (j l m : Int) (n : ByteArray) (o p : Int) : impl_ApplyEntry.j0L a b c d e g i j l m n o p = if a = true then (some ((⟨#[]⟩ : ByteArray), (⟨#[]⟩ : ByteArray), ([] : List (S181)), ([] : List (S217)), false, (⟨#[]⟩ : ByteArray), (-3))) else ((impl_copyState.f b c d e g i).bind fun bt659 => ((impl_sessionPlace.fL e j).bind fun bt670 => (if bt670.2 = true then (if 0 ≤ bt670.1 then (if bt670.1 < (e.length : Int) then (impl_ApplyEntry.j1L bt670.1 (decide (l ≤ ((rd_T217 e bt670.1).f1))) b c d e g i j l m n o p bt659.1 bt659.2.1 bt659.2.2.1 bt659.2.2.2.1 bt659.2.2.2.2.1 bt659.2.2.2.2.2) else (none)) else (none)) else (impl_ApplyEntry.j1L bt670.1 false b c d e g i j l m n o p bt659.1 bt659.2.1 bt659.2.2.1 bt659.2.2.2.1 bt659.2.2.2.2.1 bt659.2.2.2.2.2)))) := by
  refine lU (impl_ApplyEntry.j0L_is a b c d e g i j l m n o p) (LimIs.step1 (by simp only [impl_ApplyEntry.j0]) ?_)
  simp only [impl_ApplyEntry.j0]
  repeat' with_reducible first | exact lK _ | exact impl_ApplyEntry.j1L_is .. | exact impl_sessionPlace.fL_is .. | apply lI | apply lB | intro _
theorem impl_ApplyEntry.j1L_eq (a : Int) (b : Bool) (c d : ByteArray) (e : List (S181)) (g : List (S217)) (i : Bool) (j : ByteArray) (l m n : Int) (o : ByteArray) (p q : Int) (s u : ByteArray) (v : List (S181)) (w : List (S217)) (x : Bool) (y : ByteArray) : impl_ApplyEntry.j1L a b c d e g i j l m n o p q s u v w x y = if b = true then (if 0 ≤ a then (if a < (g.length : Int) then (if m = ((rd_T217 g a).f1) then (some (s, u, v, w, x, y, (rd_T217 g a).f2)) else (some (s, u, v, w, x, y, (-4)))) else (none)) else (none)) else (if i = true then (impl_ApplyEntry.j2L true c d e g i j l m n o p q s u v w x y) else ((impl_stateTakes.fL c d e g i j n o p q).bind fun t675 => (impl_ApplyEntry.j2L (!t675) c d e g i j l m n o p q s u v w x y))) := by
  refine lU (impl_ApplyEntry.j1L_is a b c d e g i j l m n o p q s u v w x y) (LimIs.step1 (by simp only [impl_ApplyEntry.j1]) ?_)
  simp only [impl_ApplyEntry.j1]
  repeat' with_reducible first | exact lK _ | exact impl_ApplyEntry.j2L_is .. | exact impl_stateTakes.fL_is .. | apply lI | apply lB | intro _
theorem impl_ApplyEntry.j2L_eq (a : Bool) (b c : ByteArray) (d : List (S181)) (e : List (S217)) (g : Bool) (i : ByteArray) (j l m : Int) (n : ByteArray) (o p : Int) (q s : ByteArray) (u : List (S181)) (v : List (S217)) (w : Bool) (x : ByteArray) : impl_ApplyEntry.j2L a b c d e g i j l m n o p q s u v w x = if a = true then (some (q, s, u, v, w, x, (-3))) else (if m = 5 then ((impl_SessionPut.fL e j l 0).bind fun bt676 => (some (q, s, u, bt676.1, true, n, 0))) else ((impl_ApplyCommand.fL d m n o p).bind fun bt680 => ((impl_SessionPut.fL e j l bt680.2).bind fun bt684 => (some (q, s, bt680.1, bt684.1, w, x, bt680.2))))) := by
  refine lU (impl_ApplyEntry.j2L_is a b c d e g i j l m n o p q s u v w x) (LimIs.step1 (by simp only [impl_ApplyEntry.j2]) ?_)
  simp only [impl_ApplyEntry.j2]
  repeat' with_reducible first | exact lK _ | exact impl_ApplyCommand.fL_is .. | exact impl_SessionPut.fL_is .. | apply lI | apply lB | intro _
theorem impl_ApplyEntry.fL_eq (a0_0 a0_1 : ByteArray) (l0_2 : List (S181)) (l0_3 : List (S217)) (a0_4 : Bool) (a0_5 : ByteArray) (a1_0 a1_1 a1_2 : Int) (a1_3 : ByteArray) (a1_4 a1_5 : Int) : impl_ApplyEntry.fL a0_0 a0_1 l0_2 l0_3 a0_4 a0_5 a1_0 a1_1 a1_2 a1_3 a1_4 a1_5 = (impl_StateValid.fL a0_0 a0_1 l0_2 l0_3 a0_4 a0_5).bind fun t657 => (if t657 = true then ((impl_EntryValid.fL a1_0 a1_1 a1_2 a1_3 a1_4 a1_5).bind fun t658 => (impl_ApplyEntry.j0L (!t658) a0_0 a0_1 l0_2 l0_3 a0_4 a0_5 a1_0 a1_1 a1_2 a1_3 a1_4 a1_5)) else (impl_ApplyEntry.j0L true a0_0 a0_1 l0_2 l0_3 a0_4 a0_5 a1_0 a1_1 a1_2 a1_3 a1_4 a1_5)) := by
  refine lU (impl_ApplyEntry.fL_is a0_0 a0_1 l0_2 l0_3 a0_4 a0_5 a1_0 a1_1 a1_2 a1_3 a1_4 a1_5) ?_
  unfold impl_ApplyEntry.f
  repeat' with_reducible first | exact lK _ | exact impl_ApplyEntry.j0L_is .. | exact impl_EntryValid.fL_is .. | exact impl_StateValid.fL_is .. | apply lI | apply lB | intro _
/-! ### impl_ChangesOf -/
section
variable (a : List (S118)) (b : Bool) (c d : ByteArray) (e : List (S181)) (g : List (S217)) (i : Bool) (j : ByteArray)
noncomputable def impl_ChangesOf.j0L : Option ((List (S106))) := Lim (impl_ChangesOf.j0 · a b c d e g i j)
theorem impl_ChangesOf.j0L_is : LimIs (impl_ChangesOf.j0 · a b c d e g i j) (impl_ChangesOf.j0L a b c d e g i j) := lM (fun k => (impl_ChangesOf.mono_l k).1 a b c d e g i j)
end
section
variable (a : List (S106)) (b : List (S118)) (c d : Int) (e g : ByteArray) (i : List (S181)) (j : List (S217)) (l : Bool) (m : ByteArray)
noncomputable def impl_ChangesOf.l0L : Option ((List (S106))) := Lim (impl_ChangesOf.l0 · a b c d e g i j l m)
theorem impl_ChangesOf.l0L_is : LimIs (impl_ChangesOf.l0 · a b c d e g i j l m) (impl_ChangesOf.l0L a b c d e g i j l m) := lM (fun k => (impl_ChangesOf.mono_l k).2 a b c d e g i j l m)
end
section
variable (a0_0 a0_1 : ByteArray) (l0_2 : List (S181)) (l0_3 : List (S217)) (a0_4 : Bool) (a0_5 : ByteArray) (l1 : List (S118))
noncomputable def impl_ChangesOf.fL : Option ((List (S106))) := Lim (impl_ChangesOf.f · a0_0 a0_1 l0_2 l0_3 a0_4 a0_5 l1)
theorem impl_ChangesOf.fL_is : LimIs (impl_ChangesOf.f · a0_0 a0_1 l0_2 l0_3 a0_4 a0_5 l1) (impl_ChangesOf.fL a0_0 a0_1 l0_2 l0_3 a0_4 a0_5 l1) := lM (fun k => impl_ChangesOf.mono a0_0 a0_1 l0_2 l0_3 a0_4 a0_5 l1 k)
end
theorem impl_ChangesOf.j0L_eq (a : List (S118)) (b : Bool) (c d : ByteArray) (e : List (S181)) (g : List (S217)) (i : Bool) (j : ByteArray) : impl_ChangesOf.j0L a b c d e g i j = if b = true then (some ([] : List (S106))) else ((impl_copyState.f c d e g i j).bind fun bt691 => (impl_ChangesOf.l0L ([] : List (S106)) a (a.length : Int) 0 bt691.1 bt691.2.1 bt691.2.2.1 bt691.2.2.2.1 bt691.2.2.2.2.1 bt691.2.2.2.2.2)) := by
  refine lU (impl_ChangesOf.j0L_is a b c d e g i j) (LimIs.step1 (by simp only [impl_ChangesOf.j0]) ?_)
  simp only [impl_ChangesOf.j0]
  repeat' with_reducible first | exact lK _ | exact impl_ChangesOf.l0L_is .. | apply lI | apply lB | intro _
theorem impl_ChangesOf.l0L_eq (a : List (S106)) (b : List (S118)) (c d : Int) (e g : ByteArray) (i : List (S181)) (j : List (S217)) (l : Bool) (m : ByteArray) : impl_ChangesOf.l0L a b c d e g i j l m = if d < c then (if 0 ≤ d then (if d < (b.length : Int) then ((impl_PairGet.fL i ((rd_T118 b d).f2.f1)).bind fun t704 => ((impl_ApplyEntry.fL e g i j l m ((rd_T118 b d).f0) ((rd_T118 b d).f1) ((rd_T118 b d).f2.f0) ((rd_T118 b d).f2.f1) ((rd_T118 b d).f2.f2) ((rd_T118 b d).f2.f3)).bind fun bt705 => ((impl_PairGet.fL bt705.2.2.1 ((rd_T118 b d).f2.f1)).bind fun t716 => (if t704 = t716 then (impl_ChangesOf.l0L a b c (wrap64 (d + 1)) bt705.1 bt705.2.1 bt705.2.2.1 bt705.2.2.2.1 bt705.2.2.2.2.1 bt705.2.2.2.2.2.1) else (if a.length < 3518437208883 then (impl_ChangesOf.l0L (a ++ [(⟨d, (rd_T118 b d).f2.f1, t704, t716⟩ : S106)]) b c (wrap64 (d + 1)) bt705.1 bt705.2.1 bt705.2.2.1 bt705.2.2.2.1 bt705.2.2.2.2.1 bt705.2.2.2.2.2.1) else (none)))))) else (none)) else (none)) else (some a) := by
  refine lU (impl_ChangesOf.l0L_is a b c d e g i j l m) (LimIs.step1 (by simp only [impl_ChangesOf.l0]) ?_)
  simp only [impl_ChangesOf.l0]
  repeat' with_reducible first | exact lK _ | exact impl_ApplyEntry.fL_is .. | exact impl_ChangesOf.l0L_is .. | exact impl_PairGet.fL_is .. | apply lI | apply lB | intro _
theorem impl_ChangesOf.fL_eq (a0_0 a0_1 : ByteArray) (l0_2 : List (S181)) (l0_3 : List (S217)) (a0_4 : Bool) (a0_5 : ByteArray) (l1 : List (S118)) : impl_ChangesOf.fL a0_0 a0_1 l0_2 l0_3 a0_4 a0_5 l1 = (impl_StateValid.fL a0_0 a0_1 l0_2 l0_3 a0_4 a0_5).bind fun t689 => (if t689 = true then ((impl_entriesValid.fL l1).bind fun t690 => (impl_ChangesOf.j0L l1 (!t690) a0_0 a0_1 l0_2 l0_3 a0_4 a0_5)) else (impl_ChangesOf.j0L l1 true a0_0 a0_1 l0_2 l0_3 a0_4 a0_5)) := by
  refine lU (impl_ChangesOf.fL_is a0_0 a0_1 l0_2 l0_3 a0_4 a0_5 l1) ?_
  unfold impl_ChangesOf.f
  repeat' with_reducible first | exact lK _ | exact impl_ChangesOf.j0L_is .. | exact impl_StateValid.fL_is .. | exact impl_entriesValid.fL_is .. | apply lI | apply lB | intro _
/-! ### laws_eqChangeS -/
section
variable (a b : List (S106)) (c : Int)
noncomputable def laws_eqChangeS.l0L : Option (Bool) := Lim (laws_eqChangeS.l0 · a b c)
theorem laws_eqChangeS.l0L_is : LimIs (laws_eqChangeS.l0 · a b c) (laws_eqChangeS.l0L a b c) := lM (fun k => (laws_eqChangeS.mono_l k) a b c)
end
section
variable (l0 l1 : List (S106))
noncomputable def laws_eqChangeS.fL : Option (Bool) := Lim (laws_eqChangeS.f · l0 l1)
theorem laws_eqChangeS.fL_is : LimIs (laws_eqChangeS.f · l0 l1) (laws_eqChangeS.fL l0 l1) := lM (fun k => laws_eqChangeS.mono l0 l1 k)
end
theorem laws_eqChangeS.l0L_eq (a b : List (S106)) (c : Int) : laws_eqChangeS.l0L a b c = if c < (a.length : Int) then (if 0 ≤ c then (if c < (b.length : Int) then ((laws_eqChange.f ((rd_T106 a c).f0) ((rd_T106 a c).f1) ((rd_T106 a c).f2) ((rd_T106 a c).f3) ((rd_T106 b c).f0) ((rd_T106 b c).f1) ((rd_T106 b c).f2) ((rd_T106 b c).f3)).bind fun t724 => (if t724 = true then (laws_eqChangeS.l0L a b (wrap64 (c + 1))) else (some false))) else (none)) else (none)) else (some true) := by
  refine lU (laws_eqChangeS.l0L_is a b c) (LimIs.step1 (by simp only [laws_eqChangeS.l0]) ?_)
  simp only [laws_eqChangeS.l0]
  repeat' with_reducible first | exact lK _ | exact laws_eqChangeS.l0L_is .. | apply lI | apply lB | intro _
theorem laws_eqChangeS.fL_eq (l0 l1 : List (S106)) : laws_eqChangeS.fL l0 l1 = if (l0.length : Int) = (l1.length : Int) then (laws_eqChangeS.l0L l0 l1 0) else (some false) := by
  refine lU (laws_eqChangeS.fL_is l0 l1) ?_
  unfold laws_eqChangeS.f
  repeat' with_reducible first | exact lK _ | exact laws_eqChangeS.l0L_is .. | apply lI | apply lB | intro _
/-! ### laws_eqPairS -/
section
variable (a b : List (S181)) (c : Int)
noncomputable def laws_eqPairS.l0L : Option (Bool) := Lim (laws_eqPairS.l0 · a b c)
theorem laws_eqPairS.l0L_is : LimIs (laws_eqPairS.l0 · a b c) (laws_eqPairS.l0L a b c) := lM (fun k => (laws_eqPairS.mono_l k) a b c)
end
section
variable (l0 l1 : List (S181))
noncomputable def laws_eqPairS.fL : Option (Bool) := Lim (laws_eqPairS.f · l0 l1)
theorem laws_eqPairS.fL_is : LimIs (laws_eqPairS.f · l0 l1) (laws_eqPairS.fL l0 l1) := lM (fun k => laws_eqPairS.mono l0 l1 k)
end
theorem laws_eqPairS.l0L_eq (a b : List (S181)) (c : Int) : laws_eqPairS.l0L a b c = if c < (a.length : Int) then (if 0 ≤ c then (if c < (b.length : Int) then ((laws_eqPair.f ((rd_T181 a c).f0) ((rd_T181 a c).f1) ((rd_T181 b c).f0) ((rd_T181 b c).f1)).bind fun t731 => (if t731 = true then (laws_eqPairS.l0L a b (wrap64 (c + 1))) else (some false))) else (none)) else (none)) else (some true) := by
  refine lU (laws_eqPairS.l0L_is a b c) (LimIs.step1 (by simp only [laws_eqPairS.l0]) ?_)
  simp only [laws_eqPairS.l0]
  repeat' with_reducible first | exact lK _ | exact laws_eqPairS.l0L_is .. | apply lI | apply lB | intro _
theorem laws_eqPairS.fL_eq (l0 l1 : List (S181)) : laws_eqPairS.fL l0 l1 = if (l0.length : Int) = (l1.length : Int) then (laws_eqPairS.l0L l0 l1 0) else (some false) := by
  refine lU (laws_eqPairS.fL_is l0 l1) ?_
  unfold laws_eqPairS.f
  repeat' with_reducible first | exact lK _ | exact laws_eqPairS.l0L_is .. | apply lI | apply lB | intro _
/-! ### laws_eqSessionS -/
section
variable (a b : List (S217)) (c : Int)
noncomputable def laws_eqSessionS.l0L : Option (Bool) := Lim (laws_eqSessionS.l0 · a b c)
theorem laws_eqSessionS.l0L_is : LimIs (laws_eqSessionS.l0 · a b c) (laws_eqSessionS.l0L a b c) := lM (fun k => (laws_eqSessionS.mono_l k) a b c)
end
section
variable (l0 l1 : List (S217))
noncomputable def laws_eqSessionS.fL : Option (Bool) := Lim (laws_eqSessionS.f · l0 l1)
theorem laws_eqSessionS.fL_is : LimIs (laws_eqSessionS.f · l0 l1) (laws_eqSessionS.fL l0 l1) := lM (fun k => laws_eqSessionS.mono l0 l1 k)
end
theorem laws_eqSessionS.l0L_eq (a b : List (S217)) (c : Int) : laws_eqSessionS.l0L a b c = if c < (a.length : Int) then (if 0 ≤ c then (if c < (b.length : Int) then ((laws_eqSession.f ((rd_T217 a c).f0) ((rd_T217 a c).f1) ((rd_T217 a c).f2) ((rd_T217 b c).f0) ((rd_T217 b c).f1) ((rd_T217 b c).f2)).bind fun t736 => (if t736 = true then (laws_eqSessionS.l0L a b (wrap64 (c + 1))) else (some false))) else (none)) else (none)) else (some true) := by
  refine lU (laws_eqSessionS.l0L_is a b c) (LimIs.step1 (by simp only [laws_eqSessionS.l0]) ?_)
  simp only [laws_eqSessionS.l0]
  repeat' with_reducible first | exact lK _ | exact laws_eqSessionS.l0L_is .. | apply lI | apply lB | intro _
theorem laws_eqSessionS.fL_eq (l0 l1 : List (S217)) : laws_eqSessionS.fL l0 l1 = if (l0.length : Int) = (l1.length : Int) then (laws_eqSessionS.l0L l0 l1 0) else (some false) := by
  refine lU (laws_eqSessionS.fL_is l0 l1) ?_
  unfold laws_eqSessionS.f
  repeat' with_reducible first | exact lK _ | exact laws_eqSessionS.l0L_is .. | apply lI | apply lB | intro _
/-! ### laws_eqState -/
section
variable (a0_0 a0_1 : ByteArray) (l0_2 : List (S181)) (l0_3 : List (S217)) (a0_4 : Bool) (a0_5 a1_0 a1_1 : ByteArray) (l1_2 : List (S181)) (l1_3 : List (S217)) (a1_4 : Bool) (a1_5 : ByteArray)
noncomputable def laws_eqState.fL : Option (Bool) := Lim (laws_eqState.f · a0_0 a0_1 l0_2 l0_3 a0_4 a0_5 a1_0 a1_1 l1_2 l1_3 a1_4 a1_5)
theorem laws_eqState.fL_is : LimIs (laws_eqState.f · a0_0 a0_1 l0_2 l0_3 a0_4 a0_5 a1_0 a1_1 l1_2 l1_3 a1_4 a1_5) (laws_eqState.fL a0_0 a0_1 l0_2 l0_3 a0_4 a0_5 a1_0 a1_1 l1_2 l1_3 a1_4 a1_5) := lM (fun k => laws_eqState.mono a0_0 a0_1 l0_2 l0_3 a0_4 a0_5 a1_0 a1_1 l1_2 l1_3 a1_4 a1_5 k)
end
theorem laws_eqState.fL_eq (a0_0 a0_1 : ByteArray) (l0_2 : List (S181)) (l0_3 : List (S217)) (a0_4 : Bool) (a0_5 a1_0 a1_1 : ByteArray) (l1_2 : List (S181)) (l1_3 : List (S217)) (a1_4 : Bool) (a1_5 : ByteArray) : laws_eqState.fL a0_0 a0_1 l0_2 l0_3 a0_4 a0_5 a1_0 a1_1 l1_2 l1_3 a1_4 a1_5 = (laws_eqInterval.f a0_0 a0_1 a1_0 a1_1).bind fun t739 => (if t739 = true then ((laws_eqPairS.fL l0_2 l1_2).bind fun t740 => (if t740 = true then ((laws_eqSessionS.fL l0_3 l1_3).bind fun t741 => (if t741 = true then (if (a0_4 != a1_4) = true then (some false) else (if a0_5.toList = a1_5.toList then (some true) else (some false))) else (some false))) else (some false))) else (some false)) := by
  refine lU (laws_eqState.fL_is a0_0 a0_1 l0_2 l0_3 a0_4 a0_5 a1_0 a1_1 l1_2 l1_3 a1_4 a1_5) ?_
  unfold laws_eqState.f
  repeat' with_reducible first | exact lK _ | exact laws_eqPairS.fL_is .. | exact laws_eqSessionS.fL_is .. | apply lI | apply lB | intro _
/-! ### laws_eqEntryS -/
section
variable (a b : List (S118)) (c : Int)
noncomputable def laws_eqEntryS.l0L : Option (Bool) := Lim (laws_eqEntryS.l0 · a b c)
theorem laws_eqEntryS.l0L_is : LimIs (laws_eqEntryS.l0 · a b c) (laws_eqEntryS.l0L a b c) := lM (fun k => (laws_eqEntryS.mono_l k) a b c)
end
section
variable (l0 l1 : List (S118))
noncomputable def laws_eqEntryS.fL : Option (Bool) := Lim (laws_eqEntryS.f · l0 l1)
theorem laws_eqEntryS.fL_is : LimIs (laws_eqEntryS.f · l0 l1) (laws_eqEntryS.fL l0 l1) := lM (fun k => laws_eqEntryS.mono l0 l1 k)
end
theorem laws_eqEntryS.l0L_eq (a b : List (S118)) (c : Int) : laws_eqEntryS.l0L a b c = if c < (a.length : Int) then (if 0 ≤ c then (if c < (b.length : Int) then ((laws_eqEntry.f ((rd_T118 a c).f0) ((rd_T118 a c).f1) ((rd_T118 a c).f2.f0) ((rd_T118 a c).f2.f1) ((rd_T118 a c).f2.f2) ((rd_T118 a c).f2.f3) ((rd_T118 b c).f0) ((rd_T118 b c).f1) ((rd_T118 b c).f2.f0) ((rd_T118 b c).f2.f1) ((rd_T118 b c).f2.f2) ((rd_T118 b c).f2.f3)).bind fun t749 => (if t749 = true then (laws_eqEntryS.l0L a b (wrap64 (c + 1))) else (some false))) else (none)) else (none)) else (some true) := by
  refine lU (laws_eqEntryS.l0L_is a b c) (LimIs.step1 (by simp only [laws_eqEntryS.l0]) ?_)
  simp only [laws_eqEntryS.l0]
  repeat' with_reducible first | exact lK _ | exact laws_eqEntryS.l0L_is .. | apply lI | apply lB | intro _
theorem laws_eqEntryS.fL_eq (l0 l1 : List (S118)) : laws_eqEntryS.fL l0 l1 = if (l0.length : Int) = (l1.length : Int) then (laws_eqEntryS.l0L l0 l1 0) else (some false) := by
  refine lU (laws_eqEntryS.fL_is l0 l1) ?_
  unfold laws_eqEntryS.f
  repeat' with_reducible first | exact lK _ | exact laws_eqEntryS.l0L_is .. | apply lI | apply lB | intro _
/-! ### laws_markText -/
section
variable (a : Int) (b : ByteArray)
noncomputable def laws_markText.l0L : Option (ByteArray) := Lim (laws_markText.l0 · a b)
theorem laws_markText.l0L_is : LimIs (laws_markText.l0 · a b) (laws_markText.l0L a b) := lM (fun k => (laws_markText.mono_l k) a b)
end
section
variable (a0 : Int)
noncomputable def laws_markText.fL : Option (ByteArray) := Lim (laws_markText.f · a0)
theorem laws_markText.fL_is : LimIs (laws_markText.f · a0) (laws_markText.fL a0) := lM (fun k => laws_markText.mono a0 k)
end
theorem laws_markText.l0L_eq (a : Int) (b : ByteArray) : laws_markText.l0L a b = if a > 0 then ((some (([(wrap64 (48 + (Int.tmod a 10))) % 256] : List Int) : List Int)).bind fun y750 => (if (strOfNums y750).size + b.size ≤ 9223372036854775807 then (laws_markText.l0L (wrap64 (Int.tdiv a 10)) ((strOfNums y750) ++ b)) else (none))) else (if 1 + b.size ≤ 9223372036854775807 then (some ((⟨#[109]⟩ : ByteArray) ++ b)) else (none)) := by
  refine lU (laws_markText.l0L_is a b) (LimIs.step1 (by simp only [laws_markText.l0]) ?_)
  simp only [laws_markText.l0]
  repeat' with_reducible first | exact lK _ | exact laws_markText.l0L_is .. | apply lI | apply lB | intro _
theorem laws_markText.fL_eq (a0 : Int) : laws_markText.fL a0 = if a0 ≤ 0 then (some (⟨#[109, 48]⟩ : ByteArray)) else (laws_markText.l0L a0 (⟨#[]⟩ : ByteArray)) := by
  refine lU (laws_markText.fL_is a0) ?_
  unfold laws_markText.f
  repeat' with_reducible first | exact lK _ | exact laws_markText.l0L_is .. | apply lI | apply lB | intro _
/-! ### laws_markPairS -/
section
variable (a : List (S181)) (b c : Int)
noncomputable def laws_markPairS.l0L : Option (Int × (List (S181))) := Lim (laws_markPairS.l0 · a b c)
theorem laws_markPairS.l0L_is : LimIs (laws_markPairS.l0 · a b c) (laws_markPairS.l0L a b c) := lM (fun k => (laws_markPairS.mono_l k) a b c)
end
section
variable (l0 : List (S181)) (a1 : Int)
noncomputable def laws_markPairS.fL : Option (Int × (List (S181))) := Lim (laws_markPairS.f · l0 a1)
theorem laws_markPairS.fL_is : LimIs (laws_markPairS.f · l0 a1) (laws_markPairS.fL l0 a1) := lM (fun k => laws_markPairS.mono l0 a1 k)
end
theorem laws_markPairS.l0L_eq (a : List (S181)) (b c : Int) : laws_markPairS.l0L a b c = if c < (a.length : Int) then ((laws_markText.fL b).bind fun t753 => (if 0 ≤ c then ((some (a.set (c : Int).toNat (⟨t753, (rd_T181 a c).f1⟩ : S181) : List (S181))).bind fun y754 => (laws_markPairS.l0L (y754.set (c : Int).toNat (⟨(rd_T181 y754 c).f0, wrap64 (b + 1)⟩ : S181)) (wrap64 ((wrap64 (b + 1)) + 1)) (wrap64 (c + 1)))) else (none))) else (some (b, a)) := by
  refine lU (laws_markPairS.l0L_is a b c) (LimIs.step1 (by simp only [laws_markPairS.l0]) ?_)
  simp only [laws_markPairS.l0]
  repeat' with_reducible first | exact lK _ | exact laws_markPairS.l0L_is .. | exact laws_markText.fL_is .. | apply lI | apply lB | intro _
theorem laws_markPairS.fL_eq (l0 : List (S181)) (a1 : Int) : laws_markPairS.fL l0 a1 = laws_markPairS.l0L l0 a1 0 := by
  refine lU (laws_markPairS.fL_is l0 a1) ?_
  unfold laws_markPairS.f
  repeat' with_reducible first | exact lK _ | exact laws_markPairS.l0L_is .. | apply lI | apply lB | intro _
/-! ### laws_markSessionS -/
section
variable (a : List (S217)) (b c : Int)
noncomputable def laws_markSessionS.l0L : Option (Int × (List (S217))) := Lim (laws_markSessionS.l0 · a b c)
theorem laws_markSessionS.l0L_is : LimIs (laws_markSessionS.l0 · a b c) (laws_markSessionS.l0L a b c) := lM (fun k => (laws_markSessionS.mono_l k) a b c)
end
section
variable (l0 : List (S217)) (a1 : Int)
noncomputable def laws_markSessionS.fL : Option (Int × (List (S217))) := Lim (laws_markSessionS.f · l0 a1)
theorem laws_markSessionS.fL_is : LimIs (laws_markSessionS.f · l0 a1) (laws_markSessionS.fL l0 a1) := lM (fun k => laws_markSessionS.mono l0 a1 k)
end
theorem laws_markSessionS.l0L_eq (a : List (S217)) (b c : Int) : laws_markSessionS.l0L a b c = if c < (a.length : Int) then (if 0 ≤ c then ((some (a.set (c : Int).toNat (⟨b, (rd_T217 a c).f1, (rd_T217 a c).f2⟩ : S217) : List (S217))).bind fun y756 => ((some (y756.set (c : Int).toNat (⟨(rd_T217 y756 c).f0, wrap64 (b + 1), (rd_T217 y756 c).f2⟩ : S217) : List (S217))).bind fun y757 => (laws_markSessionS.l0L (y757.set (c : Int).toNat (⟨(rd_T217 y757 c).f0, (rd_T217 y757 c).f1, wrap64 ((wrap64 (b + 1)) + 1)⟩ : S217)) (wrap64 ((wrap64 ((wrap64 (b + 1)) + 1)) + 1)) (wrap64 (c + 1))))) else (none)) else (some (b, a)) := by
  refine lU (laws_markSessionS.l0L_is a b c) (LimIs.step1 (by simp only [laws_markSessionS.l0]) ?_)
  simp only [laws_markSessionS.l0]
  repeat' with_reducible first | exact lK _ | exact laws_markSessionS.l0L_is .. | apply lI | apply lB | intro _
theorem laws_markSessionS.fL_eq (l0 : List (S217)) (a1 : Int) : laws_markSessionS.fL l0 a1 = laws_markSessionS.l0L l0 a1 0 := by
  refine lU (laws_markSessionS.fL_is l0 a1) ?_
  unfold laws_markSessionS.f
  repeat' with_reducible first | exact lK _ | exact laws_markSessionS.l0L_is .. | apply lI | apply lB | intro _
/-! ### laws_markState -/
section
variable (a0_0 a0_1 : ByteArray) (l0_2 : List (S181)) (l0_3 : List (S217)) (a0_4 : Bool) (a0_5 : ByteArray) (a1 : Int)
noncomputable def laws_markState.fL : Option (Int × (List (S181)) × (List (S217))) := Lim (laws_markState.f · a0_0 a0_1 l0_2 l0_3 a0_4 a0_5 a1)
theorem laws_markState.fL_is : LimIs (laws_markState.f · a0_0 a0_1 l0_2 l0_3 a0_4 a0_5 a1) (laws_markState.fL a0_0 a0_1 l0_2 l0_3 a0_4 a0_5 a1) := lM (fun k => laws_markState.mono a0_0 a0_1 l0_2 l0_3 a0_4 a0_5 a1 k)
end
theorem laws_markState.fL_eq (a0_0 a0_1 : ByteArray) (l0_2 : List (S181)) (l0_3 : List (S217)) (a0_4 : Bool) (a0_5 : ByteArray) (a1 : Int) : laws_markState.fL a0_0 a0_1 l0_2 l0_3 a0_4 a0_5 a1 = (laws_markPairS.fL l0_2 a1).bind fun bt760 => ((laws_markSessionS.fL l0_3 bt760.1).bind fun bt762 => (some (bt762.1, bt760.2, bt762.2))) := by
  refine lU (laws_markState.fL_is a0_0 a0_1 l0_2 l0_3 a0_4 a0_5 a1) ?_
  unfold laws_markState.f
  repeat' with_reducible first | exact lK _ | exact laws_markPairS.fL_is .. | exact laws_markSessionS.fL_is .. | apply lI | apply lB | intro _
/-! ### laws_markEntryS -/
section
variable (a : List (S118)) (b c : Int)
noncomputable def laws_markEntryS.l0L : Option (Int × (List (S118))) := Lim (laws_markEntryS.l0 · a b c)
theorem laws_markEntryS.l0L_is : LimIs (laws_markEntryS.l0 · a b c) (laws_markEntryS.l0L a b c) := lM (fun k => (laws_markEntryS.mono_l k) a b c)
end
section
variable (l0 : List (S118)) (a1 : Int)
noncomputable def laws_markEntryS.fL : Option (Int × (List (S118))) := Lim (laws_markEntryS.f · l0 a1)
theorem laws_markEntryS.fL_is : LimIs (laws_markEntryS.f · l0 a1) (laws_markEntryS.fL l0 a1) := lM (fun k => laws_markEntryS.mono l0 a1 k)
end
theorem laws_markEntryS.l0L_eq (a : List (S118)) (b c : Int) : laws_markEntryS.l0L a b c = if c < (a.length : Int) then (if 0 ≤ c then ((some (a.set (c : Int).toNat (⟨b, (rd_T118 a c).f1, (⟨(rd_T118 a c).f2.f0, (rd_T118 a c).f2.f1, (rd_T118 a c).f2.f2, (rd_T118 a c).f2.f3⟩ : S30)⟩ : S118) : List (S118))).bind fun y764 => ((some (y764.set (c : Int).toNat (⟨(rd_T118 y764 c).f0, wrap64 (b + 1), (⟨(rd_T118 y764 c).f2.f0, (rd_T118 y764 c).f2.f1, (rd_T118 y764 c).f2.f2, (rd_T118 y764 c).f2.f3⟩ : S30)⟩ : S118) : List (S118))).bind fun y765 => ((some (y765.set (c : Int).toNat (⟨(rd_T118 y765 c).f0, (rd_T118 y765 c).f1, (⟨wrap64 ((wrap64 (b + 1)) + 1), (rd_T118 y765 c).f2.f1, (rd_T118 y765 c).f2.f2, (rd_T118 y765 c).f2.f3⟩ : S30)⟩ : S118) : List (S118))).bind fun y766 => ((laws_markText.fL (wrap64 ((wrap64 ((wrap64 (b + 1)) + 1)) + 1))).bind fun t767 => ((some (y766.set (c : Int).toNat (⟨(rd_T118 y766 c).f0, (rd_T118 y766 c).f1, (⟨(rd_T118 y766 c).f2.f0, t767, (rd_T118 y766 c).f2.f2, (rd_T118 y766 c).f2.f3⟩ : S30)⟩ : S118) : List (S118))).bind fun y768 => ((some (y768.set (c : Int).toNat (⟨(rd_T118 y768 c).f0, (rd_T118 y768 c).f1, (⟨(rd_T118 y768 c).f2.f0, (rd_T118 y768 c).f2.f1, wrap64 ((wrap64 ((wrap64 ((wrap64 (b + 1)) + 1)) + 1)) + 1), (rd_T118 y768 c).f2.f3⟩ : S30)⟩ : S118) : List (S118))).bind fun y769 => (laws_markEntryS.l0L (y769.set (c : Int).toNat (⟨(rd_T118 y769 c).f0, (rd_T118 y769 c).f1, (⟨(rd_T118 y769 c).f2.f0, (rd_T118 y769 c).f2.f1, (rd_T118 y769 c).f2.f2, wrap64 ((wrap64 ((wrap64 ((wrap64 ((wrap64 (b + 1)) + 1)) + 1)) + 1)) + 1)⟩ : S30)⟩ : S118)) (wrap64 ((wrap64 ((wrap64 ((wrap64 ((wrap64 ((wrap64 (b + 1)) + 1)) + 1)) + 1)) + 1)) + 1)) (wrap64 (c + 1))))))))) else (none)) else (some (b, a)) := by
  refine lU (laws_markEntryS.l0L_is a b c) (LimIs.step1 (by simp only [laws_markEntryS.l0]) ?_)
  simp only [laws_markEntryS.l0]
  repeat' with_reducible first | exact lK _ | exact laws_markEntryS.l0L_is .. | exact laws_markText.fL_is .. | apply lI | apply lB | intro _
theorem laws_markEntryS.fL_eq (l0 : List (S118)) (a1 : Int) : laws_markEntryS.fL l0 a1 = laws_markEntryS.l0L l0 a1 0 := by
  refine lU (laws_markEntryS.fL_is l0 a1) ?_
  unfold laws_markEntryS.f
  repeat' with_reducible first | exact lK _ | exact laws_markEntryS.l0L_is .. | apply lI | apply lB | intro _
/-! ### laws_markChangeS -/
section
variable (a : List (S106)) (b c : Int)
noncomputable def laws_markChangeS.l0L : Option (Int × (List (S106))) := Lim (laws_markChangeS.l0 · a b c)
theorem laws_markChangeS.l0L_is : LimIs (laws_markChangeS.l0 · a b c) (laws_markChangeS.l0L a b c) := lM (fun k => (laws_markChangeS.mono_l k) a b c)
end
section
variable (l0 : List (S106)) (a1 : Int)
noncomputable def laws_markChangeS.fL : Option (Int × (List (S106))) := Lim (laws_markChangeS.f · l0 a1)
theorem laws_markChangeS.fL_is : LimIs (laws_markChangeS.f · l0 a1) (laws_markChangeS.fL l0 a1) := lM (fun k => laws_markChangeS.mono l0 a1 k)
end
theorem laws_markChangeS.l0L_eq (a : List (S106)) (b c : Int) : laws_markChangeS.l0L a b c = if c < (a.length : Int) then (if 0 ≤ c then ((some (a.set (c : Int).toNat (⟨b, (rd_T106 a c).f1, (rd_T106 a c).f2, (rd_T106 a c).f3⟩ : S106) : List (S106))).bind fun y771 => ((laws_markText.fL (wrap64 (b + 1))).bind fun t772 => ((some (y771.set (c : Int).toNat (⟨(rd_T106 y771 c).f0, t772, (rd_T106 y771 c).f2, (rd_T106 y771 c).f3⟩ : S106) : List (S106))).bind fun y773 => ((some (y773.set (c : Int).toNat (⟨(rd_T106 y773 c).f0, (rd_T106 y773 c).f1, wrap64 ((wrap64 (b + 1)) + 1), (rd_T106 y773 c).f3⟩ : S106) : List (S106))).bind fun y774 => (laws_markChangeS.l0L (y774.set (c : Int).toNat (⟨(rd_T106 y774 c).f0, (rd_T106 y774 c).f1, (rd_T106 y774 c).f2, wrap64 ((wrap64 ((wrap64 (b + 1)) + 1)) + 1)⟩ : S106)) (wrap64 ((wrap64 ((wrap64 ((wrap64 (b + 1)) + 1)) + 1)) + 1)) (wrap64 (c + 1))))))) else (none)) else (some (b, a)) := by
  refine lU (laws_markChangeS.l0L_is a b c) (LimIs.step1 (by simp only [laws_markChangeS.l0]) ?_)
  simp only [laws_markChangeS.l0]
  repeat' with_reducible first | exact lK _ | exact laws_markChangeS.l0L_is .. | exact laws_markText.fL_is .. | apply lI | apply lB | intro _
theorem laws_markChangeS.fL_eq (l0 : List (S106)) (a1 : Int) : laws_markChangeS.fL l0 a1 = laws_markChangeS.l0L l0 a1 0 := by
  refine lU (laws_markChangeS.fL_is l0 a1) ?_
  unfold laws_markChangeS.f
  repeat' with_reducible first | exact lK _ | exact laws_markChangeS.l0L_is .. | apply lI | apply lB | intro _
/-! ### laws_heldChangeS -/
section
variable (a : List (S106)) (b c : Int)
noncomputable def laws_heldChangeS.l0L : Option (Int) := Lim (laws_heldChangeS.l0 · a b c)
theorem laws_heldChangeS.l0L_is : LimIs (laws_heldChangeS.l0 · a b c) (laws_heldChangeS.l0L a b c) := lM (fun k => (laws_heldChangeS.mono_l k) a b c)
end
section
variable (l0 : List (S106)) (a1 : Int)
noncomputable def laws_heldChangeS.fL : Option (Int) := Lim (laws_heldChangeS.f · l0 a1)
theorem laws_heldChangeS.fL_is : LimIs (laws_heldChangeS.f · l0 a1) (laws_heldChangeS.fL l0 a1) := lM (fun k => laws_heldChangeS.mono l0 a1 k)
end
theorem laws_heldChangeS.l0L_eq (a : List (S106)) (b c : Int) : laws_heldChangeS.l0L a b c = if c < (a.length : Int) then (if 0 ≤ c then (if ((rd_T106 a c).f0) = b then ((laws_markText.fL (wrap64 (b + 1))).bind fun t778 => (if ((rd_T106 a c).f1).toList = t778.toList then (if ((rd_T106 a c).f2) = (wrap64 ((wrap64 (b + 1)) + 1)) then (if ((rd_T106 a c).f3) = (wrap64 ((wrap64 ((wrap64 (b + 1)) + 1)) + 1)) then (laws_heldChangeS.l0L a (wrap64 ((wrap64 ((wrap64 ((wrap64 (b + 1)) + 1)) + 1)) + 1)) (wrap64 (c + 1))) else (some (-1))) else (some (-1))) else (some (-1)))) else (some (-1))) else (none)) else (some b) := by
  refine lU (laws_heldChangeS.l0L_is a b c) (LimIs.step1 (by simp only [laws_heldChangeS.l0]) ?_)
  simp only [laws_heldChangeS.l0]
  repeat' with_reducible first | exact lK _ | exact laws_heldChangeS.l0L_is .. | exact laws_markText.fL_is .. | apply lI | apply lB | intro _
theorem laws_heldChangeS.fL_eq (l0 : List (S106)) (a1 : Int) : laws_heldChangeS.fL l0 a1 = laws_heldChangeS.l0L l0 a1 0 := by
  refine lU (laws_heldChangeS.fL_is l0 a1) ?_
  unfold laws_heldChangeS.f
  repeat' with_reducible first | exact lK _ | exact laws_heldChangeS.l0L_is .. | apply lI | apply lB | intro _
/-! ### laws_FnExactChangesOf -/
section
variable (a : List (S159)) (b c : List (S106)) (d : Bool) (e g : ByteArray) (i : List (S215)) (j : List (S225)) (l : Bool) (m : ByteArray)
noncomputable def laws_FnExactChangesOf.j0L : Option (Bool) := Lim (laws_FnExactChangesOf.j0 · a b c d e g i j l m)
theorem laws_FnExactChangesOf.j0L_is : LimIs (laws_FnExactChangesOf.j0 · a b c d e g i j l m) (laws_FnExactChangesOf.j0L a b c d e g i j l m) := lM (fun k => (laws_FnExactChangesOf.mono_l k) a b c d e g i j l m)
end
section
variable (a0_0 a0_1 : ByteArray) (l0_2 : List (S215)) (l0_3 : List (S225)) (a0_4 : Bool) (a0_5 : ByteArray) (l1 : List (S159))
noncomputable def laws_FnExactChangesOf.fL : Option (Bool) := Lim (laws_FnExactChangesOf.f · a0_0 a0_1 l0_2 l0_3 a0_4 a0_5 l1)
theorem laws_FnExactChangesOf.fL_is : LimIs (laws_FnExactChangesOf.f · a0_0 a0_1 l0_2 l0_3 a0_4 a0_5 l1) (laws_FnExactChangesOf.fL a0_0 a0_1 l0_2 l0_3 a0_4 a0_5 l1) := lM (fun k => laws_FnExactChangesOf.mono a0_0 a0_1 l0_2 l0_3 a0_4 a0_5 l1 k)
end
theorem laws_FnExactChangesOf.j0L_eq (a : List (S159)) (b c : List (S106)) (d : Bool) (e g : ByteArray) (i : List (S215)) (j : List (S225)) (l : Bool) (m : ByteArray) : laws_FnExactChangesOf.j0L a b c d e g i j l m = if d = true then (some false) else ((laws_markChangeS.fL c 1).bind fun bt839 => ((laws_heldChangeS.fL bt839.2 1).bind fun t841 => (if t841 < 0 then (some false) else (if t841 = bt839.1 then ((laws_toState.fL e g i j l m).bind fun bt842 => ((laws_toEntryS.fL a).bind fun t852 => ((impl_ChangesOf.fL bt842.1 bt842.2.1 bt842.2.2.1 bt842.2.2.2.1 bt842.2.2.2.2.1 bt842.2.2.2.2.2 t852).bind fun t855 => ((laws_eqChangeS.fL t855 b).bind fun t858 => (if t858 = true then ((laws_heldChangeS.fL bt839.2 1).bind fun t859 => (if t859 < 0 then (some false) else (if t859 = bt839.1 then (some true) else (some false)))) else (some false)))))) else (some false))))) := by
  refine lU (laws_FnExactChangesOf.j0L_is a b c d e g i j l m) (LimIs.step1 (by simp only [laws_FnExactChangesOf.j0]) ?_)
  simp only [laws_FnExactChangesOf.j0]
  repeat' with_reducible first | exact lK _ | exact impl_ChangesOf.fL_is .. | exact laws_eqChangeS.fL_is .. | exact laws_heldChangeS.fL_is .. | exact laws_markChangeS.fL_is .. | exact laws_toEntryS.fL_is .. | exact laws_toState.fL_is .. | apply lI | apply lB | intro _
theorem laws_FnExactChangesOf.fL_eq (a0_0 a0_1 : ByteArray) (l0_2 : List (S215)) (l0_3 : List (S225)) (a0_4 : Bool) (a0_5 : ByteArray) (l1 : List (S159)) : laws_FnExactChangesOf.fL a0_0 a0_1 l0_2 l0_3 a0_4 a0_5 l1 = (laws_szState.fL a0_0 a0_1 l0_2 l0_3 a0_4 a0_5 1048576).bind fun t782 => (if t782 < 0 then (some true) else ((laws_szEntryS.fL l1 t782).bind fun t783 => (if t783 < 0 then (some true) else ((laws_toState.fL a0_0 a0_1 l0_2 l0_3 a0_4 a0_5).bind fun bt784 => ((laws_toEntryS.fL l1).bind fun t794 => ((spec_ChangesOf.fL bt784.1 bt784.2.1 bt784.2.2.1 bt784.2.2.2.1 bt784.2.2.2.2.1 bt784.2.2.2.2.2 t794).bind fun t797 => ((laws_toState.fL a0_0 a0_1 l0_2 l0_3 a0_4 a0_5).bind fun bt800 => ((laws_toEntryS.fL l1).bind fun t811 => ((impl_ChangesOf.fL bt800.1 bt800.2.1 bt800.2.2.1 bt800.2.2.2.1 bt800.2.2.2.2.1 bt800.2.2.2.2.2 t811).bind fun t814 => ((laws_eqChangeS.fL t814 t797).bind fun t817 => (if t817 = true then ((laws_toState.fL a0_0 a0_1 l0_2 l0_3 a0_4 a0_5).bind fun bt818 => ((laws_eqState.fL bt800.1 bt800.2.1 bt800.2.2.1 bt800.2.2.2.1 bt800.2.2.2.2.1 bt800.2.2.2.2.2 bt818.1 bt818.2.1 bt818.2.2.1 bt818.2.2.2.1 bt818.2.2.2.2.1 bt818.2.2.2.2.2).bind fun t828 => (if t828 = true then ((laws_toEntryS.fL l1).bind fun t829 => ((laws_eqEntryS.fL t811 t829).bind fun t832 => (if t832 = true then ((laws_markState.fL bt800.1 bt800.2.1 bt800.2.2.1 bt800.2.2.2.1 bt800.2.2.2.2.1 bt800.2.2.2.2.2 1).bind fun bt833 => ((laws_markEntryS.fL t811 bt833.1).bind fun bt836 => (if bt836.1 < 0 then (laws_FnExactChangesOf.j0L l1 t797 t814 true a0_0 a0_1 l0_2 l0_3 a0_4 a0_5) else ((laws_eqChangeS.fL t814 t797).bind fun t838 => (laws_FnExactChangesOf.j0L l1 t797 t814 (!t838) a0_0 a0_1 l0_2 l0_3 a0_4 a0_5))))) else (some false)))) else (some false)))) else (some false)))))))))))) := by
  refine lU (laws_FnExactChangesOf.fL_is a0_0 a0_1 l0_2 l0_3 a0_4 a0_5 l1) ?_
  unfold laws_FnExactChangesOf.f
  repeat' with_reducible first | exact lK _ | exact impl_ChangesOf.fL_is .. | exact laws_FnExactChangesOf.j0L_is .. | exact laws_eqChangeS.fL_is .. | exact laws_eqEntryS.fL_is .. | exact laws_eqState.fL_is .. | exact laws_markEntryS.fL_is .. | exact laws_markState.fL_is .. | exact laws_szEntryS.fL_is .. | exact laws_szState.fL_is .. | exact laws_toEntryS.fL_is .. | exact laws_toState.fL_is .. | exact spec_ChangesOf.fL_is .. | apply lI | apply lB | intro _
end Go.Proofs.Ytcciackemicbbaa.PFnExactChangesOf
